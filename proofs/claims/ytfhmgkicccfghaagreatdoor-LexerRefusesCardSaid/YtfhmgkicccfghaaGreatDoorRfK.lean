/- The walk of rational.Parse, shape by shape: no separator, a slash, a point. -/
import Derived.Test.YtfhmgkicccfghaaGreatDoorRfJ
import Derived.BigQuiet
import Derived.Deep.RegionHeld3
namespace Go.Proofs.YtfhmgkicccfghaaGreatDoor
set_option linter.all false
open Go.RowKit

structure Body (s t : ByteArray) (neg : Bool) : Prop where
 ne : 0 < s.size
 minus : neg = true → s.data.toList = 45 :: t.data.toList
 plain : neg = false → s.data.toList = 43 :: t.data.toList ∨ (t = s ∧ ∀ h : 0 < s.size, s[0].toNat ≠ 45 ∧ s[0].toNat ≠ 43)

theorem Body.size {s t : ByteArray} {neg : Bool} (h : Body s t neg) : t.size ≤ s.size := by
 cases neg with
 | true => have := h.minus rfl; rw [Lib.size_eq, Lib.size_eq, this]; simp
 | false =>
  rcases h.plain rfl with h | ⟨h, _⟩
  ·rw [Lib.size_eq, Lib.size_eq, h]; simp
  ·rw [h]; exact Nat.le_refl _

theorem ne_empty {s : ByteArray} (h : 0 < s.size) : (s.toList == []) = false ∧ s.toList.isEmpty = false := by
 rw [ByteArray.toList_eq]
 cases hc : s.data.toList with
 | nil => rw [Lib.size_eq, hc] at h; simp at h
 | cons c l => exact ⟨rfl, rfl⟩

theorem prefix45 (l : List UInt8) : Lib.trimPrefix (45 :: l) [45] = l ∧ Lib.hasPrefix (45 :: l) [45] = true := by
 have h : Lib.hasPrefix (45 :: l) [45] = true := by simp [Lib.hasPrefix, List.isPrefixOf]
 exact ⟨by unfold Lib.trimPrefix; rw [h]; rfl, h⟩

theorem prefix_not {c d : UInt8} (l : List UInt8) (hc : c ≠ d) : Lib.trimPrefix (c :: l) [d] = c :: l ∧ Lib.hasPrefix (c :: l) [d] = false := by
 have h : Lib.hasPrefix (c :: l) [d] = false := by simp [Lib.hasPrefix, List.isPrefixOf, Ne.symm hc]
 exact ⟨by unfold Lib.trimPrefix; rw [h]; rfl, h⟩

theorem cutp_minus {s t : ByteArray} (h : Body s t true) (w : World) :
  Calls Tryz.prog 62 #[.string s, .string ⟨#[45]⟩] w fun e w' => e = .returned (.tuple #[.string t, .bool true]) ∧ w = w' := by
 have hc := Tryz.strings_CutPrefix s ⟨#[45]⟩ w
 obtain ⟨p1, p2⟩ := prefix45 t.data.toList
 rw [show (⟨#[45]⟩ : ByteArray).data.toList = [45] from rfl, h.minus rfl, p1, p2] at hc
 exact hc.mono fun e w' ⟨h1, h2⟩ => ⟨h1, h2.symm⟩

theorem first_byte {s : ByteArray} (h : 0 < s.size) : ∃ c l, s.data.toList = c :: l ∧ s[0] = c := by
 cases hc : s.data.toList with
 | nil => rw [Lib.size_eq, hc] at h; simp at h
 | cons c l => exact ⟨c, l, rfl, get0 hc h⟩

theorem cutp_plain {s t : ByteArray} (h : Body s t false) (w : World) :
  Calls Tryz.prog 62 #[.string s, .string ⟨#[45]⟩] w fun e w' => e = .returned (.tuple #[.string s, .bool false]) ∧ w = w' := by
 have hc := Tryz.strings_CutPrefix s ⟨#[45]⟩ w
 obtain ⟨c, l, h1, h2⟩ := first_byte h.ne
 have hne : c ≠ 45 := by
  rcases h.plain rfl with h3 | ⟨_, h3⟩
  ·rw [h1] at h3
   cases h3
   decide
  ·intro e
   have := (h3 h.ne).1
   rw [h2, e] at this
   exact this rfl
 obtain ⟨p1, p2⟩ := prefix_not l hne
 rw [show (⟨#[45]⟩ : ByteArray).data.toList = [45] from rfl, h1, p1, p2, ← h1] at hc
 exact hc.mono fun e w' ⟨h1, h2⟩ => ⟨h1, h2.symm⟩

theorem trimp_plain {s t : ByteArray} (h : Body s t false) (w : World) :
  Calls Tryz.prog 63 #[.string s, .string ⟨#[43]⟩] w fun e w' => e = .returned (.string t) ∧ w = w' := by
 have hc := Tryz.strings_TrimPrefix s ⟨#[43]⟩ w
 rw [show (⟨#[43]⟩ : ByteArray).data.toList = [43] from rfl] at hc
 rcases h.plain rfl with h3 | ⟨h3, h4⟩
 ·have hp : Lib.hasPrefix (43 :: t.data.toList) [43] = true := by simp [Lib.hasPrefix, List.isPrefixOf]
  have hq : Lib.trimPrefix (43 :: t.data.toList) [43] = t.data.toList := by unfold Lib.trimPrefix; rw [hp]; rfl
  rw [h3, hq] at hc
  exact hc.mono fun e w' ⟨h1, h2⟩ => ⟨h1, h2.symm⟩
 ·obtain ⟨c, l, h1, h2⟩ := first_byte h.ne
  have hne : c ≠ 43 := by
   intro e
   have := (h4 h.ne).2
   rw [h2, e] at this
   exact this rfl
  obtain ⟨p1, _⟩ := prefix_not l hne
  rw [h1, p1, ← h1] at hc
  subst h3
  exact hc.mono fun e w' ⟨h1, h2⟩ => ⟨h1, h2.symm⟩

theorem sep_facts {t : ByteArray} {a b : List UInt8} {c : UInt8} (h : t.data.toList = a ++ c :: b) :
  t.extract 0 a.length = ⟨a.toArray⟩ ∧ t.extract (a.length + 1) t.size = ⟨b.toArray⟩ ∧ a.length + 1 ≤ t.size ∧ (∀ h : a.length < t.size, t[a.length] = c) ∧ a.length + (1 + b.length) = t.size := by
 have hlen : t.size = a.length + (1 + b.length) := by rw [Lib.size_eq, h, List.length_append, List.length_cons]; omega
 refine ⟨?_, ?_, by omega, fun h2 => ?_, hlen.symm⟩
 ·refine ba_of_list _ _ ?_
  rw [show (t.extract 0 a.length).data.toList = (t.data.toList.take a.length).drop 0 by simp [ByteArray.data_extract], h]
  simp
 ·refine ba_of_list _ _ ?_
  rw [show (t.extract (a.length + 1) t.size).data.toList = (t.data.toList.drop (a.length + 1)).take (t.size - (a.length + 1)) by simp [ByteArray.data_extract], h, show a ++ c :: b = (a ++ [c]) ++ b by simp, List.drop_left' (by simp)]
  exact List.take_of_length_le (by omega)
 ·rw [ba_get h _ h2]
  rw [List.getElem_append_right (Nat.le_refl _)]
  simp

theorem digB_append {a b : List UInt8} (h1 : digB a = true) (h2 : digB b = true) : digB (a ++ b) = true := by
 refine digB_of (fun c h => ?_) (by have := (digB_true h1).2; rw [List.length_append]; omega)
 rcases List.mem_append.1 h with h | h
 ·exact (digB_true h1).1 c h
 ·exact (digB_true h2).1 c h

theorem canon_dval_size (l : List UInt8) (hd : digB l = true) : (canon (dval l : Int)).size ≤ l.length + 1 :=
 canon_size_lt _ l.length (by rw [Int.natAbs_natCast]; exact dval_lt (digB_true hd).1) (digB_true hd).2

theorem ten_size (n : Nat) : (canon ((10 ^ n : Nat) : Int)).size ≤ n + 2 :=
 canon_size_lt _ (n + 1) (by rw [Int.natAbs_natCast]; exact Nat.pow_lt_pow_right (by omega) (by omega)) (by omega)

theorem ten_ne (n : Nat) : ((canon ((10 ^ n : Nat) : Int)).toList == [48]) = false := by
 rw [canon_beq0]
 exact decide_eq_false (by have := Nat.pow_pos (n := n) (show 0 < 10 by omega); omega)

theorem sgn_size {v : Int} {N : Nat} (h : (canon v).size ≤ N) : (canon (-v)).size ≤ N + 1 := canon_neg_size v N h

set_option maxRecDepth 100000 in
set_option maxHeartbeats 8000000 in
theorem rparse_none_bad1 (s t : ByteArray) (neg : Bool) (hb : Body s t neg) (ix : ∀ W, Calls Tryz.prog 64 #[.string t, .string ⟨#[47, 46]⟩] W fun e w' => e = .returned (.int .i64 (-1)) ∧ Below W.heap.size W w') (da : digB t.data.toList = false) (hs : s.size ≤ 1000) (w : World) (_ : Env w) :
  Calls Tryz.prog 53 #[.string s] w fun e w' => e = .returned (.tuple #[.string ⟨#[]⟩, .int .i64 15]) ∧ Below w.heap.size w w' := by
 have hts := hb.size
 have hts2 : t.size ≤ 1000 := by omega
 obtain ⟨q1, q2⟩ := ne_empty hb.ne
 have B := Lib.hid (Below.refl w.heap.size w)
 have IX := Lib.hid ix
 clear ix
 have pa := fun W => rplain_bad t W da (by omega)
 cases neg with
 | true =>
  have cp := fun W => cutp_minus hb W
  have PA := Lib.hid pa
  have CP := Lib.hid cp
  clear pa cp hb hts da
  go_enter Tryz.func53, Tryz.ntmps53
  go_wp2_with (first
   | (go_at_call 62; (with_reducible refine (CP.out _).mono ?_); rintro e wx ⟨rfl, rfl⟩)
   | (go_at_call 64; (with_reducible refine (IX.out _).mono ?_); rintro e wx ⟨rfl, q⟩; (first | replace B := Lib.hid (B.out.trans (q.mono B.out.size)) | replace B := Lib.hid ((B.out.trans ((Drew.of _ _).below _)).trans (q.mono B.out.size))); clear q)
   | (go_at_call 65; (with_reducible refine (PA.out _).mono ?_); rintro e wx ⟨rfl, rfl⟩)
   | fail "arm")
  go_ret2
  first | exact ⟨rfl, B.out⟩ | exact ⟨rfl, B.out.trans ((Drew.of _ _).below _)⟩
 | false =>
  have cp := fun W => cutp_plain hb W
  have tp := fun W => trimp_plain hb W
  have PA := Lib.hid pa
  have CP := Lib.hid cp
  have TP := Lib.hid tp
  clear pa cp tp hb hts da
  go_enter Tryz.func53, Tryz.ntmps53
  go_wp2_with (first
   | (go_at_call 62; (with_reducible refine (CP.out _).mono ?_); rintro e wx ⟨rfl, rfl⟩)
   | (go_at_call 63; (with_reducible refine (TP.out _).mono ?_); rintro e wx ⟨rfl, rfl⟩)
   | (go_at_call 64; (with_reducible refine (IX.out _).mono ?_); rintro e wx ⟨rfl, q⟩; (first | replace B := Lib.hid (B.out.trans (q.mono B.out.size)) | replace B := Lib.hid ((B.out.trans ((Drew.of _ _).below _)).trans (q.mono B.out.size))); clear q)
   | (go_at_call 65; (with_reducible refine (PA.out _).mono ?_); rintro e wx ⟨rfl, rfl⟩)
   | fail "arm")
  go_ret2
  first | exact ⟨rfl, B.out⟩ | exact ⟨rfl, B.out.trans ((Drew.of _ _).below _)⟩

set_option maxRecDepth 100000 in
set_option maxHeartbeats 8000000 in
theorem rparse_none_long (s t : ByteArray) (neg : Bool) (hb : Body s t neg) (ix : ∀ W, Calls Tryz.prog 64 #[.string t, .string ⟨#[47, 46]⟩] W fun e w' => e = .returned (.int .i64 (-1)) ∧ Below W.heap.size W w') (da : digB t.data.toList = true) (hl : 200 < s.size) (hs : s.size ≤ 1000) (w : World) (_ : Env w) :
  Calls Tryz.prog 53 #[.string s] w fun e w' => e = .returned (.tuple #[.string ⟨#[]⟩, .int .i64 16]) ∧ Below w.heap.size w w' := by
 have hts := hb.size
 have hts2 : t.size ≤ 1000 := by omega
 obtain ⟨q1, q2⟩ := ne_empty hb.ne
 have B := Lib.hid (Below.refl w.heap.size w)
 have IX := Lib.hid ix
 clear ix
 have pa := fun W => rplain_good t W da (by omega)
 have dl := decide_eq_true (p := (s.size : Int) > 200) (by omega)
 cases neg with
 | true =>
  have cp := fun W => cutp_minus hb W
  have PA := Lib.hid pa
  have CP := Lib.hid cp
  clear pa cp hb hts da
  go_enter Tryz.func53, Tryz.ntmps53
  go_wp2_with (first
   | (go_at_call 62; (with_reducible refine (CP.out _).mono ?_); rintro e wx ⟨rfl, rfl⟩)
   | (go_at_call 64; (with_reducible refine (IX.out _).mono ?_); rintro e wx ⟨rfl, q⟩; (first | replace B := Lib.hid (B.out.trans (q.mono B.out.size)) | replace B := Lib.hid ((B.out.trans ((Drew.of _ _).below _)).trans (q.mono B.out.size))); clear q)
   | (go_at_call 65; (with_reducible refine (PA.out _).mono ?_); rintro e wx ⟨rfl, rfl⟩)
   | fail "arm")
  go_ret2
  first | exact ⟨rfl, B.out⟩ | exact ⟨rfl, B.out.trans ((Drew.of _ _).below _)⟩
 | false =>
  have cp := fun W => cutp_plain hb W
  have tp := fun W => trimp_plain hb W
  have PA := Lib.hid pa
  have CP := Lib.hid cp
  have TP := Lib.hid tp
  clear pa cp tp hb hts da
  go_enter Tryz.func53, Tryz.ntmps53
  go_wp2_with (first
   | (go_at_call 62; (with_reducible refine (CP.out _).mono ?_); rintro e wx ⟨rfl, rfl⟩)
   | (go_at_call 63; (with_reducible refine (TP.out _).mono ?_); rintro e wx ⟨rfl, rfl⟩)
   | (go_at_call 64; (with_reducible refine (IX.out _).mono ?_); rintro e wx ⟨rfl, q⟩; (first | replace B := Lib.hid (B.out.trans (q.mono B.out.size)) | replace B := Lib.hid ((B.out.trans ((Drew.of _ _).below _)).trans (q.mono B.out.size))); clear q)
   | (go_at_call 65; (with_reducible refine (PA.out _).mono ?_); rintro e wx ⟨rfl, rfl⟩)
   | fail "arm")
  go_ret2
  first | exact ⟨rfl, B.out⟩ | exact ⟨rfl, B.out.trans ((Drew.of _ _).below _)⟩

set_option maxRecDepth 100000 in
set_option maxHeartbeats 8000000 in
theorem rparse_none_ok (s t : ByteArray) (neg : Bool) (hb : Body s t neg) (ix : ∀ W, Calls Tryz.prog 64 #[.string t, .string ⟨#[47, 46]⟩] W fun e w' => e = .returned (.int .i64 (-1)) ∧ Below W.heap.size W w') (da : digB t.data.toList = true) (hl : s.size ≤ 200) (_ : s.size ≤ 1000) (w : World) (he : Env w) :
  Calls Tryz.prog 53 #[.string s] w fun e w' => e = .returned (.tuple #[.string (canonR (mkRat (if neg = true then -((dval t.data.toList : Nat) : Int) else ((dval t.data.toList : Nat) : Int)) 1)), .int .i64 0]) ∧ Below w.heap.size w w' := by
 have hts := hb.size
 have hts2 : t.size ≤ 1000 := by omega
 obtain ⟨q1, q2⟩ := ne_empty hb.ne
 have B := Lib.hid (Below.refl w.heap.size w)
 have IX := Lib.hid ix
 clear ix
 have pa := fun W => rplain_good t W da (by omega)
 have dl := decide_eq_false (p := (s.size : Int) > 200) (by omega)
 have sn := canon_dval_size t.data.toList da
 rw [← Lib.size_eq] at sn
 cases neg with
 | true =>
  simp only [if_true]
  have sn2 := sgn_size sn
  have lo := fun W (hW : Below w.heap.size w W) => rlowest_any (-((dval t.data.toList : Nat) : Int)) 1 W (he.below hW).1 (by omega) (by omega) (by rw [show ((1 : Nat) : Int) = 1 from rfl, k_1]; decide)
  rw [show ((1 : Nat) : Int) = 1 from rfl, k_1] at lo
  have ng := fun W => neg_any ((dval t.data.toList : Nat) : Int) W (by omega)
  have cp := fun W => cutp_minus hb W
  generalize canonR (mkRat (-((dval t.data.toList : Nat) : Int)) 1) = R at *
  generalize canon (-((dval t.data.toList : Nat) : Int)) = CM at *
  generalize canon ((dval t.data.toList : Nat) : Int) = CN at *
  have PA := Lib.hid pa
  have CP := Lib.hid cp
  have LO := Lib.hid lo
  have NG := Lib.hid ng
  clear pa cp lo ng hb hts he sn2 sn da
  go_enter Tryz.func53, Tryz.ntmps53
  go_wp2_with (first
   | (go_at_call 62; (with_reducible refine (CP.out _).mono ?_); rintro e wx ⟨rfl, rfl⟩)
   | (go_at_call 64; (with_reducible refine (IX.out _).mono ?_); rintro e wx ⟨rfl, q⟩; (first | replace B := Lib.hid (B.out.trans (q.mono B.out.size)) | replace B := Lib.hid ((B.out.trans ((Drew.of _ _).below _)).trans (q.mono B.out.size))); clear q)
   | (go_at_call 65; (with_reducible refine (PA.out _).mono ?_); rintro e wx ⟨rfl, rfl⟩)
   | (go_at_call 67; (with_reducible refine (NG.out _).mono ?_); rintro e wx ⟨rfl, q⟩; (first | replace B := Lib.hid (B.out.trans (q.mono B.out.size)) | replace B := Lib.hid ((B.out.trans ((Drew.of _ _).below _)).trans (q.mono B.out.size))); clear q)
   | (go_at_call 68; (with_reducible refine (LO.out _ ?_).mono ?_); (first | exact B.out | exact B.out.trans ((Drew.of _ _).below _)); rintro e wx ⟨rfl, q⟩; (first | replace B := Lib.hid (B.out.trans (q.mono B.out.size)) | replace B := Lib.hid ((B.out.trans ((Drew.of _ _).below _)).trans (q.mono B.out.size))); clear q)
   | fail "arm")
  go_ret2
  first | exact ⟨rfl, B.out⟩ | exact ⟨rfl, B.out.trans ((Drew.of _ _).below _)⟩
 | false =>
  simp only [Bool.false_eq_true, if_false]
  have lo := fun W (hW : Below w.heap.size w W) => rlowest_any ((dval t.data.toList : Nat) : Int) 1 W (he.below hW).1 (by omega) (by omega) (by rw [show ((1 : Nat) : Int) = 1 from rfl, k_1]; decide)
  rw [show ((1 : Nat) : Int) = 1 from rfl, k_1] at lo
  have cp := fun W => cutp_plain hb W
  have tp := fun W => trimp_plain hb W
  generalize canonR (mkRat ((dval t.data.toList : Nat) : Int) 1) = R at *
  generalize canon ((dval t.data.toList : Nat) : Int) = CN at *
  have PA := Lib.hid pa
  have CP := Lib.hid cp
  have TP := Lib.hid tp
  have LO := Lib.hid lo
  clear pa cp tp lo hb hts he sn da
  go_enter Tryz.func53, Tryz.ntmps53
  go_wp2_with (first
   | (go_at_call 62; (with_reducible refine (CP.out _).mono ?_); rintro e wx ⟨rfl, rfl⟩)
   | (go_at_call 63; (with_reducible refine (TP.out _).mono ?_); rintro e wx ⟨rfl, rfl⟩)
   | (go_at_call 64; (with_reducible refine (IX.out _).mono ?_); rintro e wx ⟨rfl, q⟩; (first | replace B := Lib.hid (B.out.trans (q.mono B.out.size)) | replace B := Lib.hid ((B.out.trans ((Drew.of _ _).below _)).trans (q.mono B.out.size))); clear q)
   | (go_at_call 65; (with_reducible refine (PA.out _).mono ?_); rintro e wx ⟨rfl, rfl⟩)
   | (go_at_call 68; (with_reducible refine (LO.out _ ?_).mono ?_); (first | exact B.out | exact B.out.trans ((Drew.of _ _).below _)); rintro e wx ⟨rfl, q⟩; (first | replace B := Lib.hid (B.out.trans (q.mono B.out.size)) | replace B := Lib.hid ((B.out.trans ((Drew.of _ _).below _)).trans (q.mono B.out.size))); clear q)
   | fail "arm")
  go_ret2
  first | exact ⟨rfl, B.out⟩ | exact ⟨rfl, B.out.trans ((Drew.of _ _).below _)⟩

set_option maxRecDepth 100000 in
set_option maxHeartbeats 8000000 in
theorem rparse_slash_bad1 (s t : ByteArray) (neg : Bool) (hb : Body s t neg) (a b : List UInt8) (hT : t.data.toList = a ++ 47 :: b) (ix : ∀ W, Calls Tryz.prog 64 #[.string t, .string ⟨#[47, 46]⟩] W fun e w' => e = .returned (.int .i64 (a.length : Int)) ∧ Below W.heap.size W w') (da : digB a = false) (hs : s.size ≤ 1000) (w : World) (_ : Env w) :
  Calls Tryz.prog 53 #[.string s] w fun e w' => e = .returned (.tuple #[.string ⟨#[]⟩, .int .i64 15]) ∧ Below w.heap.size w w' := by
 have hts := hb.size
 have hts2 : t.size ≤ 1000 := by omega
 obtain ⟨q1, q2⟩ := ne_empty hb.ne
 have B := Lib.hid (Below.refl w.heap.size w)
 have IX := Lib.hid ix
 clear ix
 obtain ⟨fA, fB, fk, fc, fl⟩ := sep_facts hT
 have la : (⟨a.toArray⟩ : ByteArray).size = a.length := rfl
 have lb : (⟨b.toArray⟩ : ByteArray).size = b.length := rfl
 have hk : a.length < t.size := by omega
 have sA : (⟨a.toArray⟩ : ByteArray).size ≤ 1000 := by omega
 have sC : (⟨b.toArray⟩ : ByteArray).size ≤ 1000 := by omega
 have c47 : ((t[a.length].toNat : Int) == 47) = true := by rw [fc hk]; decide
 have c46 : ((t[a.length].toNat : Int) == 46) = false := by rw [fc hk]; decide
 clear fc
 have pa := fun W => rplain_bad ⟨a.toArray⟩ W da (by omega)
 cases neg with
 | true =>
  have cp := fun W => cutp_minus hb W
  generalize hA : (⟨a.toArray⟩ : ByteArray) = A at *
  generalize hB : (⟨b.toArray⟩ : ByteArray) = C at *
  generalize a.length = k at *
  have PA := Lib.hid pa
  have CP := Lib.hid cp
  clear pa cp hb hts hA hB fl la hT lb da
  go_enter Tryz.func53, Tryz.ntmps53
  go_upto_region 9 with (first
   | (go_at_call 62; (with_reducible refine (CP.out _).mono ?_); rintro e wx ⟨rfl, rfl⟩)
   | (go_at_call 64; (with_reducible refine (IX.out _).mono ?_); rintro e wx ⟨rfl, q⟩; (first | replace B := Lib.hid (B.out.trans (q.mono B.out.size)) | replace B := Lib.hid ((B.out.trans ((Drew.of _ _).below _)).trans (q.mono B.out.size))); clear q)
   | fail "arm")
  go_quiet (fail)
  go_wp2_with (first
   | (go_at_call_of 65 (Value.string A); (with_reducible refine (PA.out _).mono ?_); rintro e wx ⟨rfl, rfl⟩)
   | fail "arm")
  go_ret2
  first | exact ⟨rfl, B.out⟩ | exact ⟨rfl, B.out.trans ((Drew.of _ _).below _)⟩
 | false =>
  have cp := fun W => cutp_plain hb W
  have tp := fun W => trimp_plain hb W
  generalize hA : (⟨a.toArray⟩ : ByteArray) = A at *
  generalize hB : (⟨b.toArray⟩ : ByteArray) = C at *
  generalize a.length = k at *
  have PA := Lib.hid pa
  have CP := Lib.hid cp
  have TP := Lib.hid tp
  clear pa cp tp hb hts hA hB fl la hT lb da
  go_enter Tryz.func53, Tryz.ntmps53
  go_upto_region 9 with (first
   | (go_at_call 62; (with_reducible refine (CP.out _).mono ?_); rintro e wx ⟨rfl, rfl⟩)
   | (go_at_call 63; (with_reducible refine (TP.out _).mono ?_); rintro e wx ⟨rfl, rfl⟩)
   | (go_at_call 64; (with_reducible refine (IX.out _).mono ?_); rintro e wx ⟨rfl, q⟩; (first | replace B := Lib.hid (B.out.trans (q.mono B.out.size)) | replace B := Lib.hid ((B.out.trans ((Drew.of _ _).below _)).trans (q.mono B.out.size))); clear q)
   | fail "arm")
  go_quiet (fail)
  go_wp2_with (first
   | (go_at_call_of 65 (Value.string A); (with_reducible refine (PA.out _).mono ?_); rintro e wx ⟨rfl, rfl⟩)
   | fail "arm")
  go_ret2
  first | exact ⟨rfl, B.out⟩ | exact ⟨rfl, B.out.trans ((Drew.of _ _).below _)⟩

set_option maxRecDepth 100000 in
set_option maxHeartbeats 8000000 in
theorem rparse_slash_bad2 (s t : ByteArray) (neg : Bool) (hb : Body s t neg) (a b : List UInt8) (hT : t.data.toList = a ++ 47 :: b) (ix : ∀ W, Calls Tryz.prog 64 #[.string t, .string ⟨#[47, 46]⟩] W fun e w' => e = .returned (.int .i64 (a.length : Int)) ∧ Below W.heap.size W w') (da : digB a = true) (db : digB b = false) (hs : s.size ≤ 1000) (w : World) (_ : Env w) :
  Calls Tryz.prog 53 #[.string s] w fun e w' => e = .returned (.tuple #[.string ⟨#[]⟩, .int .i64 15]) ∧ Below w.heap.size w w' := by
 have hts := hb.size
 have hts2 : t.size ≤ 1000 := by omega
 obtain ⟨q1, q2⟩ := ne_empty hb.ne
 have B := Lib.hid (Below.refl w.heap.size w)
 have IX := Lib.hid ix
 clear ix
 obtain ⟨fA, fB, fk, fc, fl⟩ := sep_facts hT
 have la : (⟨a.toArray⟩ : ByteArray).size = a.length := rfl
 have lb : (⟨b.toArray⟩ : ByteArray).size = b.length := rfl
 have hk : a.length < t.size := by omega
 have sA : (⟨a.toArray⟩ : ByteArray).size ≤ 1000 := by omega
 have sC : (⟨b.toArray⟩ : ByteArray).size ≤ 1000 := by omega
 have c47 : ((t[a.length].toNat : Int) == 47) = true := by rw [fc hk]; decide
 have c46 : ((t[a.length].toNat : Int) == 46) = false := by rw [fc hk]; decide
 clear fc
 have pa := fun W => rplain_good ⟨a.toArray⟩ W da (by omega)
 have pb := fun W => rplain_bad ⟨b.toArray⟩ W db (by omega)
 rw [show (⟨a.toArray⟩ : ByteArray).data.toList = a from rfl] at pa
 cases neg with
 | true =>
  have cp := fun W => cutp_minus hb W
  generalize hA : (⟨a.toArray⟩ : ByteArray) = A at *
  generalize hB : (⟨b.toArray⟩ : ByteArray) = C at *
  generalize a.length = k at *
  have PA := Lib.hid pa
  have PB := Lib.hid pb
  have CP := Lib.hid cp
  clear pa pb cp hb hts hA hB fl la hT lb da db
  go_enter Tryz.func53, Tryz.ntmps53
  go_upto_region 9 with (first
   | (go_at_call 62; (with_reducible refine (CP.out _).mono ?_); rintro e wx ⟨rfl, rfl⟩)
   | (go_at_call 64; (with_reducible refine (IX.out _).mono ?_); rintro e wx ⟨rfl, q⟩; (first | replace B := Lib.hid (B.out.trans (q.mono B.out.size)) | replace B := Lib.hid ((B.out.trans ((Drew.of _ _).below _)).trans (q.mono B.out.size))); clear q)
   | fail "arm")
  go_quiet (fail)
  go_wp2_with (first
   | (go_at_call_of 65 (Value.string A); (with_reducible refine (PA.out _).mono ?_); rintro e wx ⟨rfl, rfl⟩)
   | (go_at_call_of 65 (Value.string C); (with_reducible refine (PB.out _).mono ?_); rintro e wx ⟨rfl, rfl⟩)
   | fail "arm")
  go_ret2
  first | exact ⟨rfl, B.out⟩ | exact ⟨rfl, B.out.trans ((Drew.of _ _).below _)⟩
 | false =>
  have cp := fun W => cutp_plain hb W
  have tp := fun W => trimp_plain hb W
  generalize hA : (⟨a.toArray⟩ : ByteArray) = A at *
  generalize hB : (⟨b.toArray⟩ : ByteArray) = C at *
  generalize a.length = k at *
  have PA := Lib.hid pa
  have PB := Lib.hid pb
  have CP := Lib.hid cp
  have TP := Lib.hid tp
  clear pa pb cp tp hb hts hA hB fl la hT lb da db
  go_enter Tryz.func53, Tryz.ntmps53
  go_upto_region 9 with (first
   | (go_at_call 62; (with_reducible refine (CP.out _).mono ?_); rintro e wx ⟨rfl, rfl⟩)
   | (go_at_call 63; (with_reducible refine (TP.out _).mono ?_); rintro e wx ⟨rfl, rfl⟩)
   | (go_at_call 64; (with_reducible refine (IX.out _).mono ?_); rintro e wx ⟨rfl, q⟩; (first | replace B := Lib.hid (B.out.trans (q.mono B.out.size)) | replace B := Lib.hid ((B.out.trans ((Drew.of _ _).below _)).trans (q.mono B.out.size))); clear q)
   | fail "arm")
  go_quiet (fail)
  go_wp2_with (first
   | (go_at_call_of 65 (Value.string A); (with_reducible refine (PA.out _).mono ?_); rintro e wx ⟨rfl, rfl⟩)
   | (go_at_call_of 65 (Value.string C); (with_reducible refine (PB.out _).mono ?_); rintro e wx ⟨rfl, rfl⟩)
   | fail "arm")
  go_ret2
  first | exact ⟨rfl, B.out⟩ | exact ⟨rfl, B.out.trans ((Drew.of _ _).below _)⟩

set_option maxRecDepth 100000 in
set_option maxHeartbeats 8000000 in
theorem rparse_slash_long (s t : ByteArray) (neg : Bool) (hb : Body s t neg) (a b : List UInt8) (hT : t.data.toList = a ++ 47 :: b) (ix : ∀ W, Calls Tryz.prog 64 #[.string t, .string ⟨#[47, 46]⟩] W fun e w' => e = .returned (.int .i64 (a.length : Int)) ∧ Below W.heap.size W w') (da : digB a = true) (db : digB b = true) (hl : 200 < s.size) (hs : s.size ≤ 1000) (w : World) (_ : Env w) :
  Calls Tryz.prog 53 #[.string s] w fun e w' => e = .returned (.tuple #[.string ⟨#[]⟩, .int .i64 16]) ∧ Below w.heap.size w w' := by
 have hts := hb.size
 have hts2 : t.size ≤ 1000 := by omega
 obtain ⟨q1, q2⟩ := ne_empty hb.ne
 have B := Lib.hid (Below.refl w.heap.size w)
 have IX := Lib.hid ix
 clear ix
 obtain ⟨fA, fB, fk, fc, fl⟩ := sep_facts hT
 have la : (⟨a.toArray⟩ : ByteArray).size = a.length := rfl
 have lb : (⟨b.toArray⟩ : ByteArray).size = b.length := rfl
 have hk : a.length < t.size := by omega
 have sA : (⟨a.toArray⟩ : ByteArray).size ≤ 1000 := by omega
 have sC : (⟨b.toArray⟩ : ByteArray).size ≤ 1000 := by omega
 have c47 : ((t[a.length].toNat : Int) == 47) = true := by rw [fc hk]; decide
 have c46 : ((t[a.length].toNat : Int) == 46) = false := by rw [fc hk]; decide
 clear fc
 have pa := fun W => rplain_good ⟨a.toArray⟩ W da (by omega)
 have pb := fun W => rplain_good ⟨b.toArray⟩ W db (by omega)
 rw [show (⟨a.toArray⟩ : ByteArray).data.toList = a from rfl] at pa
 rw [show (⟨b.toArray⟩ : ByteArray).data.toList = b from rfl] at pb
 have dl := decide_eq_true (p := (s.size : Int) > 200) (by omega)
 cases neg with
 | true =>
  have cp := fun W => cutp_minus hb W
  generalize hA : (⟨a.toArray⟩ : ByteArray) = A at *
  generalize hB : (⟨b.toArray⟩ : ByteArray) = C at *
  generalize a.length = k at *
  have PA := Lib.hid pa
  have PB := Lib.hid pb
  have CP := Lib.hid cp
  clear pa pb cp hb hts hA hB fl la hT lb da db
  go_enter Tryz.func53, Tryz.ntmps53
  go_upto_region 9 with (first
   | (go_at_call 62; (with_reducible refine (CP.out _).mono ?_); rintro e wx ⟨rfl, rfl⟩)
   | (go_at_call 64; (with_reducible refine (IX.out _).mono ?_); rintro e wx ⟨rfl, q⟩; (first | replace B := Lib.hid (B.out.trans (q.mono B.out.size)) | replace B := Lib.hid ((B.out.trans ((Drew.of _ _).below _)).trans (q.mono B.out.size))); clear q)
   | fail "arm")
  go_quiet (fail)
  go_wp2_with (first
   | (go_at_call_of 65 (Value.string A); (with_reducible refine (PA.out _).mono ?_); rintro e wx ⟨rfl, rfl⟩)
   | (go_at_call_of 65 (Value.string C); (with_reducible refine (PB.out _).mono ?_); rintro e wx ⟨rfl, rfl⟩)
   | fail "arm")
  go_ret2
  first | exact ⟨rfl, B.out⟩ | exact ⟨rfl, B.out.trans ((Drew.of _ _).below _)⟩
 | false =>
  have cp := fun W => cutp_plain hb W
  have tp := fun W => trimp_plain hb W
  generalize hA : (⟨a.toArray⟩ : ByteArray) = A at *
  generalize hB : (⟨b.toArray⟩ : ByteArray) = C at *
  generalize a.length = k at *
  have PA := Lib.hid pa
  have PB := Lib.hid pb
  have CP := Lib.hid cp
  have TP := Lib.hid tp
  clear pa pb cp tp hb hts hA hB fl la hT lb da db
  go_enter Tryz.func53, Tryz.ntmps53
  go_upto_region 9 with (first
   | (go_at_call 62; (with_reducible refine (CP.out _).mono ?_); rintro e wx ⟨rfl, rfl⟩)
   | (go_at_call 63; (with_reducible refine (TP.out _).mono ?_); rintro e wx ⟨rfl, rfl⟩)
   | (go_at_call 64; (with_reducible refine (IX.out _).mono ?_); rintro e wx ⟨rfl, q⟩; (first | replace B := Lib.hid (B.out.trans (q.mono B.out.size)) | replace B := Lib.hid ((B.out.trans ((Drew.of _ _).below _)).trans (q.mono B.out.size))); clear q)
   | fail "arm")
  go_quiet (fail)
  go_wp2_with (first
   | (go_at_call_of 65 (Value.string A); (with_reducible refine (PA.out _).mono ?_); rintro e wx ⟨rfl, rfl⟩)
   | (go_at_call_of 65 (Value.string C); (with_reducible refine (PB.out _).mono ?_); rintro e wx ⟨rfl, rfl⟩)
   | fail "arm")
  go_ret2
  first | exact ⟨rfl, B.out⟩ | exact ⟨rfl, B.out.trans ((Drew.of _ _).below _)⟩

set_option maxRecDepth 100000 in
set_option maxHeartbeats 8000000 in
theorem rparse_slash_zero (s t : ByteArray) (neg : Bool) (hb : Body s t neg) (a b : List UInt8) (hT : t.data.toList = a ++ 47 :: b) (ix : ∀ W, Calls Tryz.prog 64 #[.string t, .string ⟨#[47, 46]⟩] W fun e w' => e = .returned (.int .i64 (a.length : Int)) ∧ Below W.heap.size W w') (da : digB a = true) (db : digB b = true) (hl : s.size ≤ 200) (hz : dval b = 0) (_ : s.size ≤ 1000) (w : World) (_ : Env w) :
  Calls Tryz.prog 53 #[.string s] w fun e w' => e = .returned (.tuple #[.string ⟨#[]⟩, .int .i64 17]) ∧ Below w.heap.size w w' := by
 have hts := hb.size
 have hts2 : t.size ≤ 1000 := by omega
 obtain ⟨q1, q2⟩ := ne_empty hb.ne
 have B := Lib.hid (Below.refl w.heap.size w)
 have IX := Lib.hid ix
 clear ix
 obtain ⟨fA, fB, fk, fc, fl⟩ := sep_facts hT
 have la : (⟨a.toArray⟩ : ByteArray).size = a.length := rfl
 have lb : (⟨b.toArray⟩ : ByteArray).size = b.length := rfl
 have hk : a.length < t.size := by omega
 have sA : (⟨a.toArray⟩ : ByteArray).size ≤ 1000 := by omega
 have sC : (⟨b.toArray⟩ : ByteArray).size ≤ 1000 := by omega
 have c47 : ((t[a.length].toNat : Int) == 47) = true := by rw [fc hk]; decide
 have c46 : ((t[a.length].toNat : Int) == 46) = false := by rw [fc hk]; decide
 clear fc
 have pa := fun W => rplain_good ⟨a.toArray⟩ W da (by omega)
 have pb := fun W => rplain_good ⟨b.toArray⟩ W db (by omega)
 rw [show (⟨a.toArray⟩ : ByteArray).data.toList = a from rfl] at pa
 rw [show (⟨b.toArray⟩ : ByteArray).data.toList = b from rfl] at pb
 have dl := decide_eq_false (p := (s.size : Int) > 200) (by omega)
 have sn := canon_dval_size a da
 have sd := canon_dval_size b db
 have hz0 := canon_beq0 ((dval b : Nat) : Int)
 rw [decide_eq_true (by omega)] at hz0
 cases neg with
 | true =>
  have cp := fun W => cutp_minus hb W
  generalize canon ((dval a : Nat) : Int) = CN at *
  generalize canon ((dval b : Nat) : Int) = CD at *
  generalize hA : (⟨a.toArray⟩ : ByteArray) = A at *
  generalize hB : (⟨b.toArray⟩ : ByteArray) = C at *
  generalize a.length = k at *
  have PA := Lib.hid pa
  have PB := Lib.hid pb
  have CP := Lib.hid cp
  clear pa pb cp hb hts sn sd hA hB fl la hT lb da db hz
  go_enter Tryz.func53, Tryz.ntmps53
  go_upto_region 9 with (first
   | (go_at_call 62; (with_reducible refine (CP.out _).mono ?_); rintro e wx ⟨rfl, rfl⟩)
   | (go_at_call 64; (with_reducible refine (IX.out _).mono ?_); rintro e wx ⟨rfl, q⟩; (first | replace B := Lib.hid (B.out.trans (q.mono B.out.size)) | replace B := Lib.hid ((B.out.trans ((Drew.of _ _).below _)).trans (q.mono B.out.size))); clear q)
   | fail "arm")
  go_quiet (fail)
  go_wp2_with (first
   | (go_at_call_of 65 (Value.string A); (with_reducible refine (PA.out _).mono ?_); rintro e wx ⟨rfl, rfl⟩)
   | (go_at_call_of 65 (Value.string C); (with_reducible refine (PB.out _).mono ?_); rintro e wx ⟨rfl, rfl⟩)
   | fail "arm")
  go_ret2
  first | exact ⟨rfl, B.out⟩ | exact ⟨rfl, B.out.trans ((Drew.of _ _).below _)⟩
 | false =>
  have cp := fun W => cutp_plain hb W
  have tp := fun W => trimp_plain hb W
  generalize canon ((dval a : Nat) : Int) = CN at *
  generalize canon ((dval b : Nat) : Int) = CD at *
  generalize hA : (⟨a.toArray⟩ : ByteArray) = A at *
  generalize hB : (⟨b.toArray⟩ : ByteArray) = C at *
  generalize a.length = k at *
  have PA := Lib.hid pa
  have PB := Lib.hid pb
  have CP := Lib.hid cp
  have TP := Lib.hid tp
  clear pa pb cp tp hb hts sn sd hA hB fl la hT lb da db hz
  go_enter Tryz.func53, Tryz.ntmps53
  go_upto_region 9 with (first
   | (go_at_call 62; (with_reducible refine (CP.out _).mono ?_); rintro e wx ⟨rfl, rfl⟩)
   | (go_at_call 63; (with_reducible refine (TP.out _).mono ?_); rintro e wx ⟨rfl, rfl⟩)
   | (go_at_call 64; (with_reducible refine (IX.out _).mono ?_); rintro e wx ⟨rfl, q⟩; (first | replace B := Lib.hid (B.out.trans (q.mono B.out.size)) | replace B := Lib.hid ((B.out.trans ((Drew.of _ _).below _)).trans (q.mono B.out.size))); clear q)
   | fail "arm")
  go_quiet (fail)
  go_wp2_with (first
   | (go_at_call_of 65 (Value.string A); (with_reducible refine (PA.out _).mono ?_); rintro e wx ⟨rfl, rfl⟩)
   | (go_at_call_of 65 (Value.string C); (with_reducible refine (PB.out _).mono ?_); rintro e wx ⟨rfl, rfl⟩)
   | fail "arm")
  go_ret2
  first | exact ⟨rfl, B.out⟩ | exact ⟨rfl, B.out.trans ((Drew.of _ _).below _)⟩

set_option maxRecDepth 100000 in
set_option maxHeartbeats 8000000 in
theorem rparse_slash_ok (s t : ByteArray) (neg : Bool) (hb : Body s t neg) (a b : List UInt8) (hT : t.data.toList = a ++ 47 :: b) (ix : ∀ W, Calls Tryz.prog 64 #[.string t, .string ⟨#[47, 46]⟩] W fun e w' => e = .returned (.int .i64 (a.length : Int)) ∧ Below W.heap.size W w') (da : digB a = true) (db : digB b = true) (hl : s.size ≤ 200) (hz : 0 < dval b) (_ : s.size ≤ 1000) (w : World) (he : Env w) :
  Calls Tryz.prog 53 #[.string s] w fun e w' => e = .returned (.tuple #[.string (canonR (mkRat (if neg = true then -((dval a : Nat) : Int) else ((dval a : Nat) : Int)) (dval b))), .int .i64 0]) ∧ Below w.heap.size w w' := by
 have hts := hb.size
 have hts2 : t.size ≤ 1000 := by omega
 obtain ⟨q1, q2⟩ := ne_empty hb.ne
 have B := Lib.hid (Below.refl w.heap.size w)
 have IX := Lib.hid ix
 clear ix
 obtain ⟨fA, fB, fk, fc, fl⟩ := sep_facts hT
 have la : (⟨a.toArray⟩ : ByteArray).size = a.length := rfl
 have lb : (⟨b.toArray⟩ : ByteArray).size = b.length := rfl
 have hk : a.length < t.size := by omega
 have sA : (⟨a.toArray⟩ : ByteArray).size ≤ 1000 := by omega
 have sC : (⟨b.toArray⟩ : ByteArray).size ≤ 1000 := by omega
 have c47 : ((t[a.length].toNat : Int) == 47) = true := by rw [fc hk]; decide
 have c46 : ((t[a.length].toNat : Int) == 46) = false := by rw [fc hk]; decide
 clear fc
 have pa := fun W => rplain_good ⟨a.toArray⟩ W da (by omega)
 have pb := fun W => rplain_good ⟨b.toArray⟩ W db (by omega)
 rw [show (⟨a.toArray⟩ : ByteArray).data.toList = a from rfl] at pa
 rw [show (⟨b.toArray⟩ : ByteArray).data.toList = b from rfl] at pb
 have dl := decide_eq_false (p := (s.size : Int) > 200) (by omega)
 have sn := canon_dval_size a da
 have sd := canon_dval_size b db
 have hz0 := canon_beq0 ((dval b : Nat) : Int)
 rw [decide_eq_false (by omega)] at hz0
 cases neg with
 | true =>
  simp only [if_true]
  have sn2 := sgn_size sn
  have lo := fun W (hW : Below w.heap.size w W) => rlowest_any (-((dval a : Nat) : Int)) (dval b) W (he.below hW).1 hz (by omega) (by omega)
  have ng := fun W => neg_any ((dval a : Nat) : Int) W (by omega)
  have cp := fun W => cutp_minus hb W
  generalize canonR (mkRat (-((dval a : Nat) : Int)) (dval b)) = R at *
  generalize canon (-((dval a : Nat) : Int)) = CM at *
  generalize canon ((dval a : Nat) : Int) = CN at *
  generalize canon ((dval b : Nat) : Int) = CD at *
  generalize hA : (⟨a.toArray⟩ : ByteArray) = A at *
  generalize hB : (⟨b.toArray⟩ : ByteArray) = C at *
  generalize a.length = k at *
  have PA := Lib.hid pa
  have PB := Lib.hid pb
  have CP := Lib.hid cp
  have LO := Lib.hid lo
  have NG := Lib.hid ng
  clear pa pb cp lo ng hb hts he sn2 sn sd hA hB fl la hT lb da db hz
  go_enter Tryz.func53, Tryz.ntmps53
  go_upto_region 9 with (first
   | (go_at_call 62; (with_reducible refine (CP.out _).mono ?_); rintro e wx ⟨rfl, rfl⟩)
   | (go_at_call 64; (with_reducible refine (IX.out _).mono ?_); rintro e wx ⟨rfl, q⟩; (first | replace B := Lib.hid (B.out.trans (q.mono B.out.size)) | replace B := Lib.hid ((B.out.trans ((Drew.of _ _).below _)).trans (q.mono B.out.size))); clear q)
   | fail "arm")
  go_quiet (fail)
  go_wp2_with (first
   | (go_at_call_of 65 (Value.string A); (with_reducible refine (PA.out _).mono ?_); rintro e wx ⟨rfl, rfl⟩)
   | (go_at_call_of 65 (Value.string C); (with_reducible refine (PB.out _).mono ?_); rintro e wx ⟨rfl, rfl⟩)
   | (go_at_call 67; (with_reducible refine (NG.out _).mono ?_); rintro e wx ⟨rfl, q⟩; (first | replace B := Lib.hid (B.out.trans (q.mono B.out.size)) | replace B := Lib.hid ((B.out.trans ((Drew.of _ _).below _)).trans (q.mono B.out.size))); clear q)
   | (go_at_call 68; (with_reducible refine (LO.out _ ?_).mono ?_); (first | exact B.out | exact B.out.trans ((Drew.of _ _).below _)); rintro e wx ⟨rfl, q⟩; (first | replace B := Lib.hid (B.out.trans (q.mono B.out.size)) | replace B := Lib.hid ((B.out.trans ((Drew.of _ _).below _)).trans (q.mono B.out.size))); clear q)
   | fail "arm")
  go_ret2
  first | exact ⟨rfl, B.out⟩ | exact ⟨rfl, B.out.trans ((Drew.of _ _).below _)⟩
 | false =>
  simp only [Bool.false_eq_true, if_false]
  have lo := fun W (hW : Below w.heap.size w W) => rlowest_any ((dval a : Nat) : Int) (dval b) W (he.below hW).1 hz (by omega) (by omega)
  have cp := fun W => cutp_plain hb W
  have tp := fun W => trimp_plain hb W
  generalize canonR (mkRat ((dval a : Nat) : Int) (dval b)) = R at *
  generalize canon ((dval a : Nat) : Int) = CN at *
  generalize canon ((dval b : Nat) : Int) = CD at *
  generalize hA : (⟨a.toArray⟩ : ByteArray) = A at *
  generalize hB : (⟨b.toArray⟩ : ByteArray) = C at *
  generalize a.length = k at *
  have PA := Lib.hid pa
  have PB := Lib.hid pb
  have CP := Lib.hid cp
  have TP := Lib.hid tp
  have LO := Lib.hid lo
  clear pa pb cp tp lo hb hts he sn sd hA hB fl la hT lb da db hz
  go_enter Tryz.func53, Tryz.ntmps53
  go_upto_region 9 with (first
   | (go_at_call 62; (with_reducible refine (CP.out _).mono ?_); rintro e wx ⟨rfl, rfl⟩)
   | (go_at_call 63; (with_reducible refine (TP.out _).mono ?_); rintro e wx ⟨rfl, rfl⟩)
   | (go_at_call 64; (with_reducible refine (IX.out _).mono ?_); rintro e wx ⟨rfl, q⟩; (first | replace B := Lib.hid (B.out.trans (q.mono B.out.size)) | replace B := Lib.hid ((B.out.trans ((Drew.of _ _).below _)).trans (q.mono B.out.size))); clear q)
   | fail "arm")
  go_quiet (fail)
  go_wp2_with (first
   | (go_at_call_of 65 (Value.string A); (with_reducible refine (PA.out _).mono ?_); rintro e wx ⟨rfl, rfl⟩)
   | (go_at_call_of 65 (Value.string C); (with_reducible refine (PB.out _).mono ?_); rintro e wx ⟨rfl, rfl⟩)
   | (go_at_call 68; (with_reducible refine (LO.out _ ?_).mono ?_); (first | exact B.out | exact B.out.trans ((Drew.of _ _).below _)); rintro e wx ⟨rfl, q⟩; (first | replace B := Lib.hid (B.out.trans (q.mono B.out.size)) | replace B := Lib.hid ((B.out.trans ((Drew.of _ _).below _)).trans (q.mono B.out.size))); clear q)
   | fail "arm")
  go_ret2
  first | exact ⟨rfl, B.out⟩ | exact ⟨rfl, B.out.trans ((Drew.of _ _).below _)⟩

set_option maxRecDepth 100000 in
set_option maxHeartbeats 8000000 in
theorem rparse_dot_bad1 (s t : ByteArray) (neg : Bool) (hb : Body s t neg) (a b : List UInt8) (hT : t.data.toList = a ++ 46 :: b) (ix : ∀ W, Calls Tryz.prog 64 #[.string t, .string ⟨#[47, 46]⟩] W fun e w' => e = .returned (.int .i64 (a.length : Int)) ∧ Below W.heap.size W w') (da : digB a = false) (hs : s.size ≤ 1000) (w : World) (_ : Env w) :
  Calls Tryz.prog 53 #[.string s] w fun e w' => e = .returned (.tuple #[.string ⟨#[]⟩, .int .i64 15]) ∧ Below w.heap.size w w' := by
 have hts := hb.size
 have hts2 : t.size ≤ 1000 := by omega
 obtain ⟨q1, q2⟩ := ne_empty hb.ne
 have B := Lib.hid (Below.refl w.heap.size w)
 have IX := Lib.hid ix
 clear ix
 obtain ⟨fA, fB, fk, fc, fl⟩ := sep_facts hT
 have la : (⟨a.toArray⟩ : ByteArray).size = a.length := rfl
 have lb : (⟨b.toArray⟩ : ByteArray).size = b.length := rfl
 have hk : a.length < t.size := by omega
 have sA : (⟨a.toArray⟩ : ByteArray).size ≤ 1000 := by omega
 have sC : (⟨b.toArray⟩ : ByteArray).size ≤ 1000 := by omega
 have c47 : ((t[a.length].toNat : Int) == 47) = false := by rw [fc hk]; decide
 have c46 : ((t[a.length].toNat : Int) == 46) = true := by rw [fc hk]; decide
 clear fc
 have pa := fun W => rplain_bad ⟨a.toArray⟩ W da (by omega)
 cases neg with
 | true =>
  have cp := fun W => cutp_minus hb W
  generalize hA : (⟨a.toArray⟩ : ByteArray) = A at *
  generalize hB : (⟨b.toArray⟩ : ByteArray) = C at *
  generalize a.length = k at *
  have PA := Lib.hid pa
  have CP := Lib.hid cp
  clear pa cp hb hts hA hB fl la hT lb da
  go_enter Tryz.func53, Tryz.ntmps53
  go_upto_region 9 with (first
   | (go_at_call 62; (with_reducible refine (CP.out _).mono ?_); rintro e wx ⟨rfl, rfl⟩)
   | (go_at_call 64; (with_reducible refine (IX.out _).mono ?_); rintro e wx ⟨rfl, q⟩; (first | replace B := Lib.hid (B.out.trans (q.mono B.out.size)) | replace B := Lib.hid ((B.out.trans ((Drew.of _ _).below _)).trans (q.mono B.out.size))); clear q)
   | fail "arm")
  go_quiet (fail)
  go_wp2_with (first
   | (go_at_call_of 65 (Value.string A); (with_reducible refine (PA.out _).mono ?_); rintro e wx ⟨rfl, rfl⟩)
   | fail "arm")
  go_ret2
  first | exact ⟨rfl, B.out⟩ | exact ⟨rfl, B.out.trans ((Drew.of _ _).below _)⟩
 | false =>
  have cp := fun W => cutp_plain hb W
  have tp := fun W => trimp_plain hb W
  generalize hA : (⟨a.toArray⟩ : ByteArray) = A at *
  generalize hB : (⟨b.toArray⟩ : ByteArray) = C at *
  generalize a.length = k at *
  have PA := Lib.hid pa
  have CP := Lib.hid cp
  have TP := Lib.hid tp
  clear pa cp tp hb hts hA hB fl la hT lb da
  go_enter Tryz.func53, Tryz.ntmps53
  go_upto_region 9 with (first
   | (go_at_call 62; (with_reducible refine (CP.out _).mono ?_); rintro e wx ⟨rfl, rfl⟩)
   | (go_at_call 63; (with_reducible refine (TP.out _).mono ?_); rintro e wx ⟨rfl, rfl⟩)
   | (go_at_call 64; (with_reducible refine (IX.out _).mono ?_); rintro e wx ⟨rfl, q⟩; (first | replace B := Lib.hid (B.out.trans (q.mono B.out.size)) | replace B := Lib.hid ((B.out.trans ((Drew.of _ _).below _)).trans (q.mono B.out.size))); clear q)
   | fail "arm")
  go_quiet (fail)
  go_wp2_with (first
   | (go_at_call_of 65 (Value.string A); (with_reducible refine (PA.out _).mono ?_); rintro e wx ⟨rfl, rfl⟩)
   | fail "arm")
  go_ret2
  first | exact ⟨rfl, B.out⟩ | exact ⟨rfl, B.out.trans ((Drew.of _ _).below _)⟩

set_option maxRecDepth 100000 in
set_option maxHeartbeats 8000000 in
theorem rparse_dot_bad2 (s t : ByteArray) (neg : Bool) (hb : Body s t neg) (a b : List UInt8) (hT : t.data.toList = a ++ 46 :: b) (ix : ∀ W, Calls Tryz.prog 64 #[.string t, .string ⟨#[47, 46]⟩] W fun e w' => e = .returned (.int .i64 (a.length : Int)) ∧ Below W.heap.size W w') (da : digB a = true) (db : digB b = false) (hs : s.size ≤ 1000) (w : World) (_ : Env w) :
  Calls Tryz.prog 53 #[.string s] w fun e w' => e = .returned (.tuple #[.string ⟨#[]⟩, .int .i64 15]) ∧ Below w.heap.size w w' := by
 have hts := hb.size
 have hts2 : t.size ≤ 1000 := by omega
 obtain ⟨q1, q2⟩ := ne_empty hb.ne
 have B := Lib.hid (Below.refl w.heap.size w)
 have IX := Lib.hid ix
 clear ix
 obtain ⟨fA, fB, fk, fc, fl⟩ := sep_facts hT
 have la : (⟨a.toArray⟩ : ByteArray).size = a.length := rfl
 have lb : (⟨b.toArray⟩ : ByteArray).size = b.length := rfl
 have hk : a.length < t.size := by omega
 have sA : (⟨a.toArray⟩ : ByteArray).size ≤ 1000 := by omega
 have sC : (⟨b.toArray⟩ : ByteArray).size ≤ 1000 := by omega
 have c47 : ((t[a.length].toNat : Int) == 47) = false := by rw [fc hk]; decide
 have c46 : ((t[a.length].toNat : Int) == 46) = true := by rw [fc hk]; decide
 clear fc
 have pa := fun W => rplain_good ⟨a.toArray⟩ W da (by omega)
 have pb := fun W => rplain_bad ⟨b.toArray⟩ W db (by omega)
 have eab := show (⟨a.toArray⟩ ++ ⟨b.toArray⟩ : ByteArray).data.toList = a ++ b from ba_append _ _
 have sab := show (⟨a.toArray⟩ ++ ⟨b.toArray⟩ : ByteArray).size ≤ 1000 by rw [Lib.size_eq, eab, List.length_append]; omega
 have pc : ∃ (X : ByteArray) (f : Bool), ∀ W, Calls Tryz.prog 65 #[.string (⟨a.toArray⟩ ++ ⟨b.toArray⟩)] W fun e w' => e = .returned (.tuple #[.string X, .bool f]) ∧ W = w' := by
  cases hc : digB (⟨a.toArray⟩ ++ ⟨b.toArray⟩ : ByteArray).data.toList with
  | true => exact ⟨_, _, fun W => rplain_good _ W hc (by omega)⟩
  | false => exact ⟨_, _, fun W => rplain_bad _ W hc (by omega)⟩
 obtain ⟨PX, pf, pc⟩ := pc
 have rp := fun W => Tryz.strings_Repeat ⟨#[48]⟩ b.length W (by omega) (by show 1 * b.length ≤ 140737488355328; omega)
 rw [show (⟨#[48]⟩ : ByteArray).data.toList = [48] from rfl] at rp
 have sZ := show (⟨(Lib.repeatL [48] b.length).toArray⟩ : ByteArray).size ≤ 1000 by show (Lib.repeatL [48] b.length).length ≤ 1000; rw [Lib.repeatL_length]; simp; omega
 have et := ten_text b.length
 have ez := ten_ne b.length
 rw [show (⟨a.toArray⟩ : ByteArray).data.toList = a from rfl] at pa
 cases neg with
 | true =>
  have cp := fun W => cutp_minus hb W
  generalize canon ((10 ^ b.length : Nat) : Int) = CT at *
  generalize (⟨(Lib.repeatL [48] b.length).toArray⟩ : ByteArray) = Z at *
  generalize hA : (⟨a.toArray⟩ : ByteArray) = A at *
  generalize hB : (⟨b.toArray⟩ : ByteArray) = C at *
  generalize hAB : A ++ C = AC at *
  rw [← lb] at rp
  generalize a.length = k at *
  have PA := Lib.hid pa
  have PB := Lib.hid pb
  have PC := Lib.hid pc
  have RP := Lib.hid rp
  have CP := Lib.hid cp
  clear pa pb pc rp cp hb hts eab sab hA hB fl la hT lb da db
  go_enter Tryz.func53, Tryz.ntmps53
  go_upto_region 9 with (first
   | (go_at_call 62; (with_reducible refine (CP.out _).mono ?_); rintro e wx ⟨rfl, rfl⟩)
   | (go_at_call 64; (with_reducible refine (IX.out _).mono ?_); rintro e wx ⟨rfl, q⟩; (first | replace B := Lib.hid (B.out.trans (q.mono B.out.size)) | replace B := Lib.hid ((B.out.trans ((Drew.of _ _).below _)).trans (q.mono B.out.size))); clear q)
   | fail "arm")
  go_quiet (fail)
  go_wp2_with (first
   | (go_at_call_of 65 (Value.string A); (with_reducible refine (PA.out _).mono ?_); rintro e wx ⟨rfl, rfl⟩)
   | (go_at_call_of 65 (Value.string C); (with_reducible refine (PB.out _).mono ?_); rintro e wx ⟨rfl, rfl⟩)
   | (go_at_call_of 65 (Value.string AC); (with_reducible refine (PC.out _).mono ?_); rintro e wx ⟨rfl, rfl⟩)
   | (go_at_call 66; (with_reducible refine (RP.out _).mono ?_); rintro e wx ⟨rfl, q⟩; (first | replace B := Lib.hid (B.out.trans (q.mono B.out.size)) | replace B := Lib.hid ((B.out.trans ((Drew.of _ _).below _)).trans (q.mono B.out.size))); clear q)
   | fail "arm")
  go_ret2
  first | exact ⟨rfl, B.out⟩ | exact ⟨rfl, B.out.trans ((Drew.of _ _).below _)⟩
 | false =>
  have cp := fun W => cutp_plain hb W
  have tp := fun W => trimp_plain hb W
  generalize canon ((10 ^ b.length : Nat) : Int) = CT at *
  generalize (⟨(Lib.repeatL [48] b.length).toArray⟩ : ByteArray) = Z at *
  generalize hA : (⟨a.toArray⟩ : ByteArray) = A at *
  generalize hB : (⟨b.toArray⟩ : ByteArray) = C at *
  generalize hAB : A ++ C = AC at *
  rw [← lb] at rp
  generalize a.length = k at *
  have PA := Lib.hid pa
  have PB := Lib.hid pb
  have PC := Lib.hid pc
  have RP := Lib.hid rp
  have CP := Lib.hid cp
  have TP := Lib.hid tp
  clear pa pb pc rp cp tp hb hts eab sab hA hB fl la hT lb da db
  go_enter Tryz.func53, Tryz.ntmps53
  go_upto_region 9 with (first
   | (go_at_call 62; (with_reducible refine (CP.out _).mono ?_); rintro e wx ⟨rfl, rfl⟩)
   | (go_at_call 63; (with_reducible refine (TP.out _).mono ?_); rintro e wx ⟨rfl, rfl⟩)
   | (go_at_call 64; (with_reducible refine (IX.out _).mono ?_); rintro e wx ⟨rfl, q⟩; (first | replace B := Lib.hid (B.out.trans (q.mono B.out.size)) | replace B := Lib.hid ((B.out.trans ((Drew.of _ _).below _)).trans (q.mono B.out.size))); clear q)
   | fail "arm")
  go_quiet (fail)
  go_wp2_with (first
   | (go_at_call_of 65 (Value.string A); (with_reducible refine (PA.out _).mono ?_); rintro e wx ⟨rfl, rfl⟩)
   | (go_at_call_of 65 (Value.string C); (with_reducible refine (PB.out _).mono ?_); rintro e wx ⟨rfl, rfl⟩)
   | (go_at_call_of 65 (Value.string AC); (with_reducible refine (PC.out _).mono ?_); rintro e wx ⟨rfl, rfl⟩)
   | (go_at_call 66; (with_reducible refine (RP.out _).mono ?_); rintro e wx ⟨rfl, q⟩; (first | replace B := Lib.hid (B.out.trans (q.mono B.out.size)) | replace B := Lib.hid ((B.out.trans ((Drew.of _ _).below _)).trans (q.mono B.out.size))); clear q)
   | fail "arm")
  go_ret2
  first | exact ⟨rfl, B.out⟩ | exact ⟨rfl, B.out.trans ((Drew.of _ _).below _)⟩

set_option maxRecDepth 100000 in
set_option maxHeartbeats 8000000 in
theorem rparse_dot_long (s t : ByteArray) (neg : Bool) (hb : Body s t neg) (a b : List UInt8) (hT : t.data.toList = a ++ 46 :: b) (ix : ∀ W, Calls Tryz.prog 64 #[.string t, .string ⟨#[47, 46]⟩] W fun e w' => e = .returned (.int .i64 (a.length : Int)) ∧ Below W.heap.size W w') (da : digB a = true) (db : digB b = true) (hl : 200 < s.size) (hs : s.size ≤ 1000) (w : World) (_ : Env w) :
  Calls Tryz.prog 53 #[.string s] w fun e w' => e = .returned (.tuple #[.string ⟨#[]⟩, .int .i64 16]) ∧ Below w.heap.size w w' := by
 have hts := hb.size
 have hts2 : t.size ≤ 1000 := by omega
 obtain ⟨q1, q2⟩ := ne_empty hb.ne
 have B := Lib.hid (Below.refl w.heap.size w)
 have IX := Lib.hid ix
 clear ix
 obtain ⟨fA, fB, fk, fc, fl⟩ := sep_facts hT
 have la : (⟨a.toArray⟩ : ByteArray).size = a.length := rfl
 have lb : (⟨b.toArray⟩ : ByteArray).size = b.length := rfl
 have hk : a.length < t.size := by omega
 have sA : (⟨a.toArray⟩ : ByteArray).size ≤ 1000 := by omega
 have sC : (⟨b.toArray⟩ : ByteArray).size ≤ 1000 := by omega
 have c47 : ((t[a.length].toNat : Int) == 47) = false := by rw [fc hk]; decide
 have c46 : ((t[a.length].toNat : Int) == 46) = true := by rw [fc hk]; decide
 clear fc
 have pa := fun W => rplain_good ⟨a.toArray⟩ W da (by omega)
 have pb := fun W => rplain_good ⟨b.toArray⟩ W db (by omega)
 have eab := show (⟨a.toArray⟩ ++ ⟨b.toArray⟩ : ByteArray).data.toList = a ++ b from ba_append _ _
 have sab := show (⟨a.toArray⟩ ++ ⟨b.toArray⟩ : ByteArray).size ≤ 1000 by rw [Lib.size_eq, eab, List.length_append]; omega
 have pc := fun W => rplain_good (⟨a.toArray⟩ ++ ⟨b.toArray⟩) W (by rw [eab]; exact digB_append da db) (by omega)
 rw [eab] at pc
 have rp := fun W => Tryz.strings_Repeat ⟨#[48]⟩ b.length W (by omega) (by show 1 * b.length ≤ 140737488355328; omega)
 rw [show (⟨#[48]⟩ : ByteArray).data.toList = [48] from rfl] at rp
 have sZ := show (⟨(Lib.repeatL [48] b.length).toArray⟩ : ByteArray).size ≤ 1000 by show (Lib.repeatL [48] b.length).length ≤ 1000; rw [Lib.repeatL_length]; simp; omega
 have et := ten_text b.length
 have ez := ten_ne b.length
 rw [show (⟨a.toArray⟩ : ByteArray).data.toList = a from rfl] at pa
 rw [show (⟨b.toArray⟩ : ByteArray).data.toList = b from rfl] at pb
 have dl := decide_eq_true (p := (s.size : Int) > 200) (by omega)
 cases neg with
 | true =>
  have cp := fun W => cutp_minus hb W
  generalize canon ((10 ^ b.length : Nat) : Int) = CT at *
  generalize (⟨(Lib.repeatL [48] b.length).toArray⟩ : ByteArray) = Z at *
  generalize hA : (⟨a.toArray⟩ : ByteArray) = A at *
  generalize hB : (⟨b.toArray⟩ : ByteArray) = C at *
  generalize hAB : A ++ C = AC at *
  rw [← lb] at rp
  generalize a.length = k at *
  have PA := Lib.hid pa
  have PB := Lib.hid pb
  have PC := Lib.hid pc
  have RP := Lib.hid rp
  have CP := Lib.hid cp
  clear pa pb pc rp cp hb hts eab sab hA hB fl la hT lb da db
  go_enter Tryz.func53, Tryz.ntmps53
  go_upto_region 9 with (first
   | (go_at_call 62; (with_reducible refine (CP.out _).mono ?_); rintro e wx ⟨rfl, rfl⟩)
   | (go_at_call 64; (with_reducible refine (IX.out _).mono ?_); rintro e wx ⟨rfl, q⟩; (first | replace B := Lib.hid (B.out.trans (q.mono B.out.size)) | replace B := Lib.hid ((B.out.trans ((Drew.of _ _).below _)).trans (q.mono B.out.size))); clear q)
   | fail "arm")
  go_quiet (fail)
  go_wp2_with (first
   | (go_at_call_of 65 (Value.string A); (with_reducible refine (PA.out _).mono ?_); rintro e wx ⟨rfl, rfl⟩)
   | (go_at_call_of 65 (Value.string C); (with_reducible refine (PB.out _).mono ?_); rintro e wx ⟨rfl, rfl⟩)
   | (go_at_call_of 65 (Value.string AC); (with_reducible refine (PC.out _).mono ?_); rintro e wx ⟨rfl, rfl⟩)
   | (go_at_call 66; (with_reducible refine (RP.out _).mono ?_); rintro e wx ⟨rfl, q⟩; (first | replace B := Lib.hid (B.out.trans (q.mono B.out.size)) | replace B := Lib.hid ((B.out.trans ((Drew.of _ _).below _)).trans (q.mono B.out.size))); clear q)
   | fail "arm")
  go_ret2
  first | exact ⟨rfl, B.out⟩ | exact ⟨rfl, B.out.trans ((Drew.of _ _).below _)⟩
 | false =>
  have cp := fun W => cutp_plain hb W
  have tp := fun W => trimp_plain hb W
  generalize canon ((10 ^ b.length : Nat) : Int) = CT at *
  generalize (⟨(Lib.repeatL [48] b.length).toArray⟩ : ByteArray) = Z at *
  generalize hA : (⟨a.toArray⟩ : ByteArray) = A at *
  generalize hB : (⟨b.toArray⟩ : ByteArray) = C at *
  generalize hAB : A ++ C = AC at *
  rw [← lb] at rp
  generalize a.length = k at *
  have PA := Lib.hid pa
  have PB := Lib.hid pb
  have PC := Lib.hid pc
  have RP := Lib.hid rp
  have CP := Lib.hid cp
  have TP := Lib.hid tp
  clear pa pb pc rp cp tp hb hts eab sab hA hB fl la hT lb da db
  go_enter Tryz.func53, Tryz.ntmps53
  go_upto_region 9 with (first
   | (go_at_call 62; (with_reducible refine (CP.out _).mono ?_); rintro e wx ⟨rfl, rfl⟩)
   | (go_at_call 63; (with_reducible refine (TP.out _).mono ?_); rintro e wx ⟨rfl, rfl⟩)
   | (go_at_call 64; (with_reducible refine (IX.out _).mono ?_); rintro e wx ⟨rfl, q⟩; (first | replace B := Lib.hid (B.out.trans (q.mono B.out.size)) | replace B := Lib.hid ((B.out.trans ((Drew.of _ _).below _)).trans (q.mono B.out.size))); clear q)
   | fail "arm")
  go_quiet (fail)
  go_wp2_with (first
   | (go_at_call_of 65 (Value.string A); (with_reducible refine (PA.out _).mono ?_); rintro e wx ⟨rfl, rfl⟩)
   | (go_at_call_of 65 (Value.string C); (with_reducible refine (PB.out _).mono ?_); rintro e wx ⟨rfl, rfl⟩)
   | (go_at_call_of 65 (Value.string AC); (with_reducible refine (PC.out _).mono ?_); rintro e wx ⟨rfl, rfl⟩)
   | (go_at_call 66; (with_reducible refine (RP.out _).mono ?_); rintro e wx ⟨rfl, q⟩; (first | replace B := Lib.hid (B.out.trans (q.mono B.out.size)) | replace B := Lib.hid ((B.out.trans ((Drew.of _ _).below _)).trans (q.mono B.out.size))); clear q)
   | fail "arm")
  go_ret2
  first | exact ⟨rfl, B.out⟩ | exact ⟨rfl, B.out.trans ((Drew.of _ _).below _)⟩

set_option maxRecDepth 100000 in
set_option maxHeartbeats 8000000 in
theorem rparse_dot_ok (s t : ByteArray) (neg : Bool) (hb : Body s t neg) (a b : List UInt8) (hT : t.data.toList = a ++ 46 :: b) (ix : ∀ W, Calls Tryz.prog 64 #[.string t, .string ⟨#[47, 46]⟩] W fun e w' => e = .returned (.int .i64 (a.length : Int)) ∧ Below W.heap.size W w') (da : digB a = true) (db : digB b = true) (hl : s.size ≤ 200) (_ : s.size ≤ 1000) (w : World) (he : Env w) :
  Calls Tryz.prog 53 #[.string s] w fun e w' => e = .returned (.tuple #[.string (canonR (mkRat (if neg = true then -((dval (a ++ b) : Nat) : Int) else ((dval (a ++ b) : Nat) : Int)) (10 ^ b.length))), .int .i64 0]) ∧ Below w.heap.size w w' := by
 have hts := hb.size
 have hts2 : t.size ≤ 1000 := by omega
 obtain ⟨q1, q2⟩ := ne_empty hb.ne
 have B := Lib.hid (Below.refl w.heap.size w)
 have IX := Lib.hid ix
 clear ix
 obtain ⟨fA, fB, fk, fc, fl⟩ := sep_facts hT
 have la : (⟨a.toArray⟩ : ByteArray).size = a.length := rfl
 have lb : (⟨b.toArray⟩ : ByteArray).size = b.length := rfl
 have hk : a.length < t.size := by omega
 have sA : (⟨a.toArray⟩ : ByteArray).size ≤ 1000 := by omega
 have sC : (⟨b.toArray⟩ : ByteArray).size ≤ 1000 := by omega
 have c47 : ((t[a.length].toNat : Int) == 47) = false := by rw [fc hk]; decide
 have c46 : ((t[a.length].toNat : Int) == 46) = true := by rw [fc hk]; decide
 clear fc
 have pa := fun W => rplain_good ⟨a.toArray⟩ W da (by omega)
 have pb := fun W => rplain_good ⟨b.toArray⟩ W db (by omega)
 have eab := show (⟨a.toArray⟩ ++ ⟨b.toArray⟩ : ByteArray).data.toList = a ++ b from ba_append _ _
 have sab := show (⟨a.toArray⟩ ++ ⟨b.toArray⟩ : ByteArray).size ≤ 1000 by rw [Lib.size_eq, eab, List.length_append]; omega
 have pc := fun W => rplain_good (⟨a.toArray⟩ ++ ⟨b.toArray⟩) W (by rw [eab]; exact digB_append da db) (by omega)
 rw [eab] at pc
 have rp := fun W => Tryz.strings_Repeat ⟨#[48]⟩ b.length W (by omega) (by show 1 * b.length ≤ 140737488355328; omega)
 rw [show (⟨#[48]⟩ : ByteArray).data.toList = [48] from rfl] at rp
 have sZ := show (⟨(Lib.repeatL [48] b.length).toArray⟩ : ByteArray).size ≤ 1000 by show (Lib.repeatL [48] b.length).length ≤ 1000; rw [Lib.repeatL_length]; simp; omega
 have et := ten_text b.length
 have ez := ten_ne b.length
 rw [show (⟨a.toArray⟩ : ByteArray).data.toList = a from rfl] at pa
 rw [show (⟨b.toArray⟩ : ByteArray).data.toList = b from rfl] at pb
 have dl := decide_eq_false (p := (s.size : Int) > 200) (by omega)
 have sn := canon_dval_size (a ++ b) (digB_append da db)
 rw [List.length_append] at sn
 have sd := ten_size b.length
 cases neg with
 | true =>
  simp only [if_true]
  have sn2 := sgn_size sn
  have lo := fun W (hW : Below w.heap.size w W) => rlowest_any (-((dval (a ++ b) : Nat) : Int)) (10 ^ b.length) W (he.below hW).1 (Nat.pow_pos (by omega)) (by omega) (by omega)
  have ng := fun W => neg_any ((dval (a ++ b) : Nat) : Int) W (by omega)
  have cp := fun W => cutp_minus hb W
  generalize canonR (mkRat (-((dval (a ++ b) : Nat) : Int)) (10 ^ b.length)) = R at *
  generalize canon (-((dval (a ++ b) : Nat) : Int)) = CM at *
  generalize canon ((dval (a ++ b) : Nat) : Int) = CN at *
  generalize canon ((10 ^ b.length : Nat) : Int) = CT at *
  generalize (⟨(Lib.repeatL [48] b.length).toArray⟩ : ByteArray) = Z at *
  generalize hA : (⟨a.toArray⟩ : ByteArray) = A at *
  generalize hB : (⟨b.toArray⟩ : ByteArray) = C at *
  generalize hAB : A ++ C = AC at *
  rw [← lb] at rp
  generalize a.length = k at *
  have PA := Lib.hid pa
  have PB := Lib.hid pb
  have PC := Lib.hid pc
  have RP := Lib.hid rp
  have CP := Lib.hid cp
  have LO := Lib.hid lo
  have NG := Lib.hid ng
  clear pa pb pc rp cp lo ng hb hts he sn2 sn sd eab sab hA hB fl la hT lb da db
  go_enter Tryz.func53, Tryz.ntmps53
  go_upto_region 9 with (first
   | (go_at_call 62; (with_reducible refine (CP.out _).mono ?_); rintro e wx ⟨rfl, rfl⟩)
   | (go_at_call 64; (with_reducible refine (IX.out _).mono ?_); rintro e wx ⟨rfl, q⟩; (first | replace B := Lib.hid (B.out.trans (q.mono B.out.size)) | replace B := Lib.hid ((B.out.trans ((Drew.of _ _).below _)).trans (q.mono B.out.size))); clear q)
   | fail "arm")
  go_quiet (fail)
  go_wp2_with (first
   | (go_at_call_of 65 (Value.string A); (with_reducible refine (PA.out _).mono ?_); rintro e wx ⟨rfl, rfl⟩)
   | (go_at_call_of 65 (Value.string C); (with_reducible refine (PB.out _).mono ?_); rintro e wx ⟨rfl, rfl⟩)
   | (go_at_call_of 65 (Value.string AC); (with_reducible refine (PC.out _).mono ?_); rintro e wx ⟨rfl, rfl⟩)
   | (go_at_call 66; (with_reducible refine (RP.out _).mono ?_); rintro e wx ⟨rfl, q⟩; (first | replace B := Lib.hid (B.out.trans (q.mono B.out.size)) | replace B := Lib.hid ((B.out.trans ((Drew.of _ _).below _)).trans (q.mono B.out.size))); clear q)
   | (go_at_call 67; (with_reducible refine (NG.out _).mono ?_); rintro e wx ⟨rfl, q⟩; (first | replace B := Lib.hid (B.out.trans (q.mono B.out.size)) | replace B := Lib.hid ((B.out.trans ((Drew.of _ _).below _)).trans (q.mono B.out.size))); clear q)
   | (go_at_call 68; (with_reducible refine (LO.out _ ?_).mono ?_); (first | exact B.out | exact B.out.trans ((Drew.of _ _).below _)); rintro e wx ⟨rfl, q⟩; (first | replace B := Lib.hid (B.out.trans (q.mono B.out.size)) | replace B := Lib.hid ((B.out.trans ((Drew.of _ _).below _)).trans (q.mono B.out.size))); clear q)
   | fail "arm")
  go_ret2
  first | exact ⟨rfl, B.out⟩ | exact ⟨rfl, B.out.trans ((Drew.of _ _).below _)⟩
 | false =>
  simp only [Bool.false_eq_true, if_false]
  have lo := fun W (hW : Below w.heap.size w W) => rlowest_any ((dval (a ++ b) : Nat) : Int) (10 ^ b.length) W (he.below hW).1 (Nat.pow_pos (by omega)) (by omega) (by omega)
  have cp := fun W => cutp_plain hb W
  have tp := fun W => trimp_plain hb W
  generalize canonR (mkRat ((dval (a ++ b) : Nat) : Int) (10 ^ b.length)) = R at *
  generalize canon ((dval (a ++ b) : Nat) : Int) = CN at *
  generalize canon ((10 ^ b.length : Nat) : Int) = CT at *
  generalize (⟨(Lib.repeatL [48] b.length).toArray⟩ : ByteArray) = Z at *
  generalize hA : (⟨a.toArray⟩ : ByteArray) = A at *
  generalize hB : (⟨b.toArray⟩ : ByteArray) = C at *
  generalize hAB : A ++ C = AC at *
  rw [← lb] at rp
  generalize a.length = k at *
  have PA := Lib.hid pa
  have PB := Lib.hid pb
  have PC := Lib.hid pc
  have RP := Lib.hid rp
  have CP := Lib.hid cp
  have TP := Lib.hid tp
  have LO := Lib.hid lo
  clear pa pb pc rp cp tp lo hb hts he sn sd eab sab hA hB fl la hT lb da db
  go_enter Tryz.func53, Tryz.ntmps53
  go_upto_region 9 with (first
   | (go_at_call 62; (with_reducible refine (CP.out _).mono ?_); rintro e wx ⟨rfl, rfl⟩)
   | (go_at_call 63; (with_reducible refine (TP.out _).mono ?_); rintro e wx ⟨rfl, rfl⟩)
   | (go_at_call 64; (with_reducible refine (IX.out _).mono ?_); rintro e wx ⟨rfl, q⟩; (first | replace B := Lib.hid (B.out.trans (q.mono B.out.size)) | replace B := Lib.hid ((B.out.trans ((Drew.of _ _).below _)).trans (q.mono B.out.size))); clear q)
   | fail "arm")
  go_quiet (fail)
  go_wp2_with (first
   | (go_at_call_of 65 (Value.string A); (with_reducible refine (PA.out _).mono ?_); rintro e wx ⟨rfl, rfl⟩)
   | (go_at_call_of 65 (Value.string C); (with_reducible refine (PB.out _).mono ?_); rintro e wx ⟨rfl, rfl⟩)
   | (go_at_call_of 65 (Value.string AC); (with_reducible refine (PC.out _).mono ?_); rintro e wx ⟨rfl, rfl⟩)
   | (go_at_call 66; (with_reducible refine (RP.out _).mono ?_); rintro e wx ⟨rfl, q⟩; (first | replace B := Lib.hid (B.out.trans (q.mono B.out.size)) | replace B := Lib.hid ((B.out.trans ((Drew.of _ _).below _)).trans (q.mono B.out.size))); clear q)
   | (go_at_call 68; (with_reducible refine (LO.out _ ?_).mono ?_); (first | exact B.out | exact B.out.trans ((Drew.of _ _).below _)); rintro e wx ⟨rfl, q⟩; (first | replace B := Lib.hid (B.out.trans (q.mono B.out.size)) | replace B := Lib.hid ((B.out.trans ((Drew.of _ _).below _)).trans (q.mono B.out.size))); clear q)
   | fail "arm")
  go_ret2
  first | exact ⟨rfl, B.out⟩ | exact ⟨rfl, B.out.trans ((Drew.of _ _).below _)⟩

end Go.Proofs.YtfhmgkicccfghaaGreatDoor
