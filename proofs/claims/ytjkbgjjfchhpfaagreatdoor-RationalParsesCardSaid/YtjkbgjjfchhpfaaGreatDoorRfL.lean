/- The walk of klipperef02.Parse, shape by shape: no separator, a slash, a point. -/
import Derived.Test.YtjkbgjjfchhpfaaGreatDoorRfK
import Derived.BigQuiet
import Derived.Deep.RegionHeld3
namespace Go.Proofs.YtjkbgjjfchhpfaaGreatDoor
open Go.RowKit

set_option maxRecDepth 100000 in
set_option maxHeartbeats 8000000 in
theorem pparse_none_bad1 (s t : ByteArray) (neg : Bool) (hb : Body s t neg) (ix : ∀ W, Calls Tryz.prog 68 #[.string t, .string ⟨#[47, 46]⟩] W fun e w' => e = .returned (.int .i64 (-1)) ∧ Below W.heap.size W w') (da : digB t.data.toList = false) (hs : s.size ≤ 1000) (w : World) (_ : Env w) :
    Calls Tryz.prog 16 #[.string s] w fun e w' => e = .returned (.tuple #[.string ⟨#[]⟩, .int .i64 15]) ∧ Below w.heap.size w w' := by
  have hts := hb.size
  have hts2 : t.size ≤ 1000 := by omega
  obtain ⟨q1, q2⟩ := ne_empty hb.ne
  have B := Lib.hid (Below.refl w.heap.size w)
  have IX := Lib.hid ix
  clear ix
  have ga := fun W => digitsR_any t W (by omega)
  rw [da] at ga
  cases neg with
  | true =>
    have h0 : 0 < s.size := hb.ne
    have hs0 : s[0] = 45 := get0 (hb.minus rfl) h0
    have m43 : ((s[0].toNat : Int) == 43) = false := by rw [hs0]; decide
    have m45 : ((s[0].toNat : Int) == 45) = true := by rw [hs0]; decide
    have hx : s.extract 1 s.size = t := ba_ext (by rw [Lib.extract_to_end, hb.minus rfl]; rfl)
    have hle : 1 ≤ s.size := h0
    clear hs0
    have GA := Lib.hid ga
    clear ga hb hts da
    go_enter Tryz.func16, Tryz.ntmps16
    go_wp2_with (first
      | (go_at_call 68; (with_reducible refine (IX.out _).mono ?_); rintro e wx ⟨rfl, q⟩; (first | replace B := Lib.hid (B.out.trans (q.mono B.out.size)) | replace B := Lib.hid ((B.out.trans ((Drew.of _ _).below _)).trans (q.mono B.out.size))); clear q)
      | (go_at_call 72; (with_reducible refine (GA.out _).mono ?_); rintro e wx ⟨rfl, rfl⟩)
      | fail "arm")
    go_ret2
    first | exact ⟨rfl, B.out⟩ | exact ⟨rfl, B.out.trans ((Drew.of _ _).below _)⟩
  | false =>
    rcases hb.plain rfl with hbp | ⟨hts0, hbn⟩
    · have h0 : 0 < s.size := hb.ne
      have hs0 : s[0] = 43 := get0 hbp h0
      have m43 : ((s[0].toNat : Int) == 43) = true := by rw [hs0]; decide
      have m45 : ((s[0].toNat : Int) == 45) = false := by rw [hs0]; decide
      have hx : s.extract 1 s.size = t := ba_ext (by rw [Lib.extract_to_end, hbp]; rfl)
      have hle : 1 ≤ s.size := h0
      clear hs0 hbp
      have GA := Lib.hid ga
      clear ga hb hts da
      go_enter Tryz.func16, Tryz.ntmps16
      go_wp2_with (first
        | (go_at_call 68; (with_reducible refine (IX.out _).mono ?_); rintro e wx ⟨rfl, q⟩; (first | replace B := Lib.hid (B.out.trans (q.mono B.out.size)) | replace B := Lib.hid ((B.out.trans ((Drew.of _ _).below _)).trans (q.mono B.out.size))); clear q)
        | (go_at_call 72; (with_reducible refine (GA.out _).mono ?_); rintro e wx ⟨rfl, rfl⟩)
        | fail "arm")
      go_ret2
      first | exact ⟨rfl, B.out⟩ | exact ⟨rfl, B.out.trans ((Drew.of _ _).below _)⟩
    · subst hts0
      have h0 : 0 < t.size := hb.ne
      have hs0 := hbn h0
      have m43 : ((t[0].toNat : Int) == 43) = false := beq_eq_false_iff_ne.2 (by omega)
      have m45 : ((t[0].toNat : Int) == 45) = false := beq_eq_false_iff_ne.2 (by omega)
      clear hs0 hbn
      have GA := Lib.hid ga
      clear ga hb hts da
      go_enter Tryz.func16, Tryz.ntmps16
      go_wp2_with (first
        | (go_at_call 68; (with_reducible refine (IX.out _).mono ?_); rintro e wx ⟨rfl, q⟩; (first | replace B := Lib.hid (B.out.trans (q.mono B.out.size)) | replace B := Lib.hid ((B.out.trans ((Drew.of _ _).below _)).trans (q.mono B.out.size))); clear q)
        | (go_at_call 72; (with_reducible refine (GA.out _).mono ?_); rintro e wx ⟨rfl, rfl⟩)
        | fail "arm")
      go_ret2
      first | exact ⟨rfl, B.out⟩ | exact ⟨rfl, B.out.trans ((Drew.of _ _).below _)⟩

set_option maxRecDepth 100000 in
set_option maxHeartbeats 8000000 in
theorem pparse_none_long (s t : ByteArray) (neg : Bool) (hb : Body s t neg) (ix : ∀ W, Calls Tryz.prog 68 #[.string t, .string ⟨#[47, 46]⟩] W fun e w' => e = .returned (.int .i64 (-1)) ∧ Below W.heap.size W w') (da : digB t.data.toList = true) (hl : 200 < s.size) (hs : s.size ≤ 1000) (w : World) (_ : Env w) :
    Calls Tryz.prog 16 #[.string s] w fun e w' => e = .returned (.tuple #[.string ⟨#[]⟩, .int .i64 16]) ∧ Below w.heap.size w w' := by
  have hts := hb.size
  have hts2 : t.size ≤ 1000 := by omega
  obtain ⟨q1, q2⟩ := ne_empty hb.ne
  have B := Lib.hid (Below.refl w.heap.size w)
  have IX := Lib.hid ix
  clear ix
  have ga := fun W => digitsR_any t W (by omega)
  rw [da] at ga
  have dl := decide_eq_true (p := (s.size : Int) > 200) (by omega)
  cases neg with
  | true =>
    have h0 : 0 < s.size := hb.ne
    have hs0 : s[0] = 45 := get0 (hb.minus rfl) h0
    have m43 : ((s[0].toNat : Int) == 43) = false := by rw [hs0]; decide
    have m45 : ((s[0].toNat : Int) == 45) = true := by rw [hs0]; decide
    have hx : s.extract 1 s.size = t := ba_ext (by rw [Lib.extract_to_end, hb.minus rfl]; rfl)
    have hle : 1 ≤ s.size := h0
    clear hs0
    have GA := Lib.hid ga
    clear ga hb hts da
    go_enter Tryz.func16, Tryz.ntmps16
    go_wp2_with (first
      | (go_at_call 68; (with_reducible refine (IX.out _).mono ?_); rintro e wx ⟨rfl, q⟩; (first | replace B := Lib.hid (B.out.trans (q.mono B.out.size)) | replace B := Lib.hid ((B.out.trans ((Drew.of _ _).below _)).trans (q.mono B.out.size))); clear q)
      | (go_at_call 72; (with_reducible refine (GA.out _).mono ?_); rintro e wx ⟨rfl, rfl⟩)
      | fail "arm")
    go_ret2
    first | exact ⟨rfl, B.out⟩ | exact ⟨rfl, B.out.trans ((Drew.of _ _).below _)⟩
  | false =>
    rcases hb.plain rfl with hbp | ⟨hts0, hbn⟩
    · have h0 : 0 < s.size := hb.ne
      have hs0 : s[0] = 43 := get0 hbp h0
      have m43 : ((s[0].toNat : Int) == 43) = true := by rw [hs0]; decide
      have m45 : ((s[0].toNat : Int) == 45) = false := by rw [hs0]; decide
      have hx : s.extract 1 s.size = t := ba_ext (by rw [Lib.extract_to_end, hbp]; rfl)
      have hle : 1 ≤ s.size := h0
      clear hs0 hbp
      have GA := Lib.hid ga
      clear ga hb hts da
      go_enter Tryz.func16, Tryz.ntmps16
      go_wp2_with (first
        | (go_at_call 68; (with_reducible refine (IX.out _).mono ?_); rintro e wx ⟨rfl, q⟩; (first | replace B := Lib.hid (B.out.trans (q.mono B.out.size)) | replace B := Lib.hid ((B.out.trans ((Drew.of _ _).below _)).trans (q.mono B.out.size))); clear q)
        | (go_at_call 72; (with_reducible refine (GA.out _).mono ?_); rintro e wx ⟨rfl, rfl⟩)
        | fail "arm")
      go_ret2
      first | exact ⟨rfl, B.out⟩ | exact ⟨rfl, B.out.trans ((Drew.of _ _).below _)⟩
    · subst hts0
      have h0 : 0 < t.size := hb.ne
      have hs0 := hbn h0
      have m43 : ((t[0].toNat : Int) == 43) = false := beq_eq_false_iff_ne.2 (by omega)
      have m45 : ((t[0].toNat : Int) == 45) = false := beq_eq_false_iff_ne.2 (by omega)
      clear hs0 hbn
      have GA := Lib.hid ga
      clear ga hb hts da
      go_enter Tryz.func16, Tryz.ntmps16
      go_wp2_with (first
        | (go_at_call 68; (with_reducible refine (IX.out _).mono ?_); rintro e wx ⟨rfl, q⟩; (first | replace B := Lib.hid (B.out.trans (q.mono B.out.size)) | replace B := Lib.hid ((B.out.trans ((Drew.of _ _).below _)).trans (q.mono B.out.size))); clear q)
        | (go_at_call 72; (with_reducible refine (GA.out _).mono ?_); rintro e wx ⟨rfl, rfl⟩)
        | fail "arm")
      go_ret2
      first | exact ⟨rfl, B.out⟩ | exact ⟨rfl, B.out.trans ((Drew.of _ _).below _)⟩

set_option maxRecDepth 100000 in
set_option maxHeartbeats 8000000 in
theorem pparse_none_ok (s t : ByteArray) (neg : Bool) (hb : Body s t neg) (ix : ∀ W, Calls Tryz.prog 68 #[.string t, .string ⟨#[47, 46]⟩] W fun e w' => e = .returned (.int .i64 (-1)) ∧ Below W.heap.size W w') (da : digB t.data.toList = true) (hl : s.size ≤ 200) (_ : s.size ≤ 1000) (w : World) (he : Env w) :
    Calls Tryz.prog 16 #[.string s] w fun e w' => e = .returned (.tuple #[.string (canonR (mkRat (if neg = true then -((dval t.data.toList : Nat) : Int) else ((dval t.data.toList : Nat) : Int)) 1)), .int .i64 0]) ∧ Below w.heap.size w w' := by
  have hts := hb.size
  have hts2 : t.size ≤ 1000 := by omega
  obtain ⟨q1, q2⟩ := ne_empty hb.ne
  have B := Lib.hid (Below.refl w.heap.size w)
  have IX := Lib.hid ix
  clear ix
  have ga := fun W => digitsR_any t W (by omega)
  rw [da] at ga
  have pa := fun W => plainR_any t W da (by omega)
  have dl := decide_eq_false (p := (s.size : Int) > 200) (by omega)
  have sn := canon_dval_size t.data.toList da
  rw [← Lib.size_eq] at sn
  cases neg with
  | true =>
    simp only [if_true]
    have sn2 := sgn_size sn
    have lo := fun W (hW : Below w.heap.size w W) => fraction_any false (-((dval t.data.toList : Nat) : Int)) 1 W (he.below hW).1 (by omega) (by omega) (by rw [show ((1 : Nat) : Int) = 1 from rfl, k_1]; decide)
    simp only [Bool.false_eq_true, if_false] at lo
    rw [show ((1 : Nat) : Int) = 1 from rfl, k_1] at lo
    have ng := fun W => negR_any ((dval t.data.toList : Nat) : Int) W (by omega)
    have h0 : 0 < s.size := hb.ne
    have hs0 : s[0] = 45 := get0 (hb.minus rfl) h0
    have m43 : ((s[0].toNat : Int) == 43) = false := by rw [hs0]; decide
    have m45 : ((s[0].toNat : Int) == 45) = true := by rw [hs0]; decide
    have hx : s.extract 1 s.size = t := ba_ext (by rw [Lib.extract_to_end, hb.minus rfl]; rfl)
    have hle : 1 ≤ s.size := h0
    clear hs0
    generalize canonR (mkRat (-((dval t.data.toList : Nat) : Int)) 1) = R at *
    generalize canon (-((dval t.data.toList : Nat) : Int)) = CM at *
    generalize canon ((dval t.data.toList : Nat) : Int) = CN at *
    have GA := Lib.hid ga
    have PA := Lib.hid pa
    have LO := Lib.hid lo
    have NG := Lib.hid ng
    clear ga pa lo ng hb hts he sn2 sn da
    go_enter Tryz.func16, Tryz.ntmps16
    go_wp2_with (first
      | (go_at_call 68; (with_reducible refine (IX.out _).mono ?_); rintro e wx ⟨rfl, q⟩; (first | replace B := Lib.hid (B.out.trans (q.mono B.out.size)) | replace B := Lib.hid ((B.out.trans ((Drew.of _ _).below _)).trans (q.mono B.out.size))); clear q)
      | (go_at_call 72; (with_reducible refine (GA.out _).mono ?_); rintro e wx ⟨rfl, rfl⟩)
      | (go_at_call 73; (with_reducible refine (PA.out _).mono ?_); rintro e wx ⟨rfl, rfl⟩)
      | (go_at_call 74; (with_reducible refine (NG.out _).mono ?_); rintro e wx ⟨rfl, q⟩; (first | replace B := Lib.hid (B.out.trans (q.mono B.out.size)) | replace B := Lib.hid ((B.out.trans ((Drew.of _ _).below _)).trans (q.mono B.out.size))); clear q)
      | (go_at_call 21; (with_reducible refine (LO.out _ ?_).mono ?_); (first | exact B.out | exact B.out.trans ((Drew.of _ _).below _)); rintro e wx ⟨rfl, q⟩; (first | replace B := Lib.hid (B.out.trans (q.mono B.out.size)) | replace B := Lib.hid ((B.out.trans ((Drew.of _ _).below _)).trans (q.mono B.out.size))); clear q)
      | fail "arm")
    go_ret2
    first | exact ⟨rfl, B.out⟩ | exact ⟨rfl, B.out.trans ((Drew.of _ _).below _)⟩
  | false =>
    rcases hb.plain rfl with hbp | ⟨hts0, hbn⟩
    · simp only [Bool.false_eq_true, if_false]
      have lo := fun W (hW : Below w.heap.size w W) => fraction_any false ((dval t.data.toList : Nat) : Int) 1 W (he.below hW).1 (by omega) (by omega) (by rw [show ((1 : Nat) : Int) = 1 from rfl, k_1]; decide)
      simp only [Bool.false_eq_true, if_false] at lo
      rw [show ((1 : Nat) : Int) = 1 from rfl, k_1] at lo
      have h0 : 0 < s.size := hb.ne
      have hs0 : s[0] = 43 := get0 hbp h0
      have m43 : ((s[0].toNat : Int) == 43) = true := by rw [hs0]; decide
      have m45 : ((s[0].toNat : Int) == 45) = false := by rw [hs0]; decide
      have hx : s.extract 1 s.size = t := ba_ext (by rw [Lib.extract_to_end, hbp]; rfl)
      have hle : 1 ≤ s.size := h0
      clear hs0 hbp
      generalize canonR (mkRat ((dval t.data.toList : Nat) : Int) 1) = R at *
      generalize canon ((dval t.data.toList : Nat) : Int) = CN at *
      have GA := Lib.hid ga
      have PA := Lib.hid pa
      have LO := Lib.hid lo
      clear ga pa lo hb hts he sn da
      go_enter Tryz.func16, Tryz.ntmps16
      go_wp2_with (first
        | (go_at_call 68; (with_reducible refine (IX.out _).mono ?_); rintro e wx ⟨rfl, q⟩; (first | replace B := Lib.hid (B.out.trans (q.mono B.out.size)) | replace B := Lib.hid ((B.out.trans ((Drew.of _ _).below _)).trans (q.mono B.out.size))); clear q)
        | (go_at_call 72; (with_reducible refine (GA.out _).mono ?_); rintro e wx ⟨rfl, rfl⟩)
        | (go_at_call 73; (with_reducible refine (PA.out _).mono ?_); rintro e wx ⟨rfl, rfl⟩)
        | (go_at_call 21; (with_reducible refine (LO.out _ ?_).mono ?_); (first | exact B.out | exact B.out.trans ((Drew.of _ _).below _)); rintro e wx ⟨rfl, q⟩; (first | replace B := Lib.hid (B.out.trans (q.mono B.out.size)) | replace B := Lib.hid ((B.out.trans ((Drew.of _ _).below _)).trans (q.mono B.out.size))); clear q)
        | fail "arm")
      go_ret2
      first | exact ⟨rfl, B.out⟩ | exact ⟨rfl, B.out.trans ((Drew.of _ _).below _)⟩
    · subst hts0
      simp only [Bool.false_eq_true, if_false]
      have lo := fun W (hW : Below w.heap.size w W) => fraction_any false ((dval t.data.toList : Nat) : Int) 1 W (he.below hW).1 (by omega) (by omega) (by rw [show ((1 : Nat) : Int) = 1 from rfl, k_1]; decide)
      simp only [Bool.false_eq_true, if_false] at lo
      rw [show ((1 : Nat) : Int) = 1 from rfl, k_1] at lo
      have h0 : 0 < t.size := hb.ne
      have hs0 := hbn h0
      have m43 : ((t[0].toNat : Int) == 43) = false := beq_eq_false_iff_ne.2 (by omega)
      have m45 : ((t[0].toNat : Int) == 45) = false := beq_eq_false_iff_ne.2 (by omega)
      clear hs0 hbn
      generalize canonR (mkRat ((dval t.data.toList : Nat) : Int) 1) = R at *
      generalize canon ((dval t.data.toList : Nat) : Int) = CN at *
      have GA := Lib.hid ga
      have PA := Lib.hid pa
      have LO := Lib.hid lo
      clear ga pa lo hb hts he sn da
      go_enter Tryz.func16, Tryz.ntmps16
      go_wp2_with (first
        | (go_at_call 68; (with_reducible refine (IX.out _).mono ?_); rintro e wx ⟨rfl, q⟩; (first | replace B := Lib.hid (B.out.trans (q.mono B.out.size)) | replace B := Lib.hid ((B.out.trans ((Drew.of _ _).below _)).trans (q.mono B.out.size))); clear q)
        | (go_at_call 72; (with_reducible refine (GA.out _).mono ?_); rintro e wx ⟨rfl, rfl⟩)
        | (go_at_call 73; (with_reducible refine (PA.out _).mono ?_); rintro e wx ⟨rfl, rfl⟩)
        | (go_at_call 21; (with_reducible refine (LO.out _ ?_).mono ?_); (first | exact B.out | exact B.out.trans ((Drew.of _ _).below _)); rintro e wx ⟨rfl, q⟩; (first | replace B := Lib.hid (B.out.trans (q.mono B.out.size)) | replace B := Lib.hid ((B.out.trans ((Drew.of _ _).below _)).trans (q.mono B.out.size))); clear q)
        | fail "arm")
      go_ret2
      first | exact ⟨rfl, B.out⟩ | exact ⟨rfl, B.out.trans ((Drew.of _ _).below _)⟩

set_option maxRecDepth 100000 in
set_option maxHeartbeats 8000000 in
theorem pparse_slash_bad1 (s t : ByteArray) (neg : Bool) (hb : Body s t neg) (a b : List UInt8) (hT : t.data.toList = a ++ 47 :: b) (ix : ∀ W, Calls Tryz.prog 68 #[.string t, .string ⟨#[47, 46]⟩] W fun e w' => e = .returned (.int .i64 (a.length : Int)) ∧ Below W.heap.size W w') (da : digB a = false) (hs : s.size ≤ 1000) (w : World) (_ : Env w) :
    Calls Tryz.prog 16 #[.string s] w fun e w' => e = .returned (.tuple #[.string ⟨#[]⟩, .int .i64 15]) ∧ Below w.heap.size w w' := by
  have hts := hb.size
  have hts2 : t.size ≤ 1000 := by omega
  obtain ⟨q1, q2⟩ := ne_empty hb.ne
  have B := Lib.hid (Below.refl w.heap.size w)
  have IX := Lib.hid ix
  clear ix
  obtain ⟨fA, fB, fk, fc, fl⟩ := sep_facts hT
  have la : (⟨a.toArray⟩ : ByteArray).size = a.length := rfl
  have lb : (⟨b.toArray⟩ : ByteArray).size = b.length := rfl
  have hk : a.length < t.size := by omega
  have sA : (⟨a.toArray⟩ : ByteArray).size ≤ 1000 := by omega
  have sC : (⟨b.toArray⟩ : ByteArray).size ≤ 1000 := by omega
  have c47 : ((t[a.length].toNat : Int) == 47) = true := by rw [fc hk]; decide
  have c46 : ((t[a.length].toNat : Int) == 46) = false := by rw [fc hk]; decide
  clear fc
  have ga := fun W => digitsR_any ⟨a.toArray⟩ W (by omega)
  rw [show (⟨a.toArray⟩ : ByteArray).data.toList = a from rfl] at ga
  rw [da] at ga
  cases neg with
  | true =>
    have h0 : 0 < s.size := hb.ne
    have hs0 : s[0] = 45 := get0 (hb.minus rfl) h0
    have m43 : ((s[0].toNat : Int) == 43) = false := by rw [hs0]; decide
    have m45 : ((s[0].toNat : Int) == 45) = true := by rw [hs0]; decide
    have hx : s.extract 1 s.size = t := ba_ext (by rw [Lib.extract_to_end, hb.minus rfl]; rfl)
    have hle : 1 ≤ s.size := h0
    clear hs0
    generalize hA : (⟨a.toArray⟩ : ByteArray) = A at *
    generalize hB : (⟨b.toArray⟩ : ByteArray) = C at *
    generalize a.length = k at *
    have GA := Lib.hid ga
    clear ga hb hts hA hB fl la hT lb da
    go_enter Tryz.func16, Tryz.ntmps16
    go_upto_region 9 with (first
      | (go_at_call 68; (with_reducible refine (IX.out _).mono ?_); rintro e wx ⟨rfl, q⟩; (first | replace B := Lib.hid (B.out.trans (q.mono B.out.size)) | replace B := Lib.hid ((B.out.trans ((Drew.of _ _).below _)).trans (q.mono B.out.size))); clear q)
      | fail "arm")
    go_quiet (fail)
    go_wp2_with (first
      | (go_at_call_of 72 (Value.string A); (with_reducible refine (GA.out _).mono ?_); rintro e wx ⟨rfl, rfl⟩)
      | fail "arm")
    go_ret2
    first | exact ⟨rfl, B.out⟩ | exact ⟨rfl, B.out.trans ((Drew.of _ _).below _)⟩
  | false =>
    rcases hb.plain rfl with hbp | ⟨hts0, hbn⟩
    · have h0 : 0 < s.size := hb.ne
      have hs0 : s[0] = 43 := get0 hbp h0
      have m43 : ((s[0].toNat : Int) == 43) = true := by rw [hs0]; decide
      have m45 : ((s[0].toNat : Int) == 45) = false := by rw [hs0]; decide
      have hx : s.extract 1 s.size = t := ba_ext (by rw [Lib.extract_to_end, hbp]; rfl)
      have hle : 1 ≤ s.size := h0
      clear hs0 hbp
      generalize hA : (⟨a.toArray⟩ : ByteArray) = A at *
      generalize hB : (⟨b.toArray⟩ : ByteArray) = C at *
      generalize a.length = k at *
      have GA := Lib.hid ga
      clear ga hb hts hA hB fl la hT lb da
      go_enter Tryz.func16, Tryz.ntmps16
      go_upto_region 9 with (first
        | (go_at_call 68; (with_reducible refine (IX.out _).mono ?_); rintro e wx ⟨rfl, q⟩; (first | replace B := Lib.hid (B.out.trans (q.mono B.out.size)) | replace B := Lib.hid ((B.out.trans ((Drew.of _ _).below _)).trans (q.mono B.out.size))); clear q)
        | fail "arm")
      go_quiet (fail)
      go_wp2_with (first
        | (go_at_call_of 72 (Value.string A); (with_reducible refine (GA.out _).mono ?_); rintro e wx ⟨rfl, rfl⟩)
        | fail "arm")
      go_ret2
      first | exact ⟨rfl, B.out⟩ | exact ⟨rfl, B.out.trans ((Drew.of _ _).below _)⟩
    · subst hts0
      have h0 : 0 < t.size := hb.ne
      have hs0 := hbn h0
      have m43 : ((t[0].toNat : Int) == 43) = false := beq_eq_false_iff_ne.2 (by omega)
      have m45 : ((t[0].toNat : Int) == 45) = false := beq_eq_false_iff_ne.2 (by omega)
      clear hs0 hbn
      generalize hA : (⟨a.toArray⟩ : ByteArray) = A at *
      generalize hB : (⟨b.toArray⟩ : ByteArray) = C at *
      generalize a.length = k at *
      have GA := Lib.hid ga
      clear ga hb hts hA hB fl la hT lb da
      go_enter Tryz.func16, Tryz.ntmps16
      go_upto_region 9 with (first
        | (go_at_call 68; (with_reducible refine (IX.out _).mono ?_); rintro e wx ⟨rfl, q⟩; (first | replace B := Lib.hid (B.out.trans (q.mono B.out.size)) | replace B := Lib.hid ((B.out.trans ((Drew.of _ _).below _)).trans (q.mono B.out.size))); clear q)
        | fail "arm")
      go_quiet (fail)
      go_wp2_with (first
        | (go_at_call_of 72 (Value.string A); (with_reducible refine (GA.out _).mono ?_); rintro e wx ⟨rfl, rfl⟩)
        | fail "arm")
      go_ret2
      first | exact ⟨rfl, B.out⟩ | exact ⟨rfl, B.out.trans ((Drew.of _ _).below _)⟩

set_option maxRecDepth 100000 in
set_option maxHeartbeats 8000000 in
theorem pparse_slash_bad2 (s t : ByteArray) (neg : Bool) (hb : Body s t neg) (a b : List UInt8) (hT : t.data.toList = a ++ 47 :: b) (ix : ∀ W, Calls Tryz.prog 68 #[.string t, .string ⟨#[47, 46]⟩] W fun e w' => e = .returned (.int .i64 (a.length : Int)) ∧ Below W.heap.size W w') (da : digB a = true) (db : digB b = false) (hs : s.size ≤ 1000) (w : World) (_ : Env w) :
    Calls Tryz.prog 16 #[.string s] w fun e w' => e = .returned (.tuple #[.string ⟨#[]⟩, .int .i64 15]) ∧ Below w.heap.size w w' := by
  have hts := hb.size
  have hts2 : t.size ≤ 1000 := by omega
  obtain ⟨q1, q2⟩ := ne_empty hb.ne
  have B := Lib.hid (Below.refl w.heap.size w)
  have IX := Lib.hid ix
  clear ix
  obtain ⟨fA, fB, fk, fc, fl⟩ := sep_facts hT
  have la : (⟨a.toArray⟩ : ByteArray).size = a.length := rfl
  have lb : (⟨b.toArray⟩ : ByteArray).size = b.length := rfl
  have hk : a.length < t.size := by omega
  have sA : (⟨a.toArray⟩ : ByteArray).size ≤ 1000 := by omega
  have sC : (⟨b.toArray⟩ : ByteArray).size ≤ 1000 := by omega
  have c47 : ((t[a.length].toNat : Int) == 47) = true := by rw [fc hk]; decide
  have c46 : ((t[a.length].toNat : Int) == 46) = false := by rw [fc hk]; decide
  clear fc
  have ga := fun W => digitsR_any ⟨a.toArray⟩ W (by omega)
  rw [show (⟨a.toArray⟩ : ByteArray).data.toList = a from rfl] at ga
  rw [da] at ga
  have gb := fun W => digitsR_any ⟨b.toArray⟩ W (by omega)
  rw [show (⟨b.toArray⟩ : ByteArray).data.toList = b from rfl, db] at gb
  cases neg with
  | true =>
    have h0 : 0 < s.size := hb.ne
    have hs0 : s[0] = 45 := get0 (hb.minus rfl) h0
    have m43 : ((s[0].toNat : Int) == 43) = false := by rw [hs0]; decide
    have m45 : ((s[0].toNat : Int) == 45) = true := by rw [hs0]; decide
    have hx : s.extract 1 s.size = t := ba_ext (by rw [Lib.extract_to_end, hb.minus rfl]; rfl)
    have hle : 1 ≤ s.size := h0
    clear hs0
    generalize hA : (⟨a.toArray⟩ : ByteArray) = A at *
    generalize hB : (⟨b.toArray⟩ : ByteArray) = C at *
    generalize a.length = k at *
    have GA := Lib.hid ga
    have GB := Lib.hid gb
    clear ga gb hb hts hA hB fl la hT lb da db
    go_enter Tryz.func16, Tryz.ntmps16
    go_upto_region 9 with (first
      | (go_at_call 68; (with_reducible refine (IX.out _).mono ?_); rintro e wx ⟨rfl, q⟩; (first | replace B := Lib.hid (B.out.trans (q.mono B.out.size)) | replace B := Lib.hid ((B.out.trans ((Drew.of _ _).below _)).trans (q.mono B.out.size))); clear q)
      | fail "arm")
    go_quiet (fail)
    go_wp2_with (first
      | (go_at_call_of 72 (Value.string A); (with_reducible refine (GA.out _).mono ?_); rintro e wx ⟨rfl, rfl⟩)
      | (go_at_call_of 72 (Value.string C); (with_reducible refine (GB.out _).mono ?_); rintro e wx ⟨rfl, rfl⟩)
      | fail "arm")
    go_ret2
    first | exact ⟨rfl, B.out⟩ | exact ⟨rfl, B.out.trans ((Drew.of _ _).below _)⟩
  | false =>
    rcases hb.plain rfl with hbp | ⟨hts0, hbn⟩
    · have h0 : 0 < s.size := hb.ne
      have hs0 : s[0] = 43 := get0 hbp h0
      have m43 : ((s[0].toNat : Int) == 43) = true := by rw [hs0]; decide
      have m45 : ((s[0].toNat : Int) == 45) = false := by rw [hs0]; decide
      have hx : s.extract 1 s.size = t := ba_ext (by rw [Lib.extract_to_end, hbp]; rfl)
      have hle : 1 ≤ s.size := h0
      clear hs0 hbp
      generalize hA : (⟨a.toArray⟩ : ByteArray) = A at *
      generalize hB : (⟨b.toArray⟩ : ByteArray) = C at *
      generalize a.length = k at *
      have GA := Lib.hid ga
      have GB := Lib.hid gb
      clear ga gb hb hts hA hB fl la hT lb da db
      go_enter Tryz.func16, Tryz.ntmps16
      go_upto_region 9 with (first
        | (go_at_call 68; (with_reducible refine (IX.out _).mono ?_); rintro e wx ⟨rfl, q⟩; (first | replace B := Lib.hid (B.out.trans (q.mono B.out.size)) | replace B := Lib.hid ((B.out.trans ((Drew.of _ _).below _)).trans (q.mono B.out.size))); clear q)
        | fail "arm")
      go_quiet (fail)
      go_wp2_with (first
        | (go_at_call_of 72 (Value.string A); (with_reducible refine (GA.out _).mono ?_); rintro e wx ⟨rfl, rfl⟩)
        | (go_at_call_of 72 (Value.string C); (with_reducible refine (GB.out _).mono ?_); rintro e wx ⟨rfl, rfl⟩)
        | fail "arm")
      go_ret2
      first | exact ⟨rfl, B.out⟩ | exact ⟨rfl, B.out.trans ((Drew.of _ _).below _)⟩
    · subst hts0
      have h0 : 0 < t.size := hb.ne
      have hs0 := hbn h0
      have m43 : ((t[0].toNat : Int) == 43) = false := beq_eq_false_iff_ne.2 (by omega)
      have m45 : ((t[0].toNat : Int) == 45) = false := beq_eq_false_iff_ne.2 (by omega)
      clear hs0 hbn
      generalize hA : (⟨a.toArray⟩ : ByteArray) = A at *
      generalize hB : (⟨b.toArray⟩ : ByteArray) = C at *
      generalize a.length = k at *
      have GA := Lib.hid ga
      have GB := Lib.hid gb
      clear ga gb hb hts hA hB fl la hT lb da db
      go_enter Tryz.func16, Tryz.ntmps16
      go_upto_region 9 with (first
        | (go_at_call 68; (with_reducible refine (IX.out _).mono ?_); rintro e wx ⟨rfl, q⟩; (first | replace B := Lib.hid (B.out.trans (q.mono B.out.size)) | replace B := Lib.hid ((B.out.trans ((Drew.of _ _).below _)).trans (q.mono B.out.size))); clear q)
        | fail "arm")
      go_quiet (fail)
      go_wp2_with (first
        | (go_at_call_of 72 (Value.string A); (with_reducible refine (GA.out _).mono ?_); rintro e wx ⟨rfl, rfl⟩)
        | (go_at_call_of 72 (Value.string C); (with_reducible refine (GB.out _).mono ?_); rintro e wx ⟨rfl, rfl⟩)
        | fail "arm")
      go_ret2
      first | exact ⟨rfl, B.out⟩ | exact ⟨rfl, B.out.trans ((Drew.of _ _).below _)⟩

set_option maxRecDepth 100000 in
set_option maxHeartbeats 8000000 in
theorem pparse_slash_long (s t : ByteArray) (neg : Bool) (hb : Body s t neg) (a b : List UInt8) (hT : t.data.toList = a ++ 47 :: b) (ix : ∀ W, Calls Tryz.prog 68 #[.string t, .string ⟨#[47, 46]⟩] W fun e w' => e = .returned (.int .i64 (a.length : Int)) ∧ Below W.heap.size W w') (da : digB a = true) (db : digB b = true) (hl : 200 < s.size) (hs : s.size ≤ 1000) (w : World) (_ : Env w) :
    Calls Tryz.prog 16 #[.string s] w fun e w' => e = .returned (.tuple #[.string ⟨#[]⟩, .int .i64 16]) ∧ Below w.heap.size w w' := by
  have hts := hb.size
  have hts2 : t.size ≤ 1000 := by omega
  obtain ⟨q1, q2⟩ := ne_empty hb.ne
  have B := Lib.hid (Below.refl w.heap.size w)
  have IX := Lib.hid ix
  clear ix
  obtain ⟨fA, fB, fk, fc, fl⟩ := sep_facts hT
  have la : (⟨a.toArray⟩ : ByteArray).size = a.length := rfl
  have lb : (⟨b.toArray⟩ : ByteArray).size = b.length := rfl
  have hk : a.length < t.size := by omega
  have sA : (⟨a.toArray⟩ : ByteArray).size ≤ 1000 := by omega
  have sC : (⟨b.toArray⟩ : ByteArray).size ≤ 1000 := by omega
  have c47 : ((t[a.length].toNat : Int) == 47) = true := by rw [fc hk]; decide
  have c46 : ((t[a.length].toNat : Int) == 46) = false := by rw [fc hk]; decide
  clear fc
  have ga := fun W => digitsR_any ⟨a.toArray⟩ W (by omega)
  rw [show (⟨a.toArray⟩ : ByteArray).data.toList = a from rfl] at ga
  rw [da] at ga
  have gb := fun W => digitsR_any ⟨b.toArray⟩ W (by omega)
  rw [show (⟨b.toArray⟩ : ByteArray).data.toList = b from rfl, db] at gb
  have dl := decide_eq_true (p := (s.size : Int) > 200) (by omega)
  cases neg with
  | true =>
    have h0 : 0 < s.size := hb.ne
    have hs0 : s[0] = 45 := get0 (hb.minus rfl) h0
    have m43 : ((s[0].toNat : Int) == 43) = false := by rw [hs0]; decide
    have m45 : ((s[0].toNat : Int) == 45) = true := by rw [hs0]; decide
    have hx : s.extract 1 s.size = t := ba_ext (by rw [Lib.extract_to_end, hb.minus rfl]; rfl)
    have hle : 1 ≤ s.size := h0
    clear hs0
    generalize hA : (⟨a.toArray⟩ : ByteArray) = A at *
    generalize hB : (⟨b.toArray⟩ : ByteArray) = C at *
    generalize a.length = k at *
    have GA := Lib.hid ga
    have GB := Lib.hid gb
    clear ga gb hb hts hA hB fl la hT lb da db
    go_enter Tryz.func16, Tryz.ntmps16
    go_upto_region 9 with (first
      | (go_at_call 68; (with_reducible refine (IX.out _).mono ?_); rintro e wx ⟨rfl, q⟩; (first | replace B := Lib.hid (B.out.trans (q.mono B.out.size)) | replace B := Lib.hid ((B.out.trans ((Drew.of _ _).below _)).trans (q.mono B.out.size))); clear q)
      | fail "arm")
    go_quiet (fail)
    go_wp2_with (first
      | (go_at_call_of 72 (Value.string A); (with_reducible refine (GA.out _).mono ?_); rintro e wx ⟨rfl, rfl⟩)
      | (go_at_call_of 72 (Value.string C); (with_reducible refine (GB.out _).mono ?_); rintro e wx ⟨rfl, rfl⟩)
      | fail "arm")
    go_ret2
    first | exact ⟨rfl, B.out⟩ | exact ⟨rfl, B.out.trans ((Drew.of _ _).below _)⟩
  | false =>
    rcases hb.plain rfl with hbp | ⟨hts0, hbn⟩
    · have h0 : 0 < s.size := hb.ne
      have hs0 : s[0] = 43 := get0 hbp h0
      have m43 : ((s[0].toNat : Int) == 43) = true := by rw [hs0]; decide
      have m45 : ((s[0].toNat : Int) == 45) = false := by rw [hs0]; decide
      have hx : s.extract 1 s.size = t := ba_ext (by rw [Lib.extract_to_end, hbp]; rfl)
      have hle : 1 ≤ s.size := h0
      clear hs0 hbp
      generalize hA : (⟨a.toArray⟩ : ByteArray) = A at *
      generalize hB : (⟨b.toArray⟩ : ByteArray) = C at *
      generalize a.length = k at *
      have GA := Lib.hid ga
      have GB := Lib.hid gb
      clear ga gb hb hts hA hB fl la hT lb da db
      go_enter Tryz.func16, Tryz.ntmps16
      go_upto_region 9 with (first
        | (go_at_call 68; (with_reducible refine (IX.out _).mono ?_); rintro e wx ⟨rfl, q⟩; (first | replace B := Lib.hid (B.out.trans (q.mono B.out.size)) | replace B := Lib.hid ((B.out.trans ((Drew.of _ _).below _)).trans (q.mono B.out.size))); clear q)
        | fail "arm")
      go_quiet (fail)
      go_wp2_with (first
        | (go_at_call_of 72 (Value.string A); (with_reducible refine (GA.out _).mono ?_); rintro e wx ⟨rfl, rfl⟩)
        | (go_at_call_of 72 (Value.string C); (with_reducible refine (GB.out _).mono ?_); rintro e wx ⟨rfl, rfl⟩)
        | fail "arm")
      go_ret2
      first | exact ⟨rfl, B.out⟩ | exact ⟨rfl, B.out.trans ((Drew.of _ _).below _)⟩
    · subst hts0
      have h0 : 0 < t.size := hb.ne
      have hs0 := hbn h0
      have m43 : ((t[0].toNat : Int) == 43) = false := beq_eq_false_iff_ne.2 (by omega)
      have m45 : ((t[0].toNat : Int) == 45) = false := beq_eq_false_iff_ne.2 (by omega)
      clear hs0 hbn
      generalize hA : (⟨a.toArray⟩ : ByteArray) = A at *
      generalize hB : (⟨b.toArray⟩ : ByteArray) = C at *
      generalize a.length = k at *
      have GA := Lib.hid ga
      have GB := Lib.hid gb
      clear ga gb hb hts hA hB fl la hT lb da db
      go_enter Tryz.func16, Tryz.ntmps16
      go_upto_region 9 with (first
        | (go_at_call 68; (with_reducible refine (IX.out _).mono ?_); rintro e wx ⟨rfl, q⟩; (first | replace B := Lib.hid (B.out.trans (q.mono B.out.size)) | replace B := Lib.hid ((B.out.trans ((Drew.of _ _).below _)).trans (q.mono B.out.size))); clear q)
        | fail "arm")
      go_quiet (fail)
      go_wp2_with (first
        | (go_at_call_of 72 (Value.string A); (with_reducible refine (GA.out _).mono ?_); rintro e wx ⟨rfl, rfl⟩)
        | (go_at_call_of 72 (Value.string C); (with_reducible refine (GB.out _).mono ?_); rintro e wx ⟨rfl, rfl⟩)
        | fail "arm")
      go_ret2
      first | exact ⟨rfl, B.out⟩ | exact ⟨rfl, B.out.trans ((Drew.of _ _).below _)⟩

set_option maxRecDepth 100000 in
set_option maxHeartbeats 8000000 in
theorem pparse_slash_zero (s t : ByteArray) (neg : Bool) (hb : Body s t neg) (a b : List UInt8) (hT : t.data.toList = a ++ 47 :: b) (ix : ∀ W, Calls Tryz.prog 68 #[.string t, .string ⟨#[47, 46]⟩] W fun e w' => e = .returned (.int .i64 (a.length : Int)) ∧ Below W.heap.size W w') (da : digB a = true) (db : digB b = true) (hl : s.size ≤ 200) (hz : dval b = 0) (_ : s.size ≤ 1000) (w : World) (_ : Env w) :
    Calls Tryz.prog 16 #[.string s] w fun e w' => e = .returned (.tuple #[.string ⟨#[]⟩, .int .i64 17]) ∧ Below w.heap.size w w' := by
  have hts := hb.size
  have hts2 : t.size ≤ 1000 := by omega
  obtain ⟨q1, q2⟩ := ne_empty hb.ne
  have B := Lib.hid (Below.refl w.heap.size w)
  have IX := Lib.hid ix
  clear ix
  obtain ⟨fA, fB, fk, fc, fl⟩ := sep_facts hT
  have la : (⟨a.toArray⟩ : ByteArray).size = a.length := rfl
  have lb : (⟨b.toArray⟩ : ByteArray).size = b.length := rfl
  have hk : a.length < t.size := by omega
  have sA : (⟨a.toArray⟩ : ByteArray).size ≤ 1000 := by omega
  have sC : (⟨b.toArray⟩ : ByteArray).size ≤ 1000 := by omega
  have c47 : ((t[a.length].toNat : Int) == 47) = true := by rw [fc hk]; decide
  have c46 : ((t[a.length].toNat : Int) == 46) = false := by rw [fc hk]; decide
  clear fc
  have ga := fun W => digitsR_any ⟨a.toArray⟩ W (by omega)
  rw [show (⟨a.toArray⟩ : ByteArray).data.toList = a from rfl] at ga
  rw [da] at ga
  have gb := fun W => digitsR_any ⟨b.toArray⟩ W (by omega)
  rw [show (⟨b.toArray⟩ : ByteArray).data.toList = b from rfl, db] at gb
  have pa := fun W => plainR_any ⟨a.toArray⟩ W da (by omega)
  have pb := fun W => plainR_any ⟨b.toArray⟩ W db (by omega)
  rw [show (⟨a.toArray⟩ : ByteArray).data.toList = a from rfl] at pa
  rw [show (⟨b.toArray⟩ : ByteArray).data.toList = b from rfl] at pb
  have dl := decide_eq_false (p := (s.size : Int) > 200) (by omega)
  have sn := canon_dval_size a da
  have sd := canon_dval_size b db
  have hz0 := canon_beq0 ((dval b : Nat) : Int)
  rw [decide_eq_true (by omega)] at hz0
  cases neg with
  | true =>
    have h0 : 0 < s.size := hb.ne
    have hs0 : s[0] = 45 := get0 (hb.minus rfl) h0
    have m43 : ((s[0].toNat : Int) == 43) = false := by rw [hs0]; decide
    have m45 : ((s[0].toNat : Int) == 45) = true := by rw [hs0]; decide
    have hx : s.extract 1 s.size = t := ba_ext (by rw [Lib.extract_to_end, hb.minus rfl]; rfl)
    have hle : 1 ≤ s.size := h0
    clear hs0
    generalize canon ((dval a : Nat) : Int) = CN at *
    generalize canon ((dval b : Nat) : Int) = CD at *
    generalize hA : (⟨a.toArray⟩ : ByteArray) = A at *
    generalize hB : (⟨b.toArray⟩ : ByteArray) = C at *
    generalize a.length = k at *
    have GA := Lib.hid ga
    have GB := Lib.hid gb
    have PA := Lib.hid pa
    have PB := Lib.hid pb
    clear ga gb pa pb hb hts sn sd hA hB fl la hT lb da db hz
    go_enter Tryz.func16, Tryz.ntmps16
    go_upto_region 9 with (first
      | (go_at_call 68; (with_reducible refine (IX.out _).mono ?_); rintro e wx ⟨rfl, q⟩; (first | replace B := Lib.hid (B.out.trans (q.mono B.out.size)) | replace B := Lib.hid ((B.out.trans ((Drew.of _ _).below _)).trans (q.mono B.out.size))); clear q)
      | fail "arm")
    go_quiet (fail)
    go_wp2_with (first
      | (go_at_call_of 72 (Value.string A); (with_reducible refine (GA.out _).mono ?_); rintro e wx ⟨rfl, rfl⟩)
      | (go_at_call_of 72 (Value.string C); (with_reducible refine (GB.out _).mono ?_); rintro e wx ⟨rfl, rfl⟩)
      | (go_at_call_of 73 (Value.string A); (with_reducible refine (PA.out _).mono ?_); rintro e wx ⟨rfl, rfl⟩)
      | (go_at_call_of 73 (Value.string C); (with_reducible refine (PB.out _).mono ?_); rintro e wx ⟨rfl, rfl⟩)
      | fail "arm")
    go_ret2
    first | exact ⟨rfl, B.out⟩ | exact ⟨rfl, B.out.trans ((Drew.of _ _).below _)⟩
  | false =>
    rcases hb.plain rfl with hbp | ⟨hts0, hbn⟩
    · have h0 : 0 < s.size := hb.ne
      have hs0 : s[0] = 43 := get0 hbp h0
      have m43 : ((s[0].toNat : Int) == 43) = true := by rw [hs0]; decide
      have m45 : ((s[0].toNat : Int) == 45) = false := by rw [hs0]; decide
      have hx : s.extract 1 s.size = t := ba_ext (by rw [Lib.extract_to_end, hbp]; rfl)
      have hle : 1 ≤ s.size := h0
      clear hs0 hbp
      generalize canon ((dval a : Nat) : Int) = CN at *
      generalize canon ((dval b : Nat) : Int) = CD at *
      generalize hA : (⟨a.toArray⟩ : ByteArray) = A at *
      generalize hB : (⟨b.toArray⟩ : ByteArray) = C at *
      generalize a.length = k at *
      have GA := Lib.hid ga
      have GB := Lib.hid gb
      have PA := Lib.hid pa
      have PB := Lib.hid pb
      clear ga gb pa pb hb hts sn sd hA hB fl la hT lb da db hz
      go_enter Tryz.func16, Tryz.ntmps16
      go_upto_region 9 with (first
        | (go_at_call 68; (with_reducible refine (IX.out _).mono ?_); rintro e wx ⟨rfl, q⟩; (first | replace B := Lib.hid (B.out.trans (q.mono B.out.size)) | replace B := Lib.hid ((B.out.trans ((Drew.of _ _).below _)).trans (q.mono B.out.size))); clear q)
        | fail "arm")
      go_quiet (fail)
      go_wp2_with (first
        | (go_at_call_of 72 (Value.string A); (with_reducible refine (GA.out _).mono ?_); rintro e wx ⟨rfl, rfl⟩)
        | (go_at_call_of 72 (Value.string C); (with_reducible refine (GB.out _).mono ?_); rintro e wx ⟨rfl, rfl⟩)
        | (go_at_call_of 73 (Value.string A); (with_reducible refine (PA.out _).mono ?_); rintro e wx ⟨rfl, rfl⟩)
        | (go_at_call_of 73 (Value.string C); (with_reducible refine (PB.out _).mono ?_); rintro e wx ⟨rfl, rfl⟩)
        | fail "arm")
      go_ret2
      first | exact ⟨rfl, B.out⟩ | exact ⟨rfl, B.out.trans ((Drew.of _ _).below _)⟩
    · subst hts0
      have h0 : 0 < t.size := hb.ne
      have hs0 := hbn h0
      have m43 : ((t[0].toNat : Int) == 43) = false := beq_eq_false_iff_ne.2 (by omega)
      have m45 : ((t[0].toNat : Int) == 45) = false := beq_eq_false_iff_ne.2 (by omega)
      clear hs0 hbn
      generalize canon ((dval a : Nat) : Int) = CN at *
      generalize canon ((dval b : Nat) : Int) = CD at *
      generalize hA : (⟨a.toArray⟩ : ByteArray) = A at *
      generalize hB : (⟨b.toArray⟩ : ByteArray) = C at *
      generalize a.length = k at *
      have GA := Lib.hid ga
      have GB := Lib.hid gb
      have PA := Lib.hid pa
      have PB := Lib.hid pb
      clear ga gb pa pb hb hts sn sd hA hB fl la hT lb da db hz
      go_enter Tryz.func16, Tryz.ntmps16
      go_upto_region 9 with (first
        | (go_at_call 68; (with_reducible refine (IX.out _).mono ?_); rintro e wx ⟨rfl, q⟩; (first | replace B := Lib.hid (B.out.trans (q.mono B.out.size)) | replace B := Lib.hid ((B.out.trans ((Drew.of _ _).below _)).trans (q.mono B.out.size))); clear q)
        | fail "arm")
      go_quiet (fail)
      go_wp2_with (first
        | (go_at_call_of 72 (Value.string A); (with_reducible refine (GA.out _).mono ?_); rintro e wx ⟨rfl, rfl⟩)
        | (go_at_call_of 72 (Value.string C); (with_reducible refine (GB.out _).mono ?_); rintro e wx ⟨rfl, rfl⟩)
        | (go_at_call_of 73 (Value.string A); (with_reducible refine (PA.out _).mono ?_); rintro e wx ⟨rfl, rfl⟩)
        | (go_at_call_of 73 (Value.string C); (with_reducible refine (PB.out _).mono ?_); rintro e wx ⟨rfl, rfl⟩)
        | fail "arm")
      go_ret2
      first | exact ⟨rfl, B.out⟩ | exact ⟨rfl, B.out.trans ((Drew.of _ _).below _)⟩

set_option maxRecDepth 100000 in
set_option maxHeartbeats 8000000 in
theorem pparse_slash_ok (s t : ByteArray) (neg : Bool) (hb : Body s t neg) (a b : List UInt8) (hT : t.data.toList = a ++ 47 :: b) (ix : ∀ W, Calls Tryz.prog 68 #[.string t, .string ⟨#[47, 46]⟩] W fun e w' => e = .returned (.int .i64 (a.length : Int)) ∧ Below W.heap.size W w') (da : digB a = true) (db : digB b = true) (hl : s.size ≤ 200) (hz : 0 < dval b) (_ : s.size ≤ 1000) (w : World) (he : Env w) :
    Calls Tryz.prog 16 #[.string s] w fun e w' => e = .returned (.tuple #[.string (canonR (mkRat (if neg = true then -((dval a : Nat) : Int) else ((dval a : Nat) : Int)) (dval b))), .int .i64 0]) ∧ Below w.heap.size w w' := by
  have hts := hb.size
  have hts2 : t.size ≤ 1000 := by omega
  obtain ⟨q1, q2⟩ := ne_empty hb.ne
  have B := Lib.hid (Below.refl w.heap.size w)
  have IX := Lib.hid ix
  clear ix
  obtain ⟨fA, fB, fk, fc, fl⟩ := sep_facts hT
  have la : (⟨a.toArray⟩ : ByteArray).size = a.length := rfl
  have lb : (⟨b.toArray⟩ : ByteArray).size = b.length := rfl
  have hk : a.length < t.size := by omega
  have sA : (⟨a.toArray⟩ : ByteArray).size ≤ 1000 := by omega
  have sC : (⟨b.toArray⟩ : ByteArray).size ≤ 1000 := by omega
  have c47 : ((t[a.length].toNat : Int) == 47) = true := by rw [fc hk]; decide
  have c46 : ((t[a.length].toNat : Int) == 46) = false := by rw [fc hk]; decide
  clear fc
  have ga := fun W => digitsR_any ⟨a.toArray⟩ W (by omega)
  rw [show (⟨a.toArray⟩ : ByteArray).data.toList = a from rfl] at ga
  rw [da] at ga
  have gb := fun W => digitsR_any ⟨b.toArray⟩ W (by omega)
  rw [show (⟨b.toArray⟩ : ByteArray).data.toList = b from rfl, db] at gb
  have pa := fun W => plainR_any ⟨a.toArray⟩ W da (by omega)
  have pb := fun W => plainR_any ⟨b.toArray⟩ W db (by omega)
  rw [show (⟨a.toArray⟩ : ByteArray).data.toList = a from rfl] at pa
  rw [show (⟨b.toArray⟩ : ByteArray).data.toList = b from rfl] at pb
  have dl := decide_eq_false (p := (s.size : Int) > 200) (by omega)
  have sn := canon_dval_size a da
  have sd := canon_dval_size b db
  have hz0 := canon_beq0 ((dval b : Nat) : Int)
  rw [decide_eq_false (by omega)] at hz0
  cases neg with
  | true =>
    simp only [if_true]
    have sn2 := sgn_size sn
    have lo := fun W (hW : Below w.heap.size w W) => fraction_any false (-((dval a : Nat) : Int)) (dval b) W (he.below hW).1 hz (by omega) (by omega)
    simp only [Bool.false_eq_true, if_false] at lo
    have ng := fun W => negR_any ((dval a : Nat) : Int) W (by omega)
    have h0 : 0 < s.size := hb.ne
    have hs0 : s[0] = 45 := get0 (hb.minus rfl) h0
    have m43 : ((s[0].toNat : Int) == 43) = false := by rw [hs0]; decide
    have m45 : ((s[0].toNat : Int) == 45) = true := by rw [hs0]; decide
    have hx : s.extract 1 s.size = t := ba_ext (by rw [Lib.extract_to_end, hb.minus rfl]; rfl)
    have hle : 1 ≤ s.size := h0
    clear hs0
    generalize canonR (mkRat (-((dval a : Nat) : Int)) (dval b)) = R at *
    generalize canon (-((dval a : Nat) : Int)) = CM at *
    generalize canon ((dval a : Nat) : Int) = CN at *
    generalize canon ((dval b : Nat) : Int) = CD at *
    generalize hA : (⟨a.toArray⟩ : ByteArray) = A at *
    generalize hB : (⟨b.toArray⟩ : ByteArray) = C at *
    generalize a.length = k at *
    have GA := Lib.hid ga
    have GB := Lib.hid gb
    have PA := Lib.hid pa
    have PB := Lib.hid pb
    have LO := Lib.hid lo
    have NG := Lib.hid ng
    clear ga gb pa pb lo ng hb hts he sn2 sn sd hA hB fl la hT lb da db hz
    go_enter Tryz.func16, Tryz.ntmps16
    go_upto_region 9 with (first
      | (go_at_call 68; (with_reducible refine (IX.out _).mono ?_); rintro e wx ⟨rfl, q⟩; (first | replace B := Lib.hid (B.out.trans (q.mono B.out.size)) | replace B := Lib.hid ((B.out.trans ((Drew.of _ _).below _)).trans (q.mono B.out.size))); clear q)
      | fail "arm")
    go_quiet (fail)
    go_wp2_with (first
      | (go_at_call_of 72 (Value.string A); (with_reducible refine (GA.out _).mono ?_); rintro e wx ⟨rfl, rfl⟩)
      | (go_at_call_of 72 (Value.string C); (with_reducible refine (GB.out _).mono ?_); rintro e wx ⟨rfl, rfl⟩)
      | (go_at_call_of 73 (Value.string A); (with_reducible refine (PA.out _).mono ?_); rintro e wx ⟨rfl, rfl⟩)
      | (go_at_call_of 73 (Value.string C); (with_reducible refine (PB.out _).mono ?_); rintro e wx ⟨rfl, rfl⟩)
      | (go_at_call 74; (with_reducible refine (NG.out _).mono ?_); rintro e wx ⟨rfl, q⟩; (first | replace B := Lib.hid (B.out.trans (q.mono B.out.size)) | replace B := Lib.hid ((B.out.trans ((Drew.of _ _).below _)).trans (q.mono B.out.size))); clear q)
      | (go_at_call 21; (with_reducible refine (LO.out _ ?_).mono ?_); (first | exact B.out | exact B.out.trans ((Drew.of _ _).below _)); rintro e wx ⟨rfl, q⟩; (first | replace B := Lib.hid (B.out.trans (q.mono B.out.size)) | replace B := Lib.hid ((B.out.trans ((Drew.of _ _).below _)).trans (q.mono B.out.size))); clear q)
      | fail "arm")
    go_ret2
    first | exact ⟨rfl, B.out⟩ | exact ⟨rfl, B.out.trans ((Drew.of _ _).below _)⟩
  | false =>
    rcases hb.plain rfl with hbp | ⟨hts0, hbn⟩
    · simp only [Bool.false_eq_true, if_false]
      have lo := fun W (hW : Below w.heap.size w W) => fraction_any false ((dval a : Nat) : Int) (dval b) W (he.below hW).1 hz (by omega) (by omega)
      simp only [Bool.false_eq_true, if_false] at lo
      have h0 : 0 < s.size := hb.ne
      have hs0 : s[0] = 43 := get0 hbp h0
      have m43 : ((s[0].toNat : Int) == 43) = true := by rw [hs0]; decide
      have m45 : ((s[0].toNat : Int) == 45) = false := by rw [hs0]; decide
      have hx : s.extract 1 s.size = t := ba_ext (by rw [Lib.extract_to_end, hbp]; rfl)
      have hle : 1 ≤ s.size := h0
      clear hs0 hbp
      generalize canonR (mkRat ((dval a : Nat) : Int) (dval b)) = R at *
      generalize canon ((dval a : Nat) : Int) = CN at *
      generalize canon ((dval b : Nat) : Int) = CD at *
      generalize hA : (⟨a.toArray⟩ : ByteArray) = A at *
      generalize hB : (⟨b.toArray⟩ : ByteArray) = C at *
      generalize a.length = k at *
      have GA := Lib.hid ga
      have GB := Lib.hid gb
      have PA := Lib.hid pa
      have PB := Lib.hid pb
      have LO := Lib.hid lo
      clear ga gb pa pb lo hb hts he sn sd hA hB fl la hT lb da db hz
      go_enter Tryz.func16, Tryz.ntmps16
      go_upto_region 9 with (first
        | (go_at_call 68; (with_reducible refine (IX.out _).mono ?_); rintro e wx ⟨rfl, q⟩; (first | replace B := Lib.hid (B.out.trans (q.mono B.out.size)) | replace B := Lib.hid ((B.out.trans ((Drew.of _ _).below _)).trans (q.mono B.out.size))); clear q)
        | fail "arm")
      go_quiet (fail)
      go_wp2_with (first
        | (go_at_call_of 72 (Value.string A); (with_reducible refine (GA.out _).mono ?_); rintro e wx ⟨rfl, rfl⟩)
        | (go_at_call_of 72 (Value.string C); (with_reducible refine (GB.out _).mono ?_); rintro e wx ⟨rfl, rfl⟩)
        | (go_at_call_of 73 (Value.string A); (with_reducible refine (PA.out _).mono ?_); rintro e wx ⟨rfl, rfl⟩)
        | (go_at_call_of 73 (Value.string C); (with_reducible refine (PB.out _).mono ?_); rintro e wx ⟨rfl, rfl⟩)
        | (go_at_call 21; (with_reducible refine (LO.out _ ?_).mono ?_); (first | exact B.out | exact B.out.trans ((Drew.of _ _).below _)); rintro e wx ⟨rfl, q⟩; (first | replace B := Lib.hid (B.out.trans (q.mono B.out.size)) | replace B := Lib.hid ((B.out.trans ((Drew.of _ _).below _)).trans (q.mono B.out.size))); clear q)
        | fail "arm")
      go_ret2
      first | exact ⟨rfl, B.out⟩ | exact ⟨rfl, B.out.trans ((Drew.of _ _).below _)⟩
    · subst hts0
      simp only [Bool.false_eq_true, if_false]
      have lo := fun W (hW : Below w.heap.size w W) => fraction_any false ((dval a : Nat) : Int) (dval b) W (he.below hW).1 hz (by omega) (by omega)
      simp only [Bool.false_eq_true, if_false] at lo
      have h0 : 0 < t.size := hb.ne
      have hs0 := hbn h0
      have m43 : ((t[0].toNat : Int) == 43) = false := beq_eq_false_iff_ne.2 (by omega)
      have m45 : ((t[0].toNat : Int) == 45) = false := beq_eq_false_iff_ne.2 (by omega)
      clear hs0 hbn
      generalize canonR (mkRat ((dval a : Nat) : Int) (dval b)) = R at *
      generalize canon ((dval a : Nat) : Int) = CN at *
      generalize canon ((dval b : Nat) : Int) = CD at *
      generalize hA : (⟨a.toArray⟩ : ByteArray) = A at *
      generalize hB : (⟨b.toArray⟩ : ByteArray) = C at *
      generalize a.length = k at *
      have GA := Lib.hid ga
      have GB := Lib.hid gb
      have PA := Lib.hid pa
      have PB := Lib.hid pb
      have LO := Lib.hid lo
      clear ga gb pa pb lo hb hts he sn sd hA hB fl la hT lb da db hz
      go_enter Tryz.func16, Tryz.ntmps16
      go_upto_region 9 with (first
        | (go_at_call 68; (with_reducible refine (IX.out _).mono ?_); rintro e wx ⟨rfl, q⟩; (first | replace B := Lib.hid (B.out.trans (q.mono B.out.size)) | replace B := Lib.hid ((B.out.trans ((Drew.of _ _).below _)).trans (q.mono B.out.size))); clear q)
        | fail "arm")
      go_quiet (fail)
      go_wp2_with (first
        | (go_at_call_of 72 (Value.string A); (with_reducible refine (GA.out _).mono ?_); rintro e wx ⟨rfl, rfl⟩)
        | (go_at_call_of 72 (Value.string C); (with_reducible refine (GB.out _).mono ?_); rintro e wx ⟨rfl, rfl⟩)
        | (go_at_call_of 73 (Value.string A); (with_reducible refine (PA.out _).mono ?_); rintro e wx ⟨rfl, rfl⟩)
        | (go_at_call_of 73 (Value.string C); (with_reducible refine (PB.out _).mono ?_); rintro e wx ⟨rfl, rfl⟩)
        | (go_at_call 21; (with_reducible refine (LO.out _ ?_).mono ?_); (first | exact B.out | exact B.out.trans ((Drew.of _ _).below _)); rintro e wx ⟨rfl, q⟩; (first | replace B := Lib.hid (B.out.trans (q.mono B.out.size)) | replace B := Lib.hid ((B.out.trans ((Drew.of _ _).below _)).trans (q.mono B.out.size))); clear q)
        | fail "arm")
      go_ret2
      first | exact ⟨rfl, B.out⟩ | exact ⟨rfl, B.out.trans ((Drew.of _ _).below _)⟩

set_option maxRecDepth 100000 in
set_option maxHeartbeats 8000000 in
theorem pparse_dot_bad1 (s t : ByteArray) (neg : Bool) (hb : Body s t neg) (a b : List UInt8) (hT : t.data.toList = a ++ 46 :: b) (ix : ∀ W, Calls Tryz.prog 68 #[.string t, .string ⟨#[47, 46]⟩] W fun e w' => e = .returned (.int .i64 (a.length : Int)) ∧ Below W.heap.size W w') (da : digB a = false) (hs : s.size ≤ 1000) (w : World) (_ : Env w) :
    Calls Tryz.prog 16 #[.string s] w fun e w' => e = .returned (.tuple #[.string ⟨#[]⟩, .int .i64 15]) ∧ Below w.heap.size w w' := by
  have hts := hb.size
  have hts2 : t.size ≤ 1000 := by omega
  obtain ⟨q1, q2⟩ := ne_empty hb.ne
  have B := Lib.hid (Below.refl w.heap.size w)
  have IX := Lib.hid ix
  clear ix
  obtain ⟨fA, fB, fk, fc, fl⟩ := sep_facts hT
  have la : (⟨a.toArray⟩ : ByteArray).size = a.length := rfl
  have lb : (⟨b.toArray⟩ : ByteArray).size = b.length := rfl
  have hk : a.length < t.size := by omega
  have sA : (⟨a.toArray⟩ : ByteArray).size ≤ 1000 := by omega
  have sC : (⟨b.toArray⟩ : ByteArray).size ≤ 1000 := by omega
  have c47 : ((t[a.length].toNat : Int) == 47) = false := by rw [fc hk]; decide
  have c46 : ((t[a.length].toNat : Int) == 46) = true := by rw [fc hk]; decide
  clear fc
  have ga := fun W => digitsR_any ⟨a.toArray⟩ W (by omega)
  rw [show (⟨a.toArray⟩ : ByteArray).data.toList = a from rfl] at ga
  rw [da] at ga
  cases neg with
  | true =>
    have h0 : 0 < s.size := hb.ne
    have hs0 : s[0] = 45 := get0 (hb.minus rfl) h0
    have m43 : ((s[0].toNat : Int) == 43) = false := by rw [hs0]; decide
    have m45 : ((s[0].toNat : Int) == 45) = true := by rw [hs0]; decide
    have hx : s.extract 1 s.size = t := ba_ext (by rw [Lib.extract_to_end, hb.minus rfl]; rfl)
    have hle : 1 ≤ s.size := h0
    clear hs0
    generalize hA : (⟨a.toArray⟩ : ByteArray) = A at *
    generalize hB : (⟨b.toArray⟩ : ByteArray) = C at *
    generalize a.length = k at *
    have GA := Lib.hid ga
    clear ga hb hts hA hB fl la hT lb da
    go_enter Tryz.func16, Tryz.ntmps16
    go_upto_region 9 with (first
      | (go_at_call 68; (with_reducible refine (IX.out _).mono ?_); rintro e wx ⟨rfl, q⟩; (first | replace B := Lib.hid (B.out.trans (q.mono B.out.size)) | replace B := Lib.hid ((B.out.trans ((Drew.of _ _).below _)).trans (q.mono B.out.size))); clear q)
      | fail "arm")
    go_quiet (fail)
    go_wp2_with (first
      | (go_at_call_of 72 (Value.string A); (with_reducible refine (GA.out _).mono ?_); rintro e wx ⟨rfl, rfl⟩)
      | fail "arm")
    go_ret2
    first | exact ⟨rfl, B.out⟩ | exact ⟨rfl, B.out.trans ((Drew.of _ _).below _)⟩
  | false =>
    rcases hb.plain rfl with hbp | ⟨hts0, hbn⟩
    · have h0 : 0 < s.size := hb.ne
      have hs0 : s[0] = 43 := get0 hbp h0
      have m43 : ((s[0].toNat : Int) == 43) = true := by rw [hs0]; decide
      have m45 : ((s[0].toNat : Int) == 45) = false := by rw [hs0]; decide
      have hx : s.extract 1 s.size = t := ba_ext (by rw [Lib.extract_to_end, hbp]; rfl)
      have hle : 1 ≤ s.size := h0
      clear hs0 hbp
      generalize hA : (⟨a.toArray⟩ : ByteArray) = A at *
      generalize hB : (⟨b.toArray⟩ : ByteArray) = C at *
      generalize a.length = k at *
      have GA := Lib.hid ga
      clear ga hb hts hA hB fl la hT lb da
      go_enter Tryz.func16, Tryz.ntmps16
      go_upto_region 9 with (first
        | (go_at_call 68; (with_reducible refine (IX.out _).mono ?_); rintro e wx ⟨rfl, q⟩; (first | replace B := Lib.hid (B.out.trans (q.mono B.out.size)) | replace B := Lib.hid ((B.out.trans ((Drew.of _ _).below _)).trans (q.mono B.out.size))); clear q)
        | fail "arm")
      go_quiet (fail)
      go_wp2_with (first
        | (go_at_call_of 72 (Value.string A); (with_reducible refine (GA.out _).mono ?_); rintro e wx ⟨rfl, rfl⟩)
        | fail "arm")
      go_ret2
      first | exact ⟨rfl, B.out⟩ | exact ⟨rfl, B.out.trans ((Drew.of _ _).below _)⟩
    · subst hts0
      have h0 : 0 < t.size := hb.ne
      have hs0 := hbn h0
      have m43 : ((t[0].toNat : Int) == 43) = false := beq_eq_false_iff_ne.2 (by omega)
      have m45 : ((t[0].toNat : Int) == 45) = false := beq_eq_false_iff_ne.2 (by omega)
      clear hs0 hbn
      generalize hA : (⟨a.toArray⟩ : ByteArray) = A at *
      generalize hB : (⟨b.toArray⟩ : ByteArray) = C at *
      generalize a.length = k at *
      have GA := Lib.hid ga
      clear ga hb hts hA hB fl la hT lb da
      go_enter Tryz.func16, Tryz.ntmps16
      go_upto_region 9 with (first
        | (go_at_call 68; (with_reducible refine (IX.out _).mono ?_); rintro e wx ⟨rfl, q⟩; (first | replace B := Lib.hid (B.out.trans (q.mono B.out.size)) | replace B := Lib.hid ((B.out.trans ((Drew.of _ _).below _)).trans (q.mono B.out.size))); clear q)
        | fail "arm")
      go_quiet (fail)
      go_wp2_with (first
        | (go_at_call_of 72 (Value.string A); (with_reducible refine (GA.out _).mono ?_); rintro e wx ⟨rfl, rfl⟩)
        | fail "arm")
      go_ret2
      first | exact ⟨rfl, B.out⟩ | exact ⟨rfl, B.out.trans ((Drew.of _ _).below _)⟩

set_option maxRecDepth 100000 in
set_option maxHeartbeats 8000000 in
theorem pparse_dot_bad2 (s t : ByteArray) (neg : Bool) (hb : Body s t neg) (a b : List UInt8) (hT : t.data.toList = a ++ 46 :: b) (ix : ∀ W, Calls Tryz.prog 68 #[.string t, .string ⟨#[47, 46]⟩] W fun e w' => e = .returned (.int .i64 (a.length : Int)) ∧ Below W.heap.size W w') (da : digB a = true) (db : digB b = false) (hs : s.size ≤ 1000) (w : World) (_ : Env w) :
    Calls Tryz.prog 16 #[.string s] w fun e w' => e = .returned (.tuple #[.string ⟨#[]⟩, .int .i64 15]) ∧ Below w.heap.size w w' := by
  have hts := hb.size
  have hts2 : t.size ≤ 1000 := by omega
  obtain ⟨q1, q2⟩ := ne_empty hb.ne
  have B := Lib.hid (Below.refl w.heap.size w)
  have IX := Lib.hid ix
  clear ix
  obtain ⟨fA, fB, fk, fc, fl⟩ := sep_facts hT
  have la : (⟨a.toArray⟩ : ByteArray).size = a.length := rfl
  have lb : (⟨b.toArray⟩ : ByteArray).size = b.length := rfl
  have hk : a.length < t.size := by omega
  have sA : (⟨a.toArray⟩ : ByteArray).size ≤ 1000 := by omega
  have sC : (⟨b.toArray⟩ : ByteArray).size ≤ 1000 := by omega
  have c47 : ((t[a.length].toNat : Int) == 47) = false := by rw [fc hk]; decide
  have c46 : ((t[a.length].toNat : Int) == 46) = true := by rw [fc hk]; decide
  clear fc
  have ga := fun W => digitsR_any ⟨a.toArray⟩ W (by omega)
  rw [show (⟨a.toArray⟩ : ByteArray).data.toList = a from rfl] at ga
  rw [da] at ga
  have gb := fun W => digitsR_any ⟨b.toArray⟩ W (by omega)
  rw [show (⟨b.toArray⟩ : ByteArray).data.toList = b from rfl, db] at gb
  cases neg with
  | true =>
    have h0 : 0 < s.size := hb.ne
    have hs0 : s[0] = 45 := get0 (hb.minus rfl) h0
    have m43 : ((s[0].toNat : Int) == 43) = false := by rw [hs0]; decide
    have m45 : ((s[0].toNat : Int) == 45) = true := by rw [hs0]; decide
    have hx : s.extract 1 s.size = t := ba_ext (by rw [Lib.extract_to_end, hb.minus rfl]; rfl)
    have hle : 1 ≤ s.size := h0
    clear hs0
    generalize hA : (⟨a.toArray⟩ : ByteArray) = A at *
    generalize hB : (⟨b.toArray⟩ : ByteArray) = C at *
    generalize a.length = k at *
    have GA := Lib.hid ga
    have GB := Lib.hid gb
    clear ga gb hb hts hA hB fl la hT lb da db
    go_enter Tryz.func16, Tryz.ntmps16
    go_upto_region 9 with (first
      | (go_at_call 68; (with_reducible refine (IX.out _).mono ?_); rintro e wx ⟨rfl, q⟩; (first | replace B := Lib.hid (B.out.trans (q.mono B.out.size)) | replace B := Lib.hid ((B.out.trans ((Drew.of _ _).below _)).trans (q.mono B.out.size))); clear q)
      | fail "arm")
    go_quiet (fail)
    go_wp2_with (first
      | (go_at_call_of 72 (Value.string A); (with_reducible refine (GA.out _).mono ?_); rintro e wx ⟨rfl, rfl⟩)
      | (go_at_call_of 72 (Value.string C); (with_reducible refine (GB.out _).mono ?_); rintro e wx ⟨rfl, rfl⟩)
      | fail "arm")
    go_ret2
    first | exact ⟨rfl, B.out⟩ | exact ⟨rfl, B.out.trans ((Drew.of _ _).below _)⟩
  | false =>
    rcases hb.plain rfl with hbp | ⟨hts0, hbn⟩
    · have h0 : 0 < s.size := hb.ne
      have hs0 : s[0] = 43 := get0 hbp h0
      have m43 : ((s[0].toNat : Int) == 43) = true := by rw [hs0]; decide
      have m45 : ((s[0].toNat : Int) == 45) = false := by rw [hs0]; decide
      have hx : s.extract 1 s.size = t := ba_ext (by rw [Lib.extract_to_end, hbp]; rfl)
      have hle : 1 ≤ s.size := h0
      clear hs0 hbp
      generalize hA : (⟨a.toArray⟩ : ByteArray) = A at *
      generalize hB : (⟨b.toArray⟩ : ByteArray) = C at *
      generalize a.length = k at *
      have GA := Lib.hid ga
      have GB := Lib.hid gb
      clear ga gb hb hts hA hB fl la hT lb da db
      go_enter Tryz.func16, Tryz.ntmps16
      go_upto_region 9 with (first
        | (go_at_call 68; (with_reducible refine (IX.out _).mono ?_); rintro e wx ⟨rfl, q⟩; (first | replace B := Lib.hid (B.out.trans (q.mono B.out.size)) | replace B := Lib.hid ((B.out.trans ((Drew.of _ _).below _)).trans (q.mono B.out.size))); clear q)
        | fail "arm")
      go_quiet (fail)
      go_wp2_with (first
        | (go_at_call_of 72 (Value.string A); (with_reducible refine (GA.out _).mono ?_); rintro e wx ⟨rfl, rfl⟩)
        | (go_at_call_of 72 (Value.string C); (with_reducible refine (GB.out _).mono ?_); rintro e wx ⟨rfl, rfl⟩)
        | fail "arm")
      go_ret2
      first | exact ⟨rfl, B.out⟩ | exact ⟨rfl, B.out.trans ((Drew.of _ _).below _)⟩
    · subst hts0
      have h0 : 0 < t.size := hb.ne
      have hs0 := hbn h0
      have m43 : ((t[0].toNat : Int) == 43) = false := beq_eq_false_iff_ne.2 (by omega)
      have m45 : ((t[0].toNat : Int) == 45) = false := beq_eq_false_iff_ne.2 (by omega)
      clear hs0 hbn
      generalize hA : (⟨a.toArray⟩ : ByteArray) = A at *
      generalize hB : (⟨b.toArray⟩ : ByteArray) = C at *
      generalize a.length = k at *
      have GA := Lib.hid ga
      have GB := Lib.hid gb
      clear ga gb hb hts hA hB fl la hT lb da db
      go_enter Tryz.func16, Tryz.ntmps16
      go_upto_region 9 with (first
        | (go_at_call 68; (with_reducible refine (IX.out _).mono ?_); rintro e wx ⟨rfl, q⟩; (first | replace B := Lib.hid (B.out.trans (q.mono B.out.size)) | replace B := Lib.hid ((B.out.trans ((Drew.of _ _).below _)).trans (q.mono B.out.size))); clear q)
        | fail "arm")
      go_quiet (fail)
      go_wp2_with (first
        | (go_at_call_of 72 (Value.string A); (with_reducible refine (GA.out _).mono ?_); rintro e wx ⟨rfl, rfl⟩)
        | (go_at_call_of 72 (Value.string C); (with_reducible refine (GB.out _).mono ?_); rintro e wx ⟨rfl, rfl⟩)
        | fail "arm")
      go_ret2
      first | exact ⟨rfl, B.out⟩ | exact ⟨rfl, B.out.trans ((Drew.of _ _).below _)⟩

set_option maxRecDepth 100000 in
set_option maxHeartbeats 8000000 in
theorem pparse_dot_long (s t : ByteArray) (neg : Bool) (hb : Body s t neg) (a b : List UInt8) (hT : t.data.toList = a ++ 46 :: b) (ix : ∀ W, Calls Tryz.prog 68 #[.string t, .string ⟨#[47, 46]⟩] W fun e w' => e = .returned (.int .i64 (a.length : Int)) ∧ Below W.heap.size W w') (da : digB a = true) (db : digB b = true) (hl : 200 < s.size) (hs : s.size ≤ 1000) (w : World) (_ : Env w) :
    Calls Tryz.prog 16 #[.string s] w fun e w' => e = .returned (.tuple #[.string ⟨#[]⟩, .int .i64 16]) ∧ Below w.heap.size w w' := by
  have hts := hb.size
  have hts2 : t.size ≤ 1000 := by omega
  obtain ⟨q1, q2⟩ := ne_empty hb.ne
  have B := Lib.hid (Below.refl w.heap.size w)
  have IX := Lib.hid ix
  clear ix
  obtain ⟨fA, fB, fk, fc, fl⟩ := sep_facts hT
  have la : (⟨a.toArray⟩ : ByteArray).size = a.length := rfl
  have lb : (⟨b.toArray⟩ : ByteArray).size = b.length := rfl
  have hk : a.length < t.size := by omega
  have sA : (⟨a.toArray⟩ : ByteArray).size ≤ 1000 := by omega
  have sC : (⟨b.toArray⟩ : ByteArray).size ≤ 1000 := by omega
  have c47 : ((t[a.length].toNat : Int) == 47) = false := by rw [fc hk]; decide
  have c46 : ((t[a.length].toNat : Int) == 46) = true := by rw [fc hk]; decide
  clear fc
  have ga := fun W => digitsR_any ⟨a.toArray⟩ W (by omega)
  rw [show (⟨a.toArray⟩ : ByteArray).data.toList = a from rfl] at ga
  rw [da] at ga
  have gb := fun W => digitsR_any ⟨b.toArray⟩ W (by omega)
  rw [show (⟨b.toArray⟩ : ByteArray).data.toList = b from rfl, db] at gb
  have dl := decide_eq_true (p := (s.size : Int) > 200) (by omega)
  cases neg with
  | true =>
    have h0 : 0 < s.size := hb.ne
    have hs0 : s[0] = 45 := get0 (hb.minus rfl) h0
    have m43 : ((s[0].toNat : Int) == 43) = false := by rw [hs0]; decide
    have m45 : ((s[0].toNat : Int) == 45) = true := by rw [hs0]; decide
    have hx : s.extract 1 s.size = t := ba_ext (by rw [Lib.extract_to_end, hb.minus rfl]; rfl)
    have hle : 1 ≤ s.size := h0
    clear hs0
    generalize hA : (⟨a.toArray⟩ : ByteArray) = A at *
    generalize hB : (⟨b.toArray⟩ : ByteArray) = C at *
    generalize a.length = k at *
    have GA := Lib.hid ga
    have GB := Lib.hid gb
    clear ga gb hb hts hA hB fl la hT lb da db
    go_enter Tryz.func16, Tryz.ntmps16
    go_upto_region 9 with (first
      | (go_at_call 68; (with_reducible refine (IX.out _).mono ?_); rintro e wx ⟨rfl, q⟩; (first | replace B := Lib.hid (B.out.trans (q.mono B.out.size)) | replace B := Lib.hid ((B.out.trans ((Drew.of _ _).below _)).trans (q.mono B.out.size))); clear q)
      | fail "arm")
    go_quiet (fail)
    go_wp2_with (first
      | (go_at_call_of 72 (Value.string A); (with_reducible refine (GA.out _).mono ?_); rintro e wx ⟨rfl, rfl⟩)
      | (go_at_call_of 72 (Value.string C); (with_reducible refine (GB.out _).mono ?_); rintro e wx ⟨rfl, rfl⟩)
      | fail "arm")
    go_ret2
    first | exact ⟨rfl, B.out⟩ | exact ⟨rfl, B.out.trans ((Drew.of _ _).below _)⟩
  | false =>
    rcases hb.plain rfl with hbp | ⟨hts0, hbn⟩
    · have h0 : 0 < s.size := hb.ne
      have hs0 : s[0] = 43 := get0 hbp h0
      have m43 : ((s[0].toNat : Int) == 43) = true := by rw [hs0]; decide
      have m45 : ((s[0].toNat : Int) == 45) = false := by rw [hs0]; decide
      have hx : s.extract 1 s.size = t := ba_ext (by rw [Lib.extract_to_end, hbp]; rfl)
      have hle : 1 ≤ s.size := h0
      clear hs0 hbp
      generalize hA : (⟨a.toArray⟩ : ByteArray) = A at *
      generalize hB : (⟨b.toArray⟩ : ByteArray) = C at *
      generalize a.length = k at *
      have GA := Lib.hid ga
      have GB := Lib.hid gb
      clear ga gb hb hts hA hB fl la hT lb da db
      go_enter Tryz.func16, Tryz.ntmps16
      go_upto_region 9 with (first
        | (go_at_call 68; (with_reducible refine (IX.out _).mono ?_); rintro e wx ⟨rfl, q⟩; (first | replace B := Lib.hid (B.out.trans (q.mono B.out.size)) | replace B := Lib.hid ((B.out.trans ((Drew.of _ _).below _)).trans (q.mono B.out.size))); clear q)
        | fail "arm")
      go_quiet (fail)
      go_wp2_with (first
        | (go_at_call_of 72 (Value.string A); (with_reducible refine (GA.out _).mono ?_); rintro e wx ⟨rfl, rfl⟩)
        | (go_at_call_of 72 (Value.string C); (with_reducible refine (GB.out _).mono ?_); rintro e wx ⟨rfl, rfl⟩)
        | fail "arm")
      go_ret2
      first | exact ⟨rfl, B.out⟩ | exact ⟨rfl, B.out.trans ((Drew.of _ _).below _)⟩
    · subst hts0
      have h0 : 0 < t.size := hb.ne
      have hs0 := hbn h0
      have m43 : ((t[0].toNat : Int) == 43) = false := beq_eq_false_iff_ne.2 (by omega)
      have m45 : ((t[0].toNat : Int) == 45) = false := beq_eq_false_iff_ne.2 (by omega)
      clear hs0 hbn
      generalize hA : (⟨a.toArray⟩ : ByteArray) = A at *
      generalize hB : (⟨b.toArray⟩ : ByteArray) = C at *
      generalize a.length = k at *
      have GA := Lib.hid ga
      have GB := Lib.hid gb
      clear ga gb hb hts hA hB fl la hT lb da db
      go_enter Tryz.func16, Tryz.ntmps16
      go_upto_region 9 with (first
        | (go_at_call 68; (with_reducible refine (IX.out _).mono ?_); rintro e wx ⟨rfl, q⟩; (first | replace B := Lib.hid (B.out.trans (q.mono B.out.size)) | replace B := Lib.hid ((B.out.trans ((Drew.of _ _).below _)).trans (q.mono B.out.size))); clear q)
        | fail "arm")
      go_quiet (fail)
      go_wp2_with (first
        | (go_at_call_of 72 (Value.string A); (with_reducible refine (GA.out _).mono ?_); rintro e wx ⟨rfl, rfl⟩)
        | (go_at_call_of 72 (Value.string C); (with_reducible refine (GB.out _).mono ?_); rintro e wx ⟨rfl, rfl⟩)
        | fail "arm")
      go_ret2
      first | exact ⟨rfl, B.out⟩ | exact ⟨rfl, B.out.trans ((Drew.of _ _).below _)⟩

set_option maxRecDepth 100000 in
set_option maxHeartbeats 8000000 in
theorem pparse_dot_ok (s t : ByteArray) (neg : Bool) (hb : Body s t neg) (a b : List UInt8) (hT : t.data.toList = a ++ 46 :: b) (ix : ∀ W, Calls Tryz.prog 68 #[.string t, .string ⟨#[47, 46]⟩] W fun e w' => e = .returned (.int .i64 (a.length : Int)) ∧ Below W.heap.size W w') (da : digB a = true) (db : digB b = true) (hl : s.size ≤ 200) (_ : s.size ≤ 1000) (w : World) (he : Env w) :
    Calls Tryz.prog 16 #[.string s] w fun e w' => e = .returned (.tuple #[.string (canonR (mkRat (if neg = true then -((dval (a ++ b) : Nat) : Int) else ((dval (a ++ b) : Nat) : Int)) (10 ^ b.length))), .int .i64 0]) ∧ Below w.heap.size w w' := by
  have hts := hb.size
  have hts2 : t.size ≤ 1000 := by omega
  obtain ⟨q1, q2⟩ := ne_empty hb.ne
  have B := Lib.hid (Below.refl w.heap.size w)
  have IX := Lib.hid ix
  clear ix
  obtain ⟨fA, fB, fk, fc, fl⟩ := sep_facts hT
  have la : (⟨a.toArray⟩ : ByteArray).size = a.length := rfl
  have lb : (⟨b.toArray⟩ : ByteArray).size = b.length := rfl
  have hk : a.length < t.size := by omega
  have sA : (⟨a.toArray⟩ : ByteArray).size ≤ 1000 := by omega
  have sC : (⟨b.toArray⟩ : ByteArray).size ≤ 1000 := by omega
  have c47 : ((t[a.length].toNat : Int) == 47) = false := by rw [fc hk]; decide
  have c46 : ((t[a.length].toNat : Int) == 46) = true := by rw [fc hk]; decide
  clear fc
  have ga := fun W => digitsR_any ⟨a.toArray⟩ W (by omega)
  rw [show (⟨a.toArray⟩ : ByteArray).data.toList = a from rfl] at ga
  rw [da] at ga
  have gb := fun W => digitsR_any ⟨b.toArray⟩ W (by omega)
  rw [show (⟨b.toArray⟩ : ByteArray).data.toList = b from rfl, db] at gb
  have pa := fun W => plainR_any ⟨a.toArray⟩ W da (by omega)
  have eab := show (⟨a.toArray⟩ ++ ⟨b.toArray⟩ : ByteArray).data.toList = a ++ b from ba_append _ _
  have sab := show (⟨a.toArray⟩ ++ ⟨b.toArray⟩ : ByteArray).size ≤ 1000 by rw [Lib.size_eq, eab, List.length_append]; omega
  have pc := fun W => plainR_any (⟨a.toArray⟩ ++ ⟨b.toArray⟩) W (by rw [eab]; exact digB_append da db) (by omega)
  rw [eab] at pc
  have rp := fun W => Tryz.strings_Repeat ⟨#[48]⟩ b.length W (by omega) (by show 1 * b.length ≤ 140737488355328; omega)
  rw [show (⟨#[48]⟩ : ByteArray).data.toList = [48] from rfl] at rp
  have sZ := show (⟨(Lib.repeatL [48] b.length).toArray⟩ : ByteArray).size ≤ 1000 by show (Lib.repeatL [48] b.length).length ≤ 1000; rw [Lib.repeatL_length]; simp; omega
  have et := ten_text b.length
  have ez := ten_ne b.length
  rw [show (⟨a.toArray⟩ : ByteArray).data.toList = a from rfl] at pa
  have dl := decide_eq_false (p := (s.size : Int) > 200) (by omega)
  have sn := canon_dval_size (a ++ b) (digB_append da db)
  rw [List.length_append] at sn
  have sd := ten_size b.length
  cases neg with
  | true =>
    simp only [if_true]
    have sn2 := sgn_size sn
    have lo := fun W (hW : Below w.heap.size w W) => fraction_any false (-((dval (a ++ b) : Nat) : Int)) (10 ^ b.length) W (he.below hW).1 (Nat.pow_pos (by omega)) (by omega) (by omega)
    simp only [Bool.false_eq_true, if_false] at lo
    have ng := fun W => negR_any ((dval (a ++ b) : Nat) : Int) W (by omega)
    have h0 : 0 < s.size := hb.ne
    have hs0 : s[0] = 45 := get0 (hb.minus rfl) h0
    have m43 : ((s[0].toNat : Int) == 43) = false := by rw [hs0]; decide
    have m45 : ((s[0].toNat : Int) == 45) = true := by rw [hs0]; decide
    have hx : s.extract 1 s.size = t := ba_ext (by rw [Lib.extract_to_end, hb.minus rfl]; rfl)
    have hle : 1 ≤ s.size := h0
    clear hs0
    generalize canonR (mkRat (-((dval (a ++ b) : Nat) : Int)) (10 ^ b.length)) = R at *
    generalize canon (-((dval (a ++ b) : Nat) : Int)) = CM at *
    generalize canon ((dval (a ++ b) : Nat) : Int) = CN at *
    generalize canon ((10 ^ b.length : Nat) : Int) = CT at *
    generalize (⟨(Lib.repeatL [48] b.length).toArray⟩ : ByteArray) = Z at *
    generalize hA : (⟨a.toArray⟩ : ByteArray) = A at *
    generalize hB : (⟨b.toArray⟩ : ByteArray) = C at *
    generalize hAB : A ++ C = AC at *
    rw [← lb] at rp
    generalize a.length = k at *
    have GA := Lib.hid ga
    have GB := Lib.hid gb
    have PA := Lib.hid pa
    have PC := Lib.hid pc
    have RP := Lib.hid rp
    have LO := Lib.hid lo
    have NG := Lib.hid ng
    clear ga gb pa pc rp lo ng hb hts he sn2 sn sd eab sab hA hB fl la hT lb da db
    go_enter Tryz.func16, Tryz.ntmps16
    go_upto_region 9 with (first
      | (go_at_call 68; (with_reducible refine (IX.out _).mono ?_); rintro e wx ⟨rfl, q⟩; (first | replace B := Lib.hid (B.out.trans (q.mono B.out.size)) | replace B := Lib.hid ((B.out.trans ((Drew.of _ _).below _)).trans (q.mono B.out.size))); clear q)
      | fail "arm")
    go_quiet (fail)
    go_wp2_with (first
      | (go_at_call_of 72 (Value.string A); (with_reducible refine (GA.out _).mono ?_); rintro e wx ⟨rfl, rfl⟩)
      | (go_at_call_of 72 (Value.string C); (with_reducible refine (GB.out _).mono ?_); rintro e wx ⟨rfl, rfl⟩)
      | (go_at_call_of 73 (Value.string A); (with_reducible refine (PA.out _).mono ?_); rintro e wx ⟨rfl, rfl⟩)
      | (go_at_call_of 73 (Value.string AC); (with_reducible refine (PC.out _).mono ?_); rintro e wx ⟨rfl, rfl⟩)
      | (go_at_call 14; (with_reducible refine (RP.out _).mono ?_); rintro e wx ⟨rfl, q⟩; (first | replace B := Lib.hid (B.out.trans (q.mono B.out.size)) | replace B := Lib.hid ((B.out.trans ((Drew.of _ _).below _)).trans (q.mono B.out.size))); clear q)
      | (go_at_call 74; (with_reducible refine (NG.out _).mono ?_); rintro e wx ⟨rfl, q⟩; (first | replace B := Lib.hid (B.out.trans (q.mono B.out.size)) | replace B := Lib.hid ((B.out.trans ((Drew.of _ _).below _)).trans (q.mono B.out.size))); clear q)
      | (go_at_call 21; (with_reducible refine (LO.out _ ?_).mono ?_); (first | exact B.out | exact B.out.trans ((Drew.of _ _).below _)); rintro e wx ⟨rfl, q⟩; (first | replace B := Lib.hid (B.out.trans (q.mono B.out.size)) | replace B := Lib.hid ((B.out.trans ((Drew.of _ _).below _)).trans (q.mono B.out.size))); clear q)
      | fail "arm")
    go_ret2
    first | exact ⟨rfl, B.out⟩ | exact ⟨rfl, B.out.trans ((Drew.of _ _).below _)⟩
  | false =>
    rcases hb.plain rfl with hbp | ⟨hts0, hbn⟩
    · simp only [Bool.false_eq_true, if_false]
      have lo := fun W (hW : Below w.heap.size w W) => fraction_any false ((dval (a ++ b) : Nat) : Int) (10 ^ b.length) W (he.below hW).1 (Nat.pow_pos (by omega)) (by omega) (by omega)
      simp only [Bool.false_eq_true, if_false] at lo
      have h0 : 0 < s.size := hb.ne
      have hs0 : s[0] = 43 := get0 hbp h0
      have m43 : ((s[0].toNat : Int) == 43) = true := by rw [hs0]; decide
      have m45 : ((s[0].toNat : Int) == 45) = false := by rw [hs0]; decide
      have hx : s.extract 1 s.size = t := ba_ext (by rw [Lib.extract_to_end, hbp]; rfl)
      have hle : 1 ≤ s.size := h0
      clear hs0 hbp
      generalize canonR (mkRat ((dval (a ++ b) : Nat) : Int) (10 ^ b.length)) = R at *
      generalize canon ((dval (a ++ b) : Nat) : Int) = CN at *
      generalize canon ((10 ^ b.length : Nat) : Int) = CT at *
      generalize (⟨(Lib.repeatL [48] b.length).toArray⟩ : ByteArray) = Z at *
      generalize hA : (⟨a.toArray⟩ : ByteArray) = A at *
      generalize hB : (⟨b.toArray⟩ : ByteArray) = C at *
      generalize hAB : A ++ C = AC at *
      rw [← lb] at rp
      generalize a.length = k at *
      have GA := Lib.hid ga
      have GB := Lib.hid gb
      have PA := Lib.hid pa
      have PC := Lib.hid pc
      have RP := Lib.hid rp
      have LO := Lib.hid lo
      clear ga gb pa pc rp lo hb hts he sn sd eab sab hA hB fl la hT lb da db
      go_enter Tryz.func16, Tryz.ntmps16
      go_upto_region 9 with (first
        | (go_at_call 68; (with_reducible refine (IX.out _).mono ?_); rintro e wx ⟨rfl, q⟩; (first | replace B := Lib.hid (B.out.trans (q.mono B.out.size)) | replace B := Lib.hid ((B.out.trans ((Drew.of _ _).below _)).trans (q.mono B.out.size))); clear q)
        | fail "arm")
      go_quiet (fail)
      go_wp2_with (first
        | (go_at_call_of 72 (Value.string A); (with_reducible refine (GA.out _).mono ?_); rintro e wx ⟨rfl, rfl⟩)
        | (go_at_call_of 72 (Value.string C); (with_reducible refine (GB.out _).mono ?_); rintro e wx ⟨rfl, rfl⟩)
        | (go_at_call_of 73 (Value.string A); (with_reducible refine (PA.out _).mono ?_); rintro e wx ⟨rfl, rfl⟩)
        | (go_at_call_of 73 (Value.string AC); (with_reducible refine (PC.out _).mono ?_); rintro e wx ⟨rfl, rfl⟩)
        | (go_at_call 14; (with_reducible refine (RP.out _).mono ?_); rintro e wx ⟨rfl, q⟩; (first | replace B := Lib.hid (B.out.trans (q.mono B.out.size)) | replace B := Lib.hid ((B.out.trans ((Drew.of _ _).below _)).trans (q.mono B.out.size))); clear q)
        | (go_at_call 21; (with_reducible refine (LO.out _ ?_).mono ?_); (first | exact B.out | exact B.out.trans ((Drew.of _ _).below _)); rintro e wx ⟨rfl, q⟩; (first | replace B := Lib.hid (B.out.trans (q.mono B.out.size)) | replace B := Lib.hid ((B.out.trans ((Drew.of _ _).below _)).trans (q.mono B.out.size))); clear q)
        | fail "arm")
      go_ret2
      first | exact ⟨rfl, B.out⟩ | exact ⟨rfl, B.out.trans ((Drew.of _ _).below _)⟩
    · subst hts0
      simp only [Bool.false_eq_true, if_false]
      have lo := fun W (hW : Below w.heap.size w W) => fraction_any false ((dval (a ++ b) : Nat) : Int) (10 ^ b.length) W (he.below hW).1 (Nat.pow_pos (by omega)) (by omega) (by omega)
      simp only [Bool.false_eq_true, if_false] at lo
      have h0 : 0 < t.size := hb.ne
      have hs0 := hbn h0
      have m43 : ((t[0].toNat : Int) == 43) = false := beq_eq_false_iff_ne.2 (by omega)
      have m45 : ((t[0].toNat : Int) == 45) = false := beq_eq_false_iff_ne.2 (by omega)
      clear hs0 hbn
      generalize canonR (mkRat ((dval (a ++ b) : Nat) : Int) (10 ^ b.length)) = R at *
      generalize canon ((dval (a ++ b) : Nat) : Int) = CN at *
      generalize canon ((10 ^ b.length : Nat) : Int) = CT at *
      generalize (⟨(Lib.repeatL [48] b.length).toArray⟩ : ByteArray) = Z at *
      generalize hA : (⟨a.toArray⟩ : ByteArray) = A at *
      generalize hB : (⟨b.toArray⟩ : ByteArray) = C at *
      generalize hAB : A ++ C = AC at *
      rw [← lb] at rp
      generalize a.length = k at *
      have GA := Lib.hid ga
      have GB := Lib.hid gb
      have PA := Lib.hid pa
      have PC := Lib.hid pc
      have RP := Lib.hid rp
      have LO := Lib.hid lo
      clear ga gb pa pc rp lo hb hts he sn sd eab sab hA hB fl la hT lb da db
      go_enter Tryz.func16, Tryz.ntmps16
      go_upto_region 9 with (first
        | (go_at_call 68; (with_reducible refine (IX.out _).mono ?_); rintro e wx ⟨rfl, q⟩; (first | replace B := Lib.hid (B.out.trans (q.mono B.out.size)) | replace B := Lib.hid ((B.out.trans ((Drew.of _ _).below _)).trans (q.mono B.out.size))); clear q)
        | fail "arm")
      go_quiet (fail)
      go_wp2_with (first
        | (go_at_call_of 72 (Value.string A); (with_reducible refine (GA.out _).mono ?_); rintro e wx ⟨rfl, rfl⟩)
        | (go_at_call_of 72 (Value.string C); (with_reducible refine (GB.out _).mono ?_); rintro e wx ⟨rfl, rfl⟩)
        | (go_at_call_of 73 (Value.string A); (with_reducible refine (PA.out _).mono ?_); rintro e wx ⟨rfl, rfl⟩)
        | (go_at_call_of 73 (Value.string AC); (with_reducible refine (PC.out _).mono ?_); rintro e wx ⟨rfl, rfl⟩)
        | (go_at_call 14; (with_reducible refine (RP.out _).mono ?_); rintro e wx ⟨rfl, q⟩; (first | replace B := Lib.hid (B.out.trans (q.mono B.out.size)) | replace B := Lib.hid ((B.out.trans ((Drew.of _ _).below _)).trans (q.mono B.out.size))); clear q)
        | (go_at_call 21; (with_reducible refine (LO.out _ ?_).mono ?_); (first | exact B.out | exact B.out.trans ((Drew.of _ _).below _)); rintro e wx ⟨rfl, q⟩; (first | replace B := Lib.hid (B.out.trans (q.mono B.out.size)) | replace B := Lib.hid ((B.out.trans ((Drew.of _ _).below _)).trans (q.mono B.out.size))); clear q)
        | fail "arm")
      go_ret2
      first | exact ⟨rfl, B.out⟩ | exact ⟨rfl, B.out.trans ((Drew.of _ _).below _)⟩

end Go.Proofs.YtjkbgjjfchhpfaaGreatDoor
