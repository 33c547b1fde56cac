/- RationalParses: for any text and any number of zeros: the walk: the call returns true. Conditions: those of the given row alone. -/
import Derived.Test.YtjkbgjjfchhpfaaGreatDoorRfM
import Derived.Test.YtjkbgjjfchhpfaaGreatDoorRfF
import Derived.Test.YtjkbgjjfchhpfaaGreatDoorRatG
namespace Go.Proofs.YtjkbgjjfchhpfaaGreatDoor
open Go.RowKit

set_option maxRecDepth 100000 in
set_option maxHeartbeats 4000000 in
theorem parses_walk (S : ByteArray) (z : Int) (z0 : 0 ≤ z) (z1 : z ≤ 255) (hS : S.size ≤ 9223372036854775807) (w : World) (he : Env w) :
    Calls Tryz.prog 3 #[.string S, .int .u8 z] w fun e w' => e = .returned (.bool true) ∧ Below w.heap.size w w' := by
  have kn := fun W (hW : Below w.heap.size w W) => rknown_any W (he.below hW)
  have KN := Lib.hid kn
  have B := Lib.hid (Below.refl w.heap.size w)
  clear kn
  by_cases h80 : 80 < S.size
  · have t1 : decide ((S.size : Int) > 80) = true := decide_eq_true (by omega)
    clear he
    go_enter Tryz.func3, Tryz.ntmps3
    go_wp2_with (first
      | (go_at_call 13; (with_reducible refine (KN.out _ B.out).mono ?_); rintro e wx ⟨rfl, q⟩; replace B := Lib.hid (B.out.trans (q.mono B.out.size)); clear q)
      | fail "arm")
    go_ret
    exact ⟨rfl, B.out⟩
  · have t1 : decide ((S.size : Int) > 80) = false := decide_eq_false (by omega)
    obtain ⟨c, hc⟩ : ∃ c : Nat, z % 201 = (c : Int) := ⟨(z % 201).toNat, by omega⟩
    have hc1 : c ≤ 200 := by omega
    have rp : ∀ W, Calls Tryz.prog 14 #[.string ⟨#[48]⟩, .int .i64 (z % 201)] W fun e w' => e = .returned (.string ⟨(Lib.repeatL [48] c).toArray⟩) ∧ Below W.heap.size W w' := fun W => by
      rw [hc]
      have h := Tryz.strings_Repeat ⟨#[48]⟩ c W (by omega) (by show 1 * c ≤ 140737488355328; omega)
      exact h
    have hz : (⟨(Lib.repeatL [48] c).toArray⟩ : ByteArray).size ≤ 200 := by rw [Lib.size_eq, repeat48]; simp; exact hc1
    generalize (⟨(Lib.repeatL [48] c).toArray⟩ : ByteArray) = Z at *
    obtain ⟨R, E, hq⟩ := pq_total (S ++ Z)
    have hT : (S ++ Z).size ≤ 1000 := by rw [ByteArray.size_append]; omega
    have p1 := fun W (hW : Below w.heap.size w W) => rparse_any (S ++ Z) R E hq hT W (he.below hW)
    have p2 := fun W (hW : Below w.heap.size w W) => pparse_any (S ++ Z) R E hq hT W (he.below hW)
    have rr := fun W (hW : Below w.heap.size w W) => rightR_any S W (he.below hW).1 (by omega)
    have RP := Lib.hid rp
    have P1 := Lib.hid p1
    have P2 := Lib.hid p2
    have er : (R.toList == R.toList) = true := by simp
    have ee : (E == E) = true := by simp
    cases hr : rightQ S with
    | false =>
      rw [hr] at rr
      have RR := Lib.hid rr
      clear he hq hT rp p1 p2 rr hr hc
      go_enter Tryz.func3, Tryz.ntmps3
      go_upto_region 4 with (first
        | (go_at_call 13; (with_reducible refine (KN.out _ B.out).mono ?_); rintro e wx ⟨rfl, q⟩; replace B := Lib.hid (B.out.trans (q.mono B.out.size)); clear q)
        | (go_at_call 14; (with_reducible refine (RP.out _).mono ?_); rintro e wx ⟨rfl, q⟩; replace B := Lib.hid (B.out.trans (q.mono B.out.size)); clear q)
        | fail "arm")
      generalize S ++ Z = T at *
      go_wp2_with (first
        | (go_at_call 15; (with_reducible refine (P1.out _ B.out).mono ?_); rintro e wx ⟨rfl, q⟩; replace B := Lib.hid (B.out.trans (q.mono B.out.size)); clear q)
        | (go_at_call 16; (with_reducible refine (P2.out _ B.out).mono ?_); rintro e wx ⟨rfl, q⟩; replace B := Lib.hid (B.out.trans (q.mono B.out.size)); clear q)
        | (go_at_call 17; (with_reducible refine (RR.out _ B.out).mono ?_); rintro e wx ⟨rfl, q⟩; replace B := Lib.hid (B.out.trans (q.mono B.out.size)); clear q)
        | fail "arm")
      go_ret
      exact ⟨rfl, B.out⟩
    | true =>
      rw [hr] at rr
      obtain ⟨q, hSq, _, _⟩ := rightQ_of hr
      have hq2 := pq_right q (by rw [← hSq]; omega)
      rw [← hSq] at hq2
      have p3 := fun W (hW : Below w.heap.size w W) => rparse_any S S 0 hq2 (by omega) W (he.below hW)
      have es : (S.toList == S.toList) = true := by simp
      have RR := Lib.hid rr
      have P3 := Lib.hid p3
      clear he hq hT rp p1 p2 p3 rr hr hc hSq hq2
      go_enter Tryz.func3, Tryz.ntmps3
      go_upto_region 4 with (first
        | (go_at_call 13; (with_reducible refine (KN.out _ B.out).mono ?_); rintro e wx ⟨rfl, q⟩; replace B := Lib.hid (B.out.trans (q.mono B.out.size)); clear q)
        | (go_at_call 14; (with_reducible refine (RP.out _).mono ?_); rintro e wx ⟨rfl, q⟩; replace B := Lib.hid (B.out.trans (q.mono B.out.size)); clear q)
        | fail "arm")
      generalize S ++ Z = T at *
      go_wp2_with (first
        | (go_at_call 15; (with_reducible refine (P1.out _ B.out).mono ?_); rintro e wx ⟨rfl, q⟩; replace B := Lib.hid (B.out.trans (q.mono B.out.size)); clear q)
        | (go_at_call 16; (with_reducible refine (P2.out _ B.out).mono ?_); rintro e wx ⟨rfl, q⟩; replace B := Lib.hid (B.out.trans (q.mono B.out.size)); clear q)
        | (go_at_call 17; (with_reducible refine (RR.out _ B.out).mono ?_); rintro e wx ⟨rfl, q⟩; replace B := Lib.hid (B.out.trans (q.mono B.out.size)); clear q)
        | (go_at_call 15; (with_reducible refine (P3.out _ B.out).mono ?_); rintro e wx ⟨rfl, q⟩; replace B := Lib.hid (B.out.trans (q.mono B.out.size)); clear q)
        | fail "arm")
      go_ret
      exact ⟨rfl, B.out⟩

end Go.Proofs.YtjkbgjjfchhpfaaGreatDoor
