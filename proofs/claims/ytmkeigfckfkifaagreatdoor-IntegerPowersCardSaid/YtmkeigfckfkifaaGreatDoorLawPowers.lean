/- IntegerPowers: for any described integer of at most 12 digits and any exponent: the walk: the call returns true and leaves the description as it was. Conditions: those of the given row alone. -/
import Derived.Test.YtmkeigfckfkifaaGreatDoorGLaw
import Derived.Test.YtmkeigfckfkifaaGreatDoorGRefB
import Derived.Deep.CutRange
namespace Go.Proofs.YtmkeigfckfkifaaGreatDoor
open Go.RowKit

theorem pow_size (z : Int) (j : Nat) (hz : z.natAbs < 10 ^ 12) : (canon (z ^ j)).size ≤ 12 * j + 2 := by
  refine canon_size_lt (z ^ j) (12 * j + 1) ?_ (by omega)
  rw [Int.natAbs_pow]
  have h1 : z.natAbs ^ j ≤ (10 ^ 12) ^ j := Nat.pow_le_pow_left (by omega) j
  rw [← Nat.pow_mul] at h1
  have h2 : (10 : Nat) ^ (12 * j) < 10 ^ (12 * j + 1) := Nat.pow_lt_pow_right (by omega) (by omega)
  omega

set_option maxRecDepth 100000 in
set_option maxHeartbeats 4000000 in
theorem powers_walk (m1 : Bool) (A1 : Option Addr) (p1 : Nat) (d1 : List Int) (n : Int) (w : World) (h1 : Sl w .u8 A1 p1 d1) (r1 : ∀ x ∈ d1, 0 ≤ x ∧ x < 256) (ht : Pow10 w) :
    Calls Tryz.prog 6 #[.agg #[.bool m1, .slice A1 d1.length p1], .int .i64 n] w fun e w' => e = .returned (.bool true) ∧ Below w.heap.size w w' := by
  have hk := fun W (hW : Below w.heap.size w W) => known_any W (ht.below hW)
  have k1 := fun W (hW : Below w.heap.size w W) => make_any m1 A1 p1 d1 12 W (h1.below hW) r1 (by omega) (by omega)
  have HK := Lib.hid hk
  have K1 := Lib.hid k1
  have HT := Lib.hid ht
  have b0 : Below w.heap.size w (w.alloc (.cells #[.bool m1, .slice A1 d1.length p1] 24)) := (Below.refl _ _).alloc (Nat.le_refl _) _
  have x1 := heap_alloc_new w (Obj.cells #[Value.bool m1, Value.slice A1 d1.length p1] 24)
  have z0 : (w.alloc (Obj.cells #[Value.bool m1, Value.slice A1 d1.length p1] 24)).heap.size = w.heap.size + 1 := World.size_alloc ..
  have B0 := Lib.hid b0
  have X1 := Lib.hid x1
  have Z0 := Lib.hid z0
  clear hk k1 ht b0 x1 h1 r1 z0
  go_enter Tryz.func6, Tryz.ntmps6
  go_upto_region 3 with (go_at_call 9; refine (HK.out _ B0.out).mono ?_; rintro e w1 ⟨rfl, b1⟩; have B1 := Lib.hid b1; clear b1)
  have y1 := (B1.out.block w.heap.size (by rw [Z0.out]; omega)).trans X1.out
  have bw1 := B0.out.trans (B1.out.mono B0.out.size)
  have c0 : w1.cell? ⟨w.heap.size, 0, none⟩ = some (.bool m1) := by rw [Lib.cell_of_heap y1]; rfl
  have c1 : w1.cell? ⟨w.heap.size, 1, none⟩ = some (.slice A1 d1.length p1) := by rw [Lib.cell_of_heap y1]; rfl
  have BW1 := Lib.hid bw1
  clear y1 bw1 B0 B1 X1 Z0
  go_upto_region 4 with (go_at_call 10; (with_reducible refine (K1.out _ BW1.out).mono ?_); rintro e w2 ⟨⟨z, hz, rfl⟩, b2⟩; have HZ := Lib.hid hz; have B2 := Lib.hid (BW1.out.trans (b2.mono BW1.out.size)); clear hz b2)
  have s1 := canon_size_lt z 12 HZ.out (by omega)
  clear HK K1 BW1 c0 c1
  by_cases hneg : n < 0
  · have l1 := fun W => power_neg z n W hneg
    have d1 : decide (n < 0) = true := decide_eq_true hneg
    have L1 := Lib.hid l1
    clear l1 HT s1 HZ
    go_wp2_with (go_at_call 21; (with_reducible refine (L1.out _).mono ?_); rintro e w3 ⟨rfl, rfl⟩)
    go_ret
    exact ⟨rfl, B2.out⟩
  obtain ⟨k, rfl⟩ := Int.eq_ofNat_of_zero_le (show 0 ≤ n by omega)
  have dn : decide (((k : Nat) : Int) < 0) = false := decide_eq_false (by omega)
  have ab := fun W => absR_any z W (by omega)
  have hp := canon_pos (z.natAbs : Int)
  have hbig := fun (h : 5000 / ((canon (z.natAbs : Int)).size : Int) < (k : Int)) W => power_big z k W (by omega) h
  have hok := fun (h : k ≤ 5000 / (canon (z.natAbs : Int)).size) (h5 : k ≤ 5000) W (hW : Below w.heap.size w W) => power_ok z k W (HT.out.below hW) (by omega) h5 h
  have hr := fun (h : k ≤ 25) W (hW : Below w.heap.size w W) => powerR_any z k W (HT.out.below hW) (by omega) (by omega) (fun j hj => by have := pow_size z j HZ.out; omega)
  generalize canon (z.natAbs : Int) = S at *
  generalize z ^ k = y at *
  have d2 : ((S.size : Int) == 0) = false := beq_eq_false_iff_ne.2 (by omega)
  have e5 : (5000 : Int) / (S.size : Int) = ((5000 / S.size : Nat) : Int) := by simp
  have AB := Lib.hid ab
  clear ab HT s1 HZ hneg
  by_cases hb : 5000 / (S.size : Int) < (k : Int)
  · have L1 := Lib.hid (hbig hb)
    have d3 : decide (5000 / (S.size : Int) < (k : Int)) = true := decide_eq_true hb
    clear hbig hok hr e5
    go_wp2_with (first
      | (go_at_call 21; (with_reducible refine (L1.out _).mono ?_); rintro e w3 ⟨rfl, q⟩; have B3 := Lib.hid (B2.out.trans (q.mono B2.out.size)); clear q)
      | (go_at_call 22; (with_reducible refine (AB.out _).mono ?_); rintro e w4 ⟨rfl, q⟩; have B4 := Lib.hid (B3.out.trans (q.mono B3.out.size)); clear q))
    go_ret
    exact ⟨rfl, B4.out⟩
  · have hk5 : k ≤ 5000 / S.size := by
      rw [e5] at hb
      omega
    have L1 := Lib.hid (hok hk5 (Nat.le_trans hk5 (Nat.div_le_self _ _)))
    have d3 : decide (5000 / (S.size : Int) < (k : Int)) = false := decide_eq_false hb
    have hk6 : k ≤ 5000 := Nat.le_trans hk5 (Nat.div_le_self _ _)
    clear hbig hok hk5 e5
    by_cases h25 : 25 < k
    · have d4 : decide ((25 : Int) < (k : Int)) = true := decide_eq_true (by omega)
      clear hr
      go_wp2_with (first
        | (go_at_call 21; (with_reducible refine (L1.out _ B2.out).mono ?_); rintro e w3 ⟨rfl, q⟩; have B3 := Lib.hid (B2.out.trans (q.mono B2.out.size)); clear q)
        | (go_at_call 22; (with_reducible refine (AB.out _).mono ?_); rintro e w4 ⟨rfl, q⟩; have B4 := Lib.hid (B3.out.trans (q.mono B3.out.size)); clear q))
      go_ret
      exact ⟨rfl, B4.out⟩
    · have d4 : decide ((25 : Int) < (k : Int)) = false := decide_eq_false (by omega)
      have d5 : decide (25 < k) = false := decide_eq_false h25
      have L2 := Lib.hid (hr (by omega))
      clear hr
      go_wp2_with (first
        | (go_at_call 21; (with_reducible refine (L1.out _ B2.out).mono ?_); rintro e w3 ⟨rfl, q⟩; have B3 := Lib.hid (B2.out.trans (q.mono B2.out.size)); clear q)
        | (go_at_call 22; (with_reducible refine (AB.out _).mono ?_); rintro e w4 ⟨rfl, q⟩; have B4 := Lib.hid (B3.out.trans (q.mono B3.out.size)); clear q)
        | (go_at_call 23; (with_reducible refine (L2.out _ B4.out).mono ?_); rintro e w5 ⟨rfl, q⟩; have B5 := Lib.hid (B4.out.trans (q.mono B4.out.size)); clear q))
      go_ret
      exact ⟨by simp, B5.out⟩

end Go.Proofs.YtmkeigfckfkifaaGreatDoor
