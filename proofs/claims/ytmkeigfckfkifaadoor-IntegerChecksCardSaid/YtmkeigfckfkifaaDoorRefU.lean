/- The walk of klipperef01.Small at an integer of at most 18 digits. -/
import Derived.Test.YtmkeigfckfkifaaDoorRefG
namespace Go.Proofs.YtmkeigfckfkifaaDoor
open Go.RowKit

set_option maxRecDepth 100000 in
set_option maxHeartbeats 4000000 in
theorem smallR_small (z : Int) (w : World) (hz : (mag z).size ≤ 18) :
    Calls Tryd.prog 16 #[.string (canon z)] w fun e w' => e = .returned (.tuple #[.int .i64 z, .bool true]) ∧ Below w.heap.size w w' := by
  have hsp := splitR_canon z w (by
    have h1 : (canon z).size ≤ (mag z).size + 1 := by
      show (Lib.itoa z).length ≤ (mdig z).length + 1
      rcases itoa_cases z with ⟨_, h⟩ | ⟨_, h⟩ <;> rw [h] <;> simp
    omega)
  have hall : AllDig (mag z).data.toList := mdig_all z
  have hval : dval (mag z).data.toList = z.natAbs := mdig_val z
  have hzs : z.natAbs < 1000000000000000000 := by
    have h1 := dval_lt hall
    rw [hval, ← Lib.size_eq] at h1
    have h2 : (10 : Nat) ^ (mag z).size ≤ 10 ^ 18 := Nat.pow_le_pow_right (by omega) hz
    omega
  obtain ⟨S, hS⟩ : ∃ S, mag z = S := ⟨_, rfl⟩
  rw [hS] at hsp hall hval hz
  have hl : S.data.toList.length = S.size := (Lib.size_eq S).symm
  have HL := Lib.hid hl
  have HD := Lib.hid hall
  have HV := Lib.hid hval
  have HSP := Lib.hid hsp
  have HZS := Lib.hid hzs
  clear hl hall hval hsp hS hzs
  obtain ⟨sz, hsz⟩ : ∃ b, decide (z < 0) = b := ⟨_, rfl⟩
  have HSZ := Lib.hid hsz
  have HSP2 := HSP.out
  rw [hsz] at HSP2
  have HSP3 := Lib.hid HSP2
  clear HSP HSP2 hsz
  go_enter Tryd.func16, Tryd.ntmps16
  go_wp2_with (go_at_call 39; refine HSP3.out.mono ?_; rintro e w1 ⟨rfl, nd, rfl⟩)
  go_loop [6, 7] (fun nv iv => ∃ (k u : Nat), k ≤ S.size ∧ iv = .int .i64 k ∧ nv = .int .i64 (-(u : Int)) ∧ u < 1000000000000000000 ∧ Hid (u = dval (S.data.toList.take k))) (fun _ iv => S.size - (intOf iv).toNat)
  case atStart => exact ⟨0, 0, Nat.zero_le _, rfl, rfl, by omega, rfl⟩
  case round =>
    obtain ⟨k, u, hk, rfl, rfl, hu, HU⟩ := hrel
    by_cases hlt : k < S.size
    · have hd1 := HD.out S.data.toList[k] (List.getElem_mem (by rw [HL.out]; exact hlt))
      have hd2 : 48 ≤ S[k].toNat ∧ S[k].toNat ≤ 57 := hd1
      have hu17 : u < 100000000000000000 := by
        have h1 := dval_lt (HD.out.take k)
        have h2 : (10 : Nat) ^ (S.data.toList.take k).length ≤ 10 ^ 17 := Nat.pow_le_pow_right (by omega) (by rw [List.length_take]; omega)
        rw [← HU.out] at h1
        omega
      have HN : Hid (10 * u + (S[k].toNat - 48) = dval (S.data.toList.take (k + 1))) := by
        have h1 := piece_snoc (D := S.data.toList) 0 k (Nat.zero_le _) (by rw [HL.out]; exact hlt)
        rw [Nat.sub_zero, Nat.sub_zero, List.drop_zero] at h1
        have h3 : S.data.toList[k]'(by rw [HL.out]; exact hlt) = S[k] := rfl
        rw [h3, ← HU.out] at h1
        exact h1.symm
      obtain ⟨d, hd⟩ : ∃ d : Nat, S[k].toNat = 48 + d := ⟨S[k].toNat - 48, by omega⟩
      have hd9 : d ≤ 9 := by omega
      rw [hd, Nat.add_sub_cancel_left] at HN
      clear hd1 hd2
      have hc : d = 0 ∨ d = 1 ∨ d = 2 ∨ d = 3 ∨ d = 4 ∨ d = 5 ∨ d = 6 ∨ d = 7 ∨ d = 8 ∨ d = 9 := by omega
      clear hd9
      rcases hc with rfl | rfl | rfl | rfl | rfl | rfl | rfl | rfl | rfl | rfl
      all_goals
        go_wp2
        go_round
        case rel => exact ⟨k + 1, _, by omega, by go_num, int_i64 (by omega), by omega, HN.out⟩
        case measure => simp [intOf]; omega
    · obtain rfl : k = S.size := by omega
      have hu2 : u = z.natAbs := by
        have := HU.out
        rw [← HL.out, List.take_length, HV.out] at this
        exact this
      have HS2 := HSZ.out
      have HU2 := Lib.hid hu2
      clear hu2 HU
      cases hsz : sz with
      | true =>
        rw [hsz] at HS2
        have hzn : Hid (z = -(u : Int)) := by have := of_decide_eq_true HS2; have := HU2.out; show z = _; omega
        subst hsz
        clear HS2
        go_wp2
        go_ret2
        rw [hzn.out]
        exact ⟨rfl, (Drew.of _ _).below _⟩
      | false =>
        rw [hsz] at HS2
        have hzn : Hid (z = (u : Int)) := by have := of_decide_eq_false HS2; have := HU2.out; show z = _; omega
        have t1 : ((-(u : Int)) == -9223372036854775808) = false := beq_eq_false_iff_ne.2 (by omega)
        subst hsz
        clear HS2
        go_wp2
        go_ret2
        rw [hzn.out]
        exact ⟨by simp, (Drew.of _ _).below _⟩

end Go.Proofs.YtmkeigfckfkifaaDoor
