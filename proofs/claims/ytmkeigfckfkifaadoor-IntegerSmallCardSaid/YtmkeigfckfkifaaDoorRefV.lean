/- The walk of klipperef01.Small at an integer of at most 1000 digits. -/
import Derived.Test.YtmkeigfckfkifaaDoorRefU
import Derived.Test.YtmkeigfckfkifaaDoorSmallP
namespace Go.Proofs.YtmkeigfckfkifaaDoor
open Go.RowKit

theorem dval_take_le {l : List UInt8} (k : Nat) : dval (l.take k) ≤ dval l := by
  have h := dval_append (l.take k) (l.drop k)
  rw [List.take_append_drop] at h
  rw [h]
  have h1 : dval (l.take k) * 1 ≤ dval (l.take k) * 10 ^ (l.drop k).length := Nat.mul_le_mul_left _ (Nat.one_le_pow _ _ (by omega))
  omega

theorem small_far (z : Int) (h : 9223372036854775808 < z.natAbs) : smallV z = 0 ∧ smallB z = false :=
  ⟨if_neg (by omega), decide_eq_false (by omega)⟩

set_option maxRecDepth 100000 in
set_option maxHeartbeats 4000000 in
theorem smallR_any (z : Int) (w : World) (hz : (mag z).size ≤ 1000) :
    Calls Tryd.prog 16 #[.string (canon z)] w fun e w' => e = .returned (.tuple #[.int .i64 (smallV z), .bool (smallB z)]) ∧ Below w.heap.size w w' := by
  have hsp := splitR_canon z w (by
    have h1 : (canon z).size ≤ (mag z).size + 1 := by
      show (Lib.itoa z).length ≤ (mdig z).length + 1
      rcases itoa_cases z with ⟨_, h⟩ | ⟨_, h⟩ <;> rw [h] <;> simp
    omega)
  have hall : AllDig (mag z).data.toList := mdig_all z
  have hval : dval (mag z).data.toList = z.natAbs := mdig_val z
  have hlong : 19 < (mag z).size → 9223372036854775808 < z.natAbs := fun h => by
    rcases Nat.lt_or_ge 9223372036854775808 z.natAbs with h1 | h1
    · exact h1
    · have h2 : (mdig z).length ≤ 19 := decDigits_len_le 19 z.natAbs (Nat.lt_of_le_of_lt h1 (by decide)) (by omega)
      have h3 : (mag z).size = (mdig z).length := rfl
      omega
  obtain ⟨S, hS⟩ : ∃ S, mag z = S := ⟨_, rfl⟩
  rw [hS] at hsp hall hval hz hlong
  have hl : S.data.toList.length = S.size := (Lib.size_eq S).symm
  have HL := Lib.hid hl
  have HD := Lib.hid hall
  have HV := Lib.hid hval
  have HSP := Lib.hid hsp
  have HLONG := Lib.hid hlong
  clear hl hall hval hsp hS hlong
  obtain ⟨sz, hsz⟩ : ∃ b, decide (z < 0) = b := ⟨_, rfl⟩
  have HSZ := Lib.hid hsz
  have HSP2 := HSP.out
  rw [hsz] at HSP2
  have HSP3 := Lib.hid HSP2
  clear HSP HSP2 hsz
  by_cases hlen : 19 < S.size
  · obtain ⟨e1, e2⟩ := small_far z (HLONG.out hlen)
    rw [e1, e2]
    have hli : (19 : Int) < (S.size : Int) := by omega
    clear e1 e2 HLONG HSZ HV
    go_enter Tryd.func16, Tryd.ntmps16
    go_wp2_with (go_at_call 39; refine HSP3.out.mono ?_; rintro e w1 ⟨rfl, nd, rfl⟩)
    go_ret2
    exact ⟨rfl, (Drew.of _ _).below _⟩
  have hl1 : decide ((19 : Int) < (S.size : Int)) = false := decide_eq_false (by omega)
  have hl2 : decide (19 < S.size) = false := decide_eq_false hlen
  have hlen' : S.size ≤ 19 := by omega
  clear HLONG hlen
  obtain ⟨vz, hvz⟩ : ∃ v, smallV z = v := ⟨_, rfl⟩
  obtain ⟨bz, hbz⟩ : ∃ v, smallB z = v := ⟨_, rfl⟩
  have HVZ := Lib.hid hvz
  have HBZ := Lib.hid hbz
  rw [hvz, hbz]
  clear hvz hbz
  go_enter Tryd.func16, Tryd.ntmps16
  go_wp2_with (go_at_call 39; refine HSP3.out.mono ?_; rintro e w1 ⟨rfl, nd, rfl⟩)
  go_loop [6, 7] (fun nv iv => ∃ (k u : Nat), k ≤ S.size ∧ iv = .int .i64 k ∧ nv = .int .i64 (-(u : Int)) ∧ Hid (u ≤ 9223372036854775808) ∧ Hid (u = dval (S.data.toList.take k))) (fun _ iv => S.size - (intOf iv).toNat)
  case atStart => exact ⟨0, 0, Nat.zero_le _, rfl, rfl, Lib.hid (by omega), rfl⟩
  case round =>
    obtain ⟨k, u, hk, rfl, rfl, HB, HU⟩ := hrel
    by_cases hlt : k < S.size
    · have hd1 := HD.out S.data.toList[k] (List.getElem_mem (by rw [HL.out]; exact hlt))
      have hd2 : 48 ≤ S[k].toNat ∧ S[k].toNat ≤ 57 := hd1
      have HN : Hid (10 * u + (S[k].toNat - 48) = dval (S.data.toList.take (k + 1))) := by
        have h1 := piece_snoc (D := S.data.toList) 0 k (Nat.zero_le _) (by rw [HL.out]; exact hlt)
        rw [Nat.sub_zero, Nat.sub_zero, List.drop_zero] at h1
        have h3 : S.data.toList[k]'(by rw [HL.out]; exact hlt) = S[k] := rfl
        rw [h3, ← HU.out] at h1
        exact h1.symm
      obtain ⟨d, hd⟩ : ∃ d : Nat, S[k].toNat = 48 + d := ⟨S[k].toNat - 48, by omega⟩
      have hd9 : d ≤ 9 := by omega
      rw [hd, Nat.add_sub_cancel_left] at HN
      clear hd1 hd2
      have hc : d = 0 ∨ d = 1 ∨ d = 2 ∨ d = 3 ∨ d = 4 ∨ d = 5 ∨ d = 6 ∨ d = 7 ∨ d = 8 ∨ d = 9 := by omega
      have hle : dval (S.data.toList.take (k + 1)) ≤ z.natAbs := by rw [← HV.out]; exact dval_take_le (k + 1)
      by_cases hbig : 9223372036854775808 < 10 * u + d
      · obtain ⟨e1, e2⟩ := small_far z (Nat.lt_of_lt_of_le hbig (by rw [HN.out]; exact hle))
        obtain rfl : vz = 0 := by rw [← HVZ.out, e1]
        obtain rfl : bz = false := by rw [← HBZ.out, e2]
        have t2 : decide ((922337203685477579 : Int) < (u : Int)) = true := decide_eq_true (by omega)
        have t1 : d ≤ 8 → decide ((922337203685477580 : Int) < (u : Int)) = true := fun _ => decide_eq_true (by omega)
        clear e1 e2 hbig hle HB
        rcases hc with rfl | rfl | rfl | rfl | rfl | rfl | rfl | rfl | rfl | rfl
        all_goals
          first | (have t3 := t1 (by omega); clear t1) | clear t1
          go_wp2
          go_ret2
          exact ⟨rfl, (Drew.of _ _).below _⟩
      have t2 : d = 9 → decide ((922337203685477579 : Int) < (u : Int)) = false := fun _ => decide_eq_false (by omega)
      have t1 : decide ((922337203685477580 : Int) < (u : Int)) = false := decide_eq_false (by omega)
      have HB2 : Hid (10 * u + d ≤ 9223372036854775808) := Lib.hid (by omega)
      clear hbig hle
      rcases hc with rfl | rfl | rfl | rfl | rfl | rfl | rfl | rfl | rfl | rfl
      all_goals
        first | (have t3 := t2 rfl; clear t2) | clear t2
        go_wp2
        go_round
        case rel => exact ⟨k + 1, _, by omega, by go_num, int_i64 (by first | omega | (have h := HB2.out; unfold wrap64; omega)), HB2, HN.out⟩
        case measure => simp [intOf]; omega
    · obtain rfl : k = S.size := by omega
      have hu2 : u = z.natAbs := by
        have := HU.out
        rw [← HL.out, List.take_length, HV.out] at this
        exact this
      have HS2 := HSZ.out
      have HU2 := Lib.hid hu2
      clear hu2 HU
      cases hsz : sz with
      | true =>
        rw [hsz] at HS2
        have hzn : z = -(u : Int) := by have := of_decide_eq_true HS2; have := HU2.out; omega
        obtain rfl : vz = -(u : Int) := by rw [← HVZ.out]; unfold smallV; rw [if_pos (by have := HB.out; omega), hzn]
        obtain rfl : bz = true := by rw [← HBZ.out]; exact decide_eq_true (by have := HB.out; omega)
        subst hsz
        clear HS2 HB hzn
        go_wp2
        go_ret2
        exact ⟨rfl, (Drew.of _ _).below _⟩
      | false =>
        rw [hsz] at HS2
        have hzn : z = (u : Int) := by have := of_decide_eq_false HS2; have := HU2.out; omega
        subst hsz
        by_cases hm : u = 9223372036854775808
        · obtain rfl : vz = 0 := by rw [← HVZ.out]; exact if_neg (by omega)
          obtain rfl : bz = false := by rw [← HBZ.out]; exact decide_eq_false (by omega)
          subst hm
          clear HS2 HB hzn
          go_wp2
          go_ret2
          exact ⟨rfl, (Drew.of _ _).below _⟩
        · obtain rfl : vz = (u : Int) := by rw [← HVZ.out]; unfold smallV; rw [if_pos (by have := HB.out; omega), hzn]
          obtain rfl : bz = true := by rw [← HBZ.out]; exact decide_eq_true (by have := HB.out; omega)
          have t1 : ((-(u : Int)) == -9223372036854775808) = false := beq_eq_false_iff_ne.2 (by omega)
          have HM := Lib.hid (show u < 9223372036854775808 by have := HB.out; omega)
          clear HS2 HB hzn hm
          go_wp2
          go_ret2
          refine ⟨?_, (Drew.of _ _).below _⟩
          have h := HM.out
          simp
          unfold wrap64
          omega

end Go.Proofs.YtmkeigfckfkifaaDoor
