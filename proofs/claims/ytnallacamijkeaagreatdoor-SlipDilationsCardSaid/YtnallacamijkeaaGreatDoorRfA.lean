/- The walk of klipperef02.brief: a number of at most nine bytes as two ints. -/
import Derived.Test.YtnallacamijkeaaGreatDoorRatQ
import Derived.WalkSmall
namespace Go.Proofs.YtnallacamijkeaaGreatDoor
set_option linter.all false
open Go.RowKit

set_option maxRecDepth 100000 in
set_option maxHeartbeats 8000000 in
theorem bref_of (T : ByteArray) (s0 k : Nat) (L1 L2 : List UInt8) (X Y : Int) (w : World) (hq : QText T s0 k L1 L2) (hT : T.size ≤ 9) (h0 : 0 < T.size)
  (hX0 : s0 = 0 → X = ((dval L1 : Nat) : Int)) (hX1 : s0 = 1 → X = -((dval L1 : Nat) : Int)) (hY0 : k < T.size → Y = ((dval L2 : Nat) : Int)) (hY1 : ¬ k < T.size → Y = 1) :
  Calls Tryz.prog 30 #[.string T] w fun e w' => e = .returned (.tuple #[.int .i64 X, .int .i64 Y, .bool true]) ∧ w = w' := by
 obtain ⟨hs, hk, hkT, hd1, hd2, g1, gs, gm0⟩ := hq
 have gm := gm0 h0
 have D1 := Lib.hid hd1
 have D2 := Lib.hid hd2
 have G1 := Lib.hid g1
 have GS := Lib.hid gs
 have GM := Lib.hid gm
 have X0 := Lib.hid hX0
 have X1 := Lib.hid hX1
 have Y0 := Lib.hid hY0
 have Y1 := Lib.hid hY1
 have t9 : decide ((T.size : Int) > 9) = false := decide_eq_false (by omega)
 clear hd1 hd2 g1 gs gm gm0 hX0 hX1 hY0 hY1
 have hc : s0 = 0 ∨ s0 = 1 := by omega
 rcases hc with rfl | rfl
 ·have hm : ((T[0].toNat : Int) == 45) = false := beq_eq_false_iff_ne.2 (fun e => by have := GM.out.2 (by omega); omega)
  clear GM
  go_enter Tryz.func30, Tryz.ntmps30
  go_wp2
  go_loop [2, 5] (fun nv iv => ∃ (j u : Nat), j ≤ L1.length ∧ iv = .int .i64 j ∧ nv = .int .i64 u ∧ u < 1000000000 ∧ Hid (u = dval (L1.take j))) (fun _ iv => k + 1 - (intOf iv).toNat)
  case atStart => exact ⟨0, 0, Nat.zero_le _, rfl, rfl, by omega, rfl⟩
  case round =>
   obtain ⟨j, u, hj, rfl, rfl, hu, HU⟩ := hrel
   by_cases hlt : j < L1.length
   ·have hjT : j < T.size := by omega
    have hdj := D1.out L1[j] (List.getElem_mem hlt)
    have hg := G1.out j hlt (by omega)
    simp only [Nat.zero_add] at hg
    rw [← hg] at hdj
    have HG := Lib.hid hg
    have b1 := hdj.1
    have b2 := hdj.2
    clear hg hdj
    have hne : ((T[j].toNat : Int) != 47) = true := by rw [bne_iff_ne]; omega
    have HN : Hid (10 * u + (T[j].toNat - 48) = dval (L1.take (j + 1)) ∧ 10 * u + (T[j].toNat - 48) < 1000000000) := by
     have h1 := dval_snoc_take L1 j hlt
     have h2 := HU.out
     have h3 : L1[j].toNat = T[j].toNat := by rw [HG.out]
     rw [h3, ← h2] at h1
     refine ⟨h1.symm, ?_⟩
     have h4 := dval_lt (D1.out.take (j + 1))
     have h5 : (10 : Nat) ^ (L1.take (j + 1)).length ≤ 10 ^ 9 := Nat.pow_le_pow_right (by omega) (by rw [List.length_take]; omega)
     rw [h1] at h4
     omega
    go_wp2
    go_round
    case rel =>
     exact ⟨j + 1, 10 * u + (T[j].toNat - 48), by omega, by go_num, i64_q (by omega), HN.out.2, HN.out.1⟩
    case measure => simp [intOf]; omega
   ·obtain rfl : j = k := by omega
    have hu1 : u = dval L1 := by rw [HU.out, List.take_of_length_le (by omega)]
    have HU1 := Lib.hid hu1
    clear hu1 HU hlt
    have HX := Lib.hid (show (u : Int) = X by rw [X0.out (by trivial), ← HU1.out])
    clear HU1 X0 X1
    by_cases hend : j < T.size
    ·obtain ⟨h47, hsz, g2⟩ := GS.out hend
     have G2 := Lib.hid g2
     clear g2
     have hne : ((T[j].toNat : Int) != 47) = false := by rw [h47]; rfl
     go_wp2
     go_loop [3, 5] (fun ev iv => ∃ (i v : Nat), i ≤ L2.length ∧ ev = .int .i64 v ∧ iv = .int .i64 ((j + 1 + i : Nat) : Int) ∧ v < 1000000000 ∧ Hid (v = dval (L2.take i))) (fun _ iv => T.size + 1 - (intOf iv).toNat)
     case atStart => exact ⟨0, 0, Nat.zero_le _, rfl, by go_num, by omega, rfl⟩
     case round =>
      obtain ⟨i, v, hi, rfl, rfl, hv, HV⟩ := hrel
      by_cases hlt : i < L2.length
      ·have hjT : j + 1 + i < T.size := by omega
       have hdj := D2.out L2[i] (List.getElem_mem hlt)
       have hg := G2.out i hlt hjT
       rw [← hg] at hdj
       have HG := Lib.hid hg
       have b1 := hdj.1
       have b2 := hdj.2
       clear hg hdj
       have HN : Hid (10 * v + (T[j + 1 + i].toNat - 48) = dval (L2.take (i + 1)) ∧ 10 * v + (T[j + 1 + i].toNat - 48) < 1000000000) := by
        have h1 := dval_snoc_take L2 i hlt
        have h2 := HV.out
        have h3 : L2[i].toNat = T[j + 1 + i].toNat := by rw [HG.out]
        rw [h3, ← h2] at h1
        refine ⟨h1.symm, ?_⟩
        have h4 := dval_lt (D2.out.take (i + 1))
        have h5 : (10 : Nat) ^ (L2.take (i + 1)).length ≤ 10 ^ 9 := Nat.pow_le_pow_right (by omega) (by rw [List.length_take]; omega)
        rw [h1] at h4
        omega
       go_wp2
       go_round
       case rel =>
        exact ⟨i + 1, 10 * v + (T[j + 1 + i].toNat - 48), by omega, i64_q (by omega), by go_num, HN.out.2, HN.out.1⟩
       case measure => simp [intOf]; omega
      ·obtain rfl : i = L2.length := by omega
       have HY := Lib.hid (show (v : Int) = Y by rw [Y0.out hend, HV.out, List.take_length])
       clear HV Y0 Y1
       have hdn : decide (((j + 1 + L2.length : Nat) : Int) < (T.size : Int)) = false := decide_eq_false (by omega)
       go_wp2
       go_ret3
       exact ⟨ret_q (by rw [← HX.out]) (by rw [← HY.out]), rfl⟩
    ·have HY := Lib.hid (show (1 : Int) = Y from (Y1.out hend).symm)
     clear Y0 Y1
     go_wp2
     go_ret3
     exact ⟨ret_q (by rw [← HX.out]) (by rw [← HY.out]), rfl⟩
 ·have hm : ((T[0].toNat : Int) == 45) = true := by rw [GM.out.1 rfl]; rfl
  clear GM
  go_enter Tryz.func30, Tryz.ntmps30
  go_wp2
  go_loop [2, 5] (fun nv iv => ∃ (j u : Nat), j ≤ L1.length ∧ iv = .int .i64 ((j : Int) + 1) ∧ nv = .int .i64 u ∧ u < 1000000000 ∧ Hid (u = dval (L1.take j))) (fun _ iv => k + 2 - (intOf iv).toNat)
  case atStart => exact ⟨0, 0, Nat.zero_le _, rfl, rfl, by omega, rfl⟩
  case round =>
   obtain ⟨j, u, hj, rfl, rfl, hu, HU⟩ := hrel
   by_cases hlt : j < L1.length
   ·have hjT : j + 1 < T.size := by omega
    have hdj := D1.out L1[j] (List.getElem_mem hlt)
    have hg : T[j + 1] = L1[j] := by
     have h3 := G1.out j hlt (by omega)
     simpa [Nat.add_comm] using h3
    rw [← hg] at hdj
    have HG := Lib.hid hg
    have b1 := hdj.1
    have b2 := hdj.2
    clear hg hdj
    have hne : ((T[j + 1].toNat : Int) != 47) = true := by rw [bne_iff_ne]; omega
    have HN : Hid (10 * u + (T[j + 1].toNat - 48) = dval (L1.take (j + 1)) ∧ 10 * u + (T[j + 1].toNat - 48) < 1000000000) := by
     have h1 := dval_snoc_take L1 j hlt
     have h2 := HU.out
     have h3 : L1[j].toNat = T[j + 1].toNat := by rw [HG.out]
     rw [h3, ← h2] at h1
     refine ⟨h1.symm, ?_⟩
     have h4 := dval_lt (D1.out.take (j + 1))
     have h5 : (10 : Nat) ^ (L1.take (j + 1)).length ≤ 10 ^ 9 := Nat.pow_le_pow_right (by omega) (by rw [List.length_take]; omega)
     rw [h1] at h4
     omega
    go_wp2
    go_round
    case rel =>
     exact ⟨j + 1, 10 * u + (T[j + 1].toNat - 48), by omega, by go_num, i64_q (by omega), HN.out.2, HN.out.1⟩
    case measure => simp [intOf]; omega
   ·have hkj : k = j + 1 := by omega
    subst hkj
    have hjl : j = L1.length := by omega
    have hu1 : u = dval L1 := by rw [HU.out, hjl, List.take_length]
    have HU1 := Lib.hid hu1
    clear hu1 HU hlt hjl
    have HX := Lib.hid (show -(u : Int) = X by rw [X1.out (by trivial), ← HU1.out])
    clear HU1 X0 X1
    by_cases hend : j + 1 < T.size
    ·obtain ⟨h47, hsz, g2⟩ := GS.out hend
     have G2 := Lib.hid g2
     clear g2
     have hne : ((T[j + 1].toNat : Int) != 47) = false := by rw [h47]; rfl
     go_wp2
     go_loop [3, 5] (fun ev iv => ∃ (i v : Nat), i ≤ L2.length ∧ ev = .int .i64 v ∧ iv = .int .i64 ((j + 1 + 1 + i : Nat) : Int) ∧ v < 1000000000 ∧ Hid (v = dval (L2.take i))) (fun _ iv => T.size + 1 - (intOf iv).toNat)
     case atStart => exact ⟨0, 0, Nat.zero_le _, rfl, by go_num, by omega, rfl⟩
     case round =>
      obtain ⟨i, v, hi, rfl, rfl, hv, HV⟩ := hrel
      by_cases hlt : i < L2.length
      ·have hjT : j + 1 + 1 + i < T.size := by omega
       have hdj := D2.out L2[i] (List.getElem_mem hlt)
       have hg := G2.out i hlt hjT
       rw [← hg] at hdj
       have HG := Lib.hid hg
       have b1 := hdj.1
       have b2 := hdj.2
       clear hg hdj
       have HN : Hid (10 * v + (T[j + 1 + 1 + i].toNat - 48) = dval (L2.take (i + 1)) ∧ 10 * v + (T[j + 1 + 1 + i].toNat - 48) < 1000000000) := by
        have h1 := dval_snoc_take L2 i hlt
        have h2 := HV.out
        have h3 : L2[i].toNat = T[j + 1 + 1 + i].toNat := by rw [HG.out]
        rw [h3, ← h2] at h1
        refine ⟨h1.symm, ?_⟩
        have h4 := dval_lt (D2.out.take (i + 1))
        have h5 : (10 : Nat) ^ (L2.take (i + 1)).length ≤ 10 ^ 9 := Nat.pow_le_pow_right (by omega) (by rw [List.length_take]; omega)
        rw [h1] at h4
        omega
       go_wp2
       go_round
       case rel =>
        exact ⟨i + 1, 10 * v + (T[j + 1 + 1 + i].toNat - 48), by omega, i64_q (by omega), by go_num, HN.out.2, HN.out.1⟩
       case measure => simp [intOf]; omega
      ·obtain rfl : i = L2.length := by omega
       have HY := Lib.hid (show (v : Int) = Y by rw [Y0.out hend, HV.out, List.take_length])
       clear HV Y0 Y1
       have hdn : decide (((j + 1 + 1 + L2.length : Nat) : Int) < (T.size : Int)) = false := decide_eq_false (by omega)
       go_wp2
       go_ret3
       exact ⟨ret_q (by rw [← HX.out]) (by rw [← HY.out]), rfl⟩
    ·have HY := Lib.hid (show (1 : Int) = Y from (Y1.out hend).symm)
     clear Y0 Y1
     go_wp2
     go_ret3
     exact ⟨ret_q (by rw [← HX.out]) (by rw [← HY.out]), rfl⟩

theorem bref_long (T : ByteArray) (w : World) (hT : 9 < T.size) :
  Calls Tryz.prog 30 #[.string T] w fun e w' => e = .returned (.tuple #[.int .i64 0, .int .i64 0, .bool false]) ∧ w = w' := by
 have t9 : decide ((T.size : Int) > 9) = true := decide_eq_true (by omega)
 go_enter Tryz.func30, Tryz.ntmps30
 go_wp2
 go_ret3
 exact ⟨rfl, rfl⟩

theorem ratT_end (n : Int) (d : Nat) : (Lib.itoa n).length < (ratT n d).size ↔ d ≠ 1 := by
 have hsz : (ratT n d).size = (ratL n d).length := rfl
 rw [hsz]
 unfold ratL
 by_cases hd : d = 1
 ·rw [if_pos hd]; simp [hd]
 ·rw [if_neg hd]; simp [hd]

def brf (q : Rat) : Bool := decide ((canonR q).size ≤ 9)

theorem bref_any (q : Rat) (w : World) :
  Calls Tryz.prog 30 #[.string (canonR q)] w fun e w' => e = .returned (.tuple #[.int .i64 (if brf q = true then q.num else 0), .int .i64 (if brf q = true then (q.den : Int) else 0), .bool (brf q)]) ∧ w = w' := by
 by_cases h : (canonR q).size ≤ 9
 ·have hb : brf q = true := decide_eq_true h
  rw [hb]
  simp only [if_true]
  refine bref_of (canonR q) _ _ _ _ q.num q.den w (qtext_of q.num q.den) h (canonR_pos q) (fun e => ?_) (fun e => ?_) (fun e => ?_) (fun e => ?_)
  ·rw [mdig_val]
   split at e <;> omega
  ·rw [mdig_val]
   split at e <;> omega
  ·rw [decDigits_val]
  ·have : q.den = 1 := Classical.byContradiction fun h2 => e ((ratT_end q.num q.den).2 h2)
   rw [this]; rfl
 ·have hb : brf q = false := decide_eq_false h
  rw [hb]
  simp only [Bool.false_eq_true, if_false]
  exact bref_long _ w (by omega)

theorem brf_lt (q : Rat) (h : brf q = true) : q.num.natAbs < 1000000000 ∧ q.den < 1000000000 := by
 have h1 : (canonR q).size ≤ 9 := of_decide_eq_true h
 have hsz : (canonR q).size = (ratL q.num q.den).length := rfl
 have h2 : (mdig q.num).length ≤ (Lib.itoa q.num).length := by
  rcases itoa_cases q.num with ⟨_, e⟩ | ⟨_, e⟩
  ·rw [e]; exact Nat.le_refl _
  ·rw [e, List.length_cons]; omega
 have h3 : short q = true := by
  refine decide_eq_true ⟨?_, fun hd => ?_⟩
  ·have : (Lib.itoa q.num).length ≤ (ratL q.num q.den).length := by
    unfold ratL
    split
    ·exact Nat.le_refl _
    ·rw [List.length_append]; omega
   omega
  ·have : (ratL q.num q.den).length = (Lib.itoa q.num).length + (1 + (Lib.decDigits q.den).length) := by
    unfold ratL
    rw [if_neg hd, List.length_append, List.length_cons]; omega
   omega
 exact short_lt q h3

end Go.Proofs.YtnallacamijkeaaGreatDoor
