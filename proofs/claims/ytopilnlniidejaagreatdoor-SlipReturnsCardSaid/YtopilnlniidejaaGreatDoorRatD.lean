/- The walks of rational.Compare, Div and Root. -/
import Derived.Test.YtopilnlniidejaaGreatDoorRatC
import Derived.Test.YtopilnlniidejaaGreatDoorGRefB
import Derived.Test.YtopilnlniidejaaGreatDoorGInt
namespace Go.Proofs.YtopilnlniidejaaGreatDoor
set_option linter.all false
open Go.RowKit

theorem inv_parts (b : Rat) (hb : b ≠ 0) : b⁻¹.num = (if b.num < 0 then -(b.den : Int) else (b.den : Int)) ∧ b⁻¹.den = b.num.natAbs := by
 have h0 : b.num ≠ 0 := fun h => hb (Rat.num_eq_zero.1 h)
 by_cases hn : b.num < 0
 ·rw [if_pos hn]
  have e : b⁻¹ = Rat.inv b := rfl
  rw [e]
  unfold Rat.inv
  rw [dif_pos hn]
  exact ⟨rfl, rfl⟩
 ·rw [if_neg hn]
  have e : b⁻¹ = Rat.inv b := rfl
  rw [e]
  unfold Rat.inv
  rw [dif_neg hn, dif_pos (by omega)]
  exact ⟨rfl, rfl⟩

theorem Sz.inv {b : Rat} {N : Nat} (h : Sz b N) (hb : b ≠ 0) : Sz b⁻¹ N := by
 obtain ⟨h1, h2⟩ := inv_parts b hb
 unfold Sz
 rw [h1, h2]
 refine ⟨?_, h.1⟩
 have := h.2
 split
 ·rw [Int.natAbs_neg, Int.natAbs_natCast]; exact this
 ·rw [Int.natAbs_natCast]; exact this

theorem rdiv_zero (a : Rat) (w : World) :
  Calls Tryz.prog 63 #[.string (canonR a), .string (canonR 0)] w fun e w' => e = .returned (.tuple #[.string ⟨#[]⟩, .int .i64 17]) ∧ w = w' := by
 have hz : ((canonR 0).toList == [48]) = true := by rw [canonR_beq0]; rfl
 generalize canonR 0 = T at *
 go_enter Tryz.func63, Tryz.ntmps63
 go_wp2
 go_ret2
 exact ⟨rfl, rfl⟩

set_option maxRecDepth 100000 in
set_option maxHeartbeats 2000000 in
theorem rdiv_any (a b : Rat) (N : Nat) (hN0 : 0 < N) (hN : N ≤ 1000) (ha : Sz a N) (hb : Sz b N) (hb0 : b ≠ 0) (w : World) (he : Env w) :
  Calls Tryz.prog 63 #[.string (canonR a), .string (canonR b)] w fun e w' => e = .returned (.tuple #[.string (canonR (a / b)), .int .i64 0]) ∧ Below w.heap.size w w' := by
 have hz : ((canonR b).toList == [48]) = false := by rw [canonR_beq0]; exact decide_eq_false hb0
 have hsb := hb.text hN0
 have b1 := hb.num hN0
 have b2 := hb.den hN0
 have h0 := canonR_pos b
 have hm := first_minus b h0
 have pb := fun W (hW : Below w.heap.size w W) => rparts_any b.num b.den W (he.below hW).2 (by have : (ratT b.num b.den).size = (canonR b).size := rfl; omega)
 rw [show ratT b.num b.den = canonR b from rfl] at pb
 have mu := fun W (hW : Below w.heap.size w W) => rmul_any a b⁻¹ N hN0 hN ha (hb.inv hb0) W (he.below hW)
 rw [← Rat.div_def] at mu
 obtain ⟨i1, i2⟩ := inv_parts b hb0
 have ei : canonR b⁻¹ = ratT (if b.num < 0 then -(b.den : Int) else (b.den : Int)) b.num.natAbs := by
  unfold canonR
  rw [i1, i2]
 rw [ei] at mu
 have n1 := fun W => neg_any b.num W (by omega)
 have n2 := fun W => neg_any (b.den : Int) W (by omega)
 have hn1 := canon_neg_size (b.den : Int) (N + 1) b2
 have hna : (canon ((b.num.natAbs : Nat) : Int)).size ≤ N + 1 := canon_size_lt _ N (by rw [Int.natAbs_natCast]; exact hb.1) hN0
 generalize canonR (a / b) = R at *
 generalize canonR a = TA at *
 by_cases hn : b.num < 0
 ·rw [if_pos hn] at mu
  have h45 := hm.1 hn
  have jn := fun W => join_any (-(b.den : Int)) b.num.natAbs W (by omega) (by omega)
  rw [show ((b.num.natAbs : Nat) : Int) = -b.num by omega] at jn
  generalize ratT (-(b.den : Int)) b.num.natAbs = J at *
  generalize canonR b = TB at *
  have hc : ((TB[0].toNat : Int) == 45) = true := by rw [h45]; rfl
  generalize -(b.den : Int) = nd at *
  generalize -b.num = nn at *
  have PB := Lib.hid pb
  have MU := Lib.hid mu
  have N1 := Lib.hid n1
  have N2 := Lib.hid n2
  have JN := Lib.hid jn
  clear pb mu n1 n2 jn hm hn h45 i1 i2 ei hna hn1 b1 b2 ha hb hb0 he hN hN0
  go_enter Tryz.func63, Tryz.ntmps63
  go_wp2_with (first
   | (go_at_call 91; (with_reducible refine (PB.out _ (Below.refl _ _)).mono ?_); rintro e w1 ⟨rfl, q⟩; have B1 := Lib.hid (q.below w.heap.size); clear q)
   | (go_at_call_of 92 (Value.string (canon b.num)); (with_reducible refine (N1.out _).mono ?_); rintro e w2 ⟨rfl, q⟩; have B2 := Lib.hid (B1.out.trans (q.mono B1.out.size)); clear q)
   | (go_at_call 92; (with_reducible refine (N2.out _).mono ?_); rintro e w3 ⟨rfl, q⟩; have B3 := Lib.hid (B2.out.trans (q.mono B2.out.size)); clear q)
   | (go_at_call 93; (with_reducible refine (JN.out _).mono ?_); rintro e w4 ⟨rfl, rfl⟩)
   | (go_at_call 82; (with_reducible refine (MU.out _ B3.out).mono ?_); rintro e w5 ⟨rfl, q⟩; have B5 := Lib.hid (B3.out.trans (q.mono B3.out.size)); clear q)
   | fail "arm")
  go_ret2
  exact ⟨rfl, B5.out⟩
 ·rw [if_neg hn] at mu
  have h45 : ¬ (canonR b)[0].toNat = 45 := fun h => hn (hm.2 h)
  have jn := fun W => join_any (b.den : Int) b.num.natAbs W (by omega) (by omega)
  rw [show ((b.num.natAbs : Nat) : Int) = b.num by omega] at jn
  generalize ratT (b.den : Int) b.num.natAbs = J at *
  generalize canonR b = TB at *
  have hc : ((TB[0].toNat : Int) == 45) = false := beq_eq_false_iff_ne.2 (by omega)
  have PB := Lib.hid pb
  have MU := Lib.hid mu
  have JN := Lib.hid jn
  clear pb mu n1 n2 jn hm hn h45 i1 i2 ei hna hn1 b1 b2 ha hb hb0 he hN hN0
  go_enter Tryz.func63, Tryz.ntmps63
  go_wp2_with (first
   | (go_at_call 91; (with_reducible refine (PB.out _ (Below.refl _ _)).mono ?_); rintro e w1 ⟨rfl, q⟩; have B1 := Lib.hid (q.below w.heap.size); clear q)
   | (go_at_call 93; (with_reducible refine (JN.out _).mono ?_); rintro e w4 ⟨rfl, rfl⟩)
   | (go_at_call 82; (with_reducible refine (MU.out _ B1.out).mono ?_); rintro e w5 ⟨rfl, q⟩; have B5 := Lib.hid (B1.out.trans (q.mono B1.out.size)); clear q)
   | fail "arm")
  go_ret2
  exact ⟨rfl, B5.out⟩

end Go.Proofs.YtopilnlniidejaaGreatDoor
