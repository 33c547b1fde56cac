/- RationalDecimals: for any text and any number of places: the walk: the call returns true. Conditions: those of the given row alone. -/
import Derived.Test.YtjkbgjjfchhpfaaGreatDoorRfR
import Derived.Test.YtjkbgjjfchhpfaaGreatDoorRfF
import Derived.Test.YtjkbgjjfchhpfaaGreatDoorRatG
namespace Go.Proofs.YtjkbgjjfchhpfaaGreatDoor
open Go.RowKit

theorem rdiv2_ten (p : Nat) : rdiv2 ((10 ^ p : Nat) : Int) 1 = ((10 ^ p : Nat) : Rat) := by
  unfold rdiv2
  rw [if_neg (by omega)]
  exact mkRat_nat _

set_option maxRecDepth 100000 in
set_option maxHeartbeats 4000000 in
theorem decimals_walk (T : ByteArray) (p : Int) (p0 : -9223372036854775808 ≤ p) (p1 : p ≤ 9223372036854775807) (w : World) (he : Env w) :
    Calls Tryz.prog 4 #[.string T, .int .i64 p] w fun e w' => e = .returned (.bool true) ∧ Below w.heap.size w w' := by
  have kn := fun W (hW : Below w.heap.size w W) => rknown_any W (he.below hW)
  have ft := fun W (hW : Below w.heap.size w W) => rfits1 T W (he.below hW).1
  have KN := Lib.hid kn
  have B := Lib.hid (Below.refl w.heap.size w)
  clear kn
  cases hf : fitsB [T] with
  | false =>
    rw [hf] at ft
    have FT := Lib.hid ft
    clear ft hf he
    go_enter Tryz.func4, Tryz.ntmps4
    go_wp2_with (first
      | (go_at_call 13; (with_reducible refine (KN.out _ B.out).mono ?_); rintro e wx ⟨rfl, q⟩; replace B := Lib.hid (B.out.trans (q.mono B.out.size)); clear q)
      | (go_at_call 18; (with_reducible refine (FT.out _ B.out).mono ?_); rintro e wx ⟨rfl, q⟩; replace B := Lib.hid (B.out.trans (q.mono B.out.size)); clear q)
      | fail "arm")
    go_ret
    exact ⟨rfl, B.out⟩
  | true =>
    rw [hf] at ft
    have FT := Lib.hid ft
    clear ft
    obtain ⟨a, rfl, sa, za⟩ := fit_q (fits_q1 hf)
    clear hf
    by_cases hp : 0 ≤ p ∧ p ≤ 12
    · obtain ⟨n, rfl⟩ : ∃ n : Nat, p = (n : Int) := ⟨p.toNat, by omega⟩
      have hn : n ≤ 12 := by omega
      have hg := ten_lt n 80 (by omega)
      have hg13 := ten_lt n 13 (by omega)
      obtain ⟨s2, s3⟩ := round_sz sa hg (by omega)
      have hrs : (mdig (roundN a (10 ^ n))).length + n ≤ 197 := by
        have h1 := round_small a (10 ^ n)
        have h2 : a.num.natAbs * 10 ^ n < 10 ^ 92 := by
          have h3 : a.num.natAbs * 10 ^ n < 10 ^ 80 * 10 ^ 12 := Nat.mul_lt_mul_of_lt_of_le sa.1 (Nat.pow_le_pow_right (by omega) hn) (Nat.pow_pos (by omega))
          rw [← Nat.pow_add] at h3
          exact h3
        have h4 : (10 : Nat) ^ 92 < 10 ^ 93 := Nat.pow_lt_pow_right (by omega) (by omega)
        have h5 := mdig_len_le (roundN a (10 ^ n)) 93 (by omega) (by omega)
        omega
      have d1 := fun W (hW : Below w.heap.size w W) => rdecimal_any a n hn sa W (he.below hW)
      have d2 := fun W (hW : Below w.heap.size w W) => pdecimal_any a n hn sa W (he.below hW)
      have hsz : (⟨(decL (roundN a (10 ^ n)) n).toArray⟩ : ByteArray).size ≤ 1000 := by
        have := decL_len (roundN a (10 ^ n)) n
        rw [Lib.size_eq]
        show (decL (roundN a (10 ^ n)) n).length ≤ 1000
        omega
      have ps := fun W (hW : Below w.heap.size w W) => rparse_any _ _ _ (pq_dec (roundN a (10 ^ n)) n hrs) hsz W (he.below hW)
      have hub : -9223372036854775808 ≤ ((10 ^ n : Nat) : Int) ∧ ((10 ^ n : Nat) : Int) ≤ 9223372036854775807 := by
        have h13 := hg13
        generalize 10 ^ n = u at h13 ⊢
        omega
      have o1 := fun W (hW : Below w.heap.size w W) => refof_int ((10 ^ n : Nat) : Int) 1 (by omega) hub.1 hub.2 (by omega) (by omega) W (he.below hW).1
      rw [rdiv2_ten] at o1
      have m1 := fun W (hW : Below w.heap.size w W) => rmulR_any a ((10 ^ n : Nat) : Rat) 80 (by omega) (by omega) sa (grid_sz _ 80 hg (by omega)) W (he.below hW)
      have nr := fun W (hW : Below w.heap.size w W) => rnearestR_any (a * ((10 ^ n : Nat) : Rat)) 160 (by omega) (by omega) s2 W (he.below hW)
      rw [show (a * ((10 ^ n : Nat) : Rat) + half).num / ((a * ((10 ^ n : Nat) : Rat) + half).den : Int) = roundN a (10 ^ n) from rfl] at nr
      have o2 := fun W (hW : Below w.heap.size w W) => ofR_any ((10 ^ n : Nat) : Int) hub.1 hub.2 W (he.below hW).1
      have f1 := fun W (hW : Below w.heap.size w W) => fraction_any false (roundN a (10 ^ n)) (10 ^ n) W (he.below hW).1 (Nat.pow_pos (by omega)) (by omega) (by have := canon_size_lt ((10 ^ n : Nat) : Int) 13 (by rw [Int.natAbs_natCast]; exact hg13) (by omega); omega)
      simp only [Bool.false_eq_true, if_false] at f1
      have hu : ∀ k, k < n → 10 ^ k < 1000000000000 := fun k hk => ten_lt k 12 (by omega)
      generalize canonR (mkRat (roundN a (10 ^ n)) (10 ^ n)) = Y at *
      generalize (⟨(decL (roundN a (10 ^ n)) n).toArray⟩ : ByteArray) = D at *
      generalize canon (roundN a (10 ^ n)) = CZ at *
      generalize canonR (a * ((10 ^ n : Nat) : Rat)) = M at *
      generalize canonR ((10 ^ n : Nat) : Rat) = U at *
      generalize canon ((10 ^ n : Nat) : Int) = CU at *
      generalize canonR a = TA at *
      generalize hun : 10 ^ n = un at *
      have D1 := Lib.hid d1
      have D2 := Lib.hid d2
      have PS := Lib.hid ps
      have O1 := Lib.hid o1
      have O2 := Lib.hid o2
      have M1 := Lib.hid m1
      have NR := Lib.hid nr
      have F1 := Lib.hid f1
      have HU := Lib.hid hu
      have UN := Lib.hid hun
      have t1 : decide ((n : Int) > 12) = false := decide_eq_false (by omega)
      have t2 : decide ((n : Int) < 0) = false := decide_eq_false (by omega)
      have eD : (D.toList == D.toList) = true := by simp
      have eY : (Y.toList == Y.toList) = true := by simp
      clear he hub d1 d2 ps o1 o2 m1 nr f1 hu hun sa za s2 s3 hg hg13 hrs hsz hp p0 p1
      go_enter Tryz.func4, Tryz.ntmps4
      go_wp2_with (first
        | (go_at_call 13; (with_reducible refine (KN.out _ B.out).mono ?_); rintro e wx ⟨rfl, q⟩; replace B := Lib.hid (B.out.trans (q.mono B.out.size)); clear q)
        | (go_at_call 18; (with_reducible refine (FT.out _ B.out).mono ?_); rintro e wx ⟨rfl, q⟩; replace B := Lib.hid (B.out.trans (q.mono B.out.size)); clear q)
        | (go_at_call 19; (with_reducible refine (D1.out _ B.out).mono ?_); rintro e wx ⟨rfl, q⟩; replace B := Lib.hid (B.out.trans (q.mono B.out.size)); clear q)
        | (go_at_call 15; (with_reducible refine (PS.out _ B.out).mono ?_); rintro e wx ⟨rfl, q⟩; replace B := Lib.hid (B.out.trans (q.mono B.out.size)); clear q)
        | fail "arm")
      go_loop [9, 10] (fun uv iv => ∃ (k u : Nat), k ≤ n ∧ iv = .int .i64 k ∧ uv = .int .i64 u ∧ Hid (u = 10 ^ k)) (fun _ iv => n - (intOf iv).toNat)
      case atStart => exact ⟨0, 1, Nat.zero_le _, rfl, rfl, Lib.hid rfl⟩
      case round =>
        obtain ⟨k, u, hk, rfl, rfl, HK⟩ := hrel
        by_cases hlt : k < n
        · have hu1 : u < 1000000000000 := by rw [HK.out]; exact HU.out k hlt
          go_wp2
          go_round
          case rel => exact ⟨k + 1, u * 10, by omega, by go_num, by go_num, Lib.hid (by rw [HK.out, Nat.pow_succ])⟩
          case measure => simp [intOf]; omega
        · obtain rfl : k = n := by omega
          obtain rfl : u = un := by rw [HK.out, UN.out]
          clear HK
          go_wp2_with (first
            | (go_at_call 20; (with_reducible refine (D2.out _ B.out).mono ?_); rintro e wx ⟨rfl, q⟩; replace B := Lib.hid (B.out.trans (q.mono B.out.size)); clear q)
            | (go_at_call 24; (with_reducible refine (O1.out _ B.out).mono ?_); rintro e wx ⟨rfl, q⟩; replace B := Lib.hid (B.out.trans (q.mono B.out.size)); clear q)
            | (go_at_call 23; (with_reducible refine (M1.out _ B.out).mono ?_); rintro e wx ⟨rfl, q⟩; replace B := Lib.hid (B.out.trans (q.mono B.out.size)); clear q)
            | (go_at_call 22; (with_reducible refine (NR.out _ B.out).mono ?_); rintro e wx ⟨rfl, q⟩; replace B := Lib.hid (B.out.trans (q.mono B.out.size)); clear q)
            | (go_at_call 25; (with_reducible refine (O2.out _ B.out).mono ?_); rintro e wx ⟨rfl, q⟩; replace B := Lib.hid (B.out.trans (q.mono B.out.size)); clear q)
            | (go_at_call 21; (with_reducible refine (F1.out _ B.out).mono ?_); rintro e wx ⟨rfl, q⟩; replace B := Lib.hid (B.out.trans (q.mono B.out.size)); clear q)
            | fail "arm")
          go_ret
          exact ⟨rfl, B.out⟩
    · have d1 := fun W => rdecimal_off (canonR a) p (by omega) W
      have hc : decide (p < 0) = true ∨ decide (p < 0) = false ∧ decide (p > 12) = true := by
        by_cases h0 : p < 0
        · exact .inl (decide_eq_true h0)
        · exact .inr ⟨decide_eq_false h0, decide_eq_true (by omega)⟩
      have e0 : ((⟨#[]⟩ : ByteArray).toList == []) = true := by rw [ByteArray.toList_eq]; rfl
      generalize canonR a = TA at *
      have D1 := Lib.hid d1
      clear he d1 sa za hp
      rcases hc with h | ⟨h1, h2⟩
      · go_enter Tryz.func4, Tryz.ntmps4
        go_wp2_with (first
          | (go_at_call 13; (with_reducible refine (KN.out _ B.out).mono ?_); rintro e wx ⟨rfl, q⟩; replace B := Lib.hid (B.out.trans (q.mono B.out.size)); clear q)
          | (go_at_call 18; (with_reducible refine (FT.out _ B.out).mono ?_); rintro e wx ⟨rfl, q⟩; replace B := Lib.hid (B.out.trans (q.mono B.out.size)); clear q)
          | (go_at_call 19; (with_reducible refine (D1.out _).mono ?_); rintro e wx ⟨rfl, rfl⟩)
          | fail "arm")
        go_ret
        exact ⟨rfl, B.out⟩
      · go_enter Tryz.func4, Tryz.ntmps4
        go_wp2_with (first
          | (go_at_call 13; (with_reducible refine (KN.out _ B.out).mono ?_); rintro e wx ⟨rfl, q⟩; replace B := Lib.hid (B.out.trans (q.mono B.out.size)); clear q)
          | (go_at_call 18; (with_reducible refine (FT.out _ B.out).mono ?_); rintro e wx ⟨rfl, q⟩; replace B := Lib.hid (B.out.trans (q.mono B.out.size)); clear q)
          | (go_at_call 19; (with_reducible refine (D1.out _).mono ?_); rintro e wx ⟨rfl, rfl⟩)
          | fail "arm")
        go_ret
        exact ⟨rfl, B.out⟩

end Go.Proofs.YtjkbgjjfchhpfaaGreatDoor
