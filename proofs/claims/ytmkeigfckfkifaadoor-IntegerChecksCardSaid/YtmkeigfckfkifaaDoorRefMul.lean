/- The walk of klipperef01.Mul: the product of two integers. -/
import Derived.Test.YtmkeigfckfkifaaDoorRefU
import Derived.Test.YtmkeigfckfkifaaDoorRefT
import Derived.Test.YtmkeigfckfkifaaDoorRefH
import Derived.Test.YtmkeigfckfkifaaDoorGcd
namespace Go.Proofs.YtmkeigfckfkifaaDoor
open Go.RowKit

theorem ofR_any (n : Int) (h0 : -9223372036854775808 ≤ n) (h1 : n ≤ 9223372036854775807) (w : World) (ht : Pow10 w) :
    Calls Tryd.prog 20 #[.int .i64 n] w fun e w' => e = .returned (.string (canon n)) ∧ Below w.heap.size w w' := by
  have hi := itoa_any n h0 h1 w ht
  have HI := Lib.hid hi
  clear hi h0 h1
  go_enter Tryd.func20, Tryd.ntmps20
  go_wp2_with (go_at_call 45; refine HI.out.mono ?_; rintro e w' ⟨rfl, h1⟩; have H1 := Lib.hid h1; clear h1)
  go_ret
  exact ⟨rfl, H1.out⟩

theorem takeR_mag (z : Int) (w : World) (hs : (mag z).size ≤ 100000) :
    Calls Tryd.prog 42 #[.string (mag z)] w fun e w' => ∃ A c, e = .returned (.slice A (lim4 z.natAbs).length c) ∧ Sl w' .i64 A c (lim4 z.natAbs) ∧ Below w.heap.size w w' := by
  have h := take_any (mag z) w (mdig_all z) hs
  rw [show dval (mag z).data.toList = z.natAbs from mdig_val z] at h
  exact h

theorem lim4_len_digits (z : Int) (n : Nat) (h : (canon z).size ≤ n) : (lim4 z.natAbs).length ≤ n := by
  have h1 := itoa_len_small (z := z) (k := n) h
  refine lim_len_le 10000 (by omega) _ _ ?_
  exact Nat.lt_of_lt_of_le h1 (Nat.pow_le_pow_left (by omega) n)

theorem lim4_mul_len (x y M : Nat) (hx : (lim4 x).length ≤ M) (hy : (lim4 y).length ≤ M) : (lim4 (x * y)).length ≤ M + M := by
  have h1 : x < 10000 ^ (lim4 x).length := lim_lt_pow 10000 (by omega) x
  have h2 : y < 10000 ^ (lim4 y).length := lim_lt_pow 10000 (by omega) y
  have h3 : (10000 : Nat) ^ (lim4 x).length ≤ 10000 ^ M := Nat.pow_le_pow_right (by omega) hx
  have h4 : (10000 : Nat) ^ (lim4 y).length ≤ 10000 ^ M := Nat.pow_le_pow_right (by omega) hy
  refine lim_len_le 10000 (by omega) _ _ ?_
  rw [Nat.pow_add]
  exact Nat.mul_lt_mul'' (by omega) (by omega)

theorem chain2 {w W w3 w4 : World} (h0 : Below w.heap.size w W) (h1 : Below W.heap.size W w3) (h2 : Below w3.heap.size w3 w4) : Below w.heap.size w w4 :=
  (h0.trans (h1.mono h0.size)).trans (h2.mono (h0.trans (h1.mono h0.size)).size)
theorem chain3 {w W w3 w4 w5 : World} (h0 : Below w.heap.size w W) (h1 : Below W.heap.size W w3) (h2 : Below w3.heap.size w3 w4) (h3 : Below w4.heap.size w4 w5) : Below w.heap.size w w5 :=
  (chain2 h0 h1 h2).trans (h3.mono (chain2 h0 h1 h2).size)
theorem drew2 (w : World) (n m : Nat) : Below w.heap.size w ((w.drewN n).drewN m) := ((Drew.of _ _).below _).trans ((Drew.of _ _).below _)

set_option maxRecDepth 100000 in
set_option maxHeartbeats 2000000 in
theorem mulR_any (a b : Int) (w : World) (ht : Pow10 w) (ha : (canon a).size ≤ 10000) (hb : (canon b).size ≤ 10000) :
    Calls Tryd.prog 14 #[.string (canon a), .string (canon b)] w fun e w' => e = .returned (.string (canon (a * b))) ∧ Below w.heap.size w w' := by
  have p1 := fun W => splitR_canon a W (by omega)
  have p2 := fun W => splitR_canon b W (by omega)
  have hma := mag_le a 10000 ha
  have hmb := mag_le b 10000 hb
  have P1 := Lib.hid p1
  have P2 := Lib.hid p2
  clear p1 p2
  rcases Nat.lt_or_ge 18 ((mag a).size + (mag b).size) with hq | hq
  · have d1 : decide (((mag a).size : Int) + ((mag b).size : Int) ≤ 18) = false := by simp; omega
    have t1 := fun W => takeR_mag a W (by omega)
    have t2 := fun W => takeR_mag b W (by omega)
    have hla := lim4_len_digits a 10000 ha
    have hlb := lim4_len_digits b 10000 hb
    have hms := mul_sign a b
    have hlm := lim4_mul_len a.natAbs b.natAbs 10000 hla hlb
    have P1' := P1.out
    have P2' := P2.out
    generalize decide (a < 0) = sa at *
    generalize decide (b < 0) = sb at *
    generalize a.natAbs = x at *
    generalize b.natAbs = y at *
    have tm := fun A1 c1 A2 c2 W h1 h2 => timesR_any A1 A2 c1 c2 x y W h1 h2 (by omega) (by omega)
    have md := fun A c W (h1 : Sl W .i64 A c (lim4 (x * y))) (h2 : Below w.heap.size w W) => made_any (sa != sb) A c (x * y) W h1 (by omega) (ht.below h2)
    rw [hms] at md
    have P1 := Lib.hid P1'
    have P2 := Lib.hid P2'
    have T1 := Lib.hid t1
    have T2 := Lib.hid t2
    have TM := Lib.hid tm
    have MD := Lib.hid md
    clear P1' P2' t1 t2 tm md hms ht ha hb hq
    go_enter Tryd.func14, Tryd.ntmps14
    go_wp2_with (first
      | (go_at_call_of 39 (Value.string (canon a)); refine (P1.out _).mono ?_; rintro e w1 ⟨rfl, nd1, rfl⟩)
      | (go_at_call_of 39 (Value.string (canon b)); refine (P2.out _).mono ?_; rintro e w2 ⟨rfl, nd2, rfl⟩)
      | (go_at_call_of 42 (Value.string (mag a)); refine (T1.out _).mono ?_; rintro e w3 ⟨A1, c1, rfl, s1, b1⟩; have S1 := Lib.hid s1; have B1 := Lib.hid b1; clear s1 b1)
      | (go_at_call_of 42 (Value.string (mag b)); refine (T2.out _).mono ?_; rintro e w4 ⟨A2, c2, rfl, s2, b2⟩; have S2 := Lib.hid s2; have S1' := Lib.hid (S1.out.below b2); have B2 := Lib.hid b2; clear s2 b2)
      | (go_at_call 41; refine (TM.out _ _ _ _ _ S1'.out S2.out).mono ?_; rintro e w5 ⟨A5, c5, rfl, s5, b5⟩; have S5 := Lib.hid s5; have B5 := Lib.hid b5; clear s5 b5)
      | (go_at_call 40; refine (MD.out _ _ _ S5.out (chain3 (by first | exact (Drew.of _ _).below _ | exact drew2 _ _ _) B1.out B2.out B5.out)).mono ?_; rintro e w6 ⟨rfl, b6⟩; have B6 := Lib.hid b6; clear b6)
      | fail "arm")
    go_ret
    exact ⟨rfl, (chain3 (by first | exact (Drew.of _ _).below _ | exact drew2 _ _ _) B1.out B2.out B5.out).trans (B6.out.mono (chain3 (by first | exact (Drew.of _ _).below _ | exact drew2 _ _ _) B1.out B2.out B5.out).size)⟩
  · have d1 : ((mag a).size : Int) + ((mag b).size : Int) ≤ 18 := by omega
    have s1 := fun W => smallR_small a W (by omega)
    have s2 := fun W => smallR_small b W (by omega)
    have hmm : (a * b).natAbs < 1000000000000000000 := by
      have h1 : a.natAbs < 10 ^ (mag a).size := by
        have := dval_lt (mdig_all a)
        rw [mdig_val] at this
        exact this
      have h2 : b.natAbs < 10 ^ (mag b).size := by
        have := dval_lt (mdig_all b)
        rw [mdig_val] at this
        exact this
      have h3 := Nat.mul_lt_mul'' h1 h2
      rw [← Nat.pow_add] at h3
      have h4 : (10 : Nat) ^ ((mag a).size + (mag b).size) ≤ 10 ^ 18 := Nat.pow_le_pow_right (by omega) (by omega)
      rw [Int.natAbs_mul]
      omega
    have hm1 : -1000000000000000000 ≤ a * b := by omega
    have hm2 : a * b ≤ 1000000000000000000 := by omega
    have ho := fun W (hW : Below w.heap.size w W) => ofR_any (a * b) (by omega) (by omega) W (ht.below hW)
    have S1 := Lib.hid s1
    have S2 := Lib.hid s2
    have HO := Lib.hid ho
    clear s1 s2 ho hmm ht ha hb hma hmb
    go_enter Tryd.func14, Tryd.ntmps14
    go_wp2_with (first
      | (go_at_call_of 39 (Value.string (canon a)); refine (P1.out _).mono ?_; rintro e w1 ⟨rfl, nd1, rfl⟩)
      | (go_at_call_of 39 (Value.string (canon b)); refine (P2.out _).mono ?_; rintro e w2 ⟨rfl, nd2, rfl⟩)
      | (go_at_call_of 16 (Value.string (canon a)); refine (S1.out _).mono ?_; rintro e w3 ⟨rfl, b1⟩; have B1 := Lib.hid b1; clear b1)
      | (go_at_call_of 16 (Value.string (canon b)); refine (S2.out _).mono ?_; rintro e w4 ⟨rfl, b2⟩; have B2 := Lib.hid b2; clear b2)
      | (go_at_call 20; refine (HO.out _ (chain2 (by first | exact (Drew.of _ _).below _ | exact drew2 _ _ _) B1.out B2.out)).mono ?_; rintro e w5 ⟨rfl, b5⟩; have B5 := Lib.hid b5; clear b5)
      | fail "arm")
    go_ret
    exact ⟨rfl, (chain2 (by first | exact (Drew.of _ _).below _ | exact drew2 _ _ _) B1.out B2.out).trans (B5.out.mono (chain2 (by first | exact (Drew.of _ _).below _ | exact drew2 _ _ _) B1.out B2.out).size)⟩

end Go.Proofs.YtmkeigfckfkifaaDoor
