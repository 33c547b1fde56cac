/- The walks of klipperef01.Split and Neg at an integer, of give and made: pieces become an integer. -/
import Derived.Test.YtmkeigfckfkifaaDoorRefS
import Derived.Test.YtmkeigfckfkifaaDoorRefD
import Derived.Test.YtmkeigfckfkifaaDoorRefC
import Derived.Test.YtmkeigfckfkifaaDoorRefK
import Derived.Test.YtmkeigfckfkifaaDoorWord
namespace Go.Proofs.YtmkeigfckfkifaaDoor
open Go.RowKit

theorem ba_ext {a b : ByteArray} (h : a.data.toList = b.data.toList) : a = b := by
  obtain ⟨⟨l⟩⟩ := a
  obtain ⟨⟨m⟩⟩ := b
  simp at h
  rw [h]

theorem ba_append (a b : ByteArray) : (a ++ b).data.toList = a.data.toList ++ b.data.toList := by simp [ByteArray.data_append]

theorem canon_neg_eq (z : Int) (h : z < 0) : canon z = ⟨(45 :: mdig z).toArray⟩ := by
  rcases itoa_cases z with ⟨h1, e⟩ | ⟨h1, e⟩
  · omega
  · unfold canon; rw [e]
theorem canon_nn_eq (z : Int) (h : 0 ≤ z) : canon z = mag z := by
  rcases itoa_cases z with ⟨h1, e⟩ | ⟨h1, e⟩
  · unfold canon mag; rw [e]
  · omega

theorem get0 {s : ByteArray} {c : UInt8} {l : List UInt8} (h : s.data.toList = c :: l) (h0 : 0 < s.size) : s[0] = c := by
  have h1 : s[0] = s.data.toList[0]'(by rw [h]; simp) := rfl
  rw [h1]
  simp [h]

theorem splitR_canon (z : Int) (w : World) (hs : (canon z).size ≤ 1000000) :
    Calls Tryd.prog 39 #[.string (canon z)] w fun e w' => e = .returned (.tuple #[.bool (decide (z < 0)), .string (mag z)]) ∧ Drew w w' := by
  by_cases hz : z < 0
  · have hd : (canon z).data.toList = 45 :: mdig z := by rw [canon_neg_eq z hz]
    have h0 : 0 < (canon z).size := by rw [Lib.size_eq, hd]; simp
    have h := split_minus (canon z) w hs h0 (by rw [get0 hd h0]; rfl)
    have e : (canon z).extract 1 (canon z).size = mag z := ba_ext (by rw [Lib.extract_to_end, hd]; rfl)
    rw [e] at h
    rw [decide_eq_true hz]
    exact h
  · have hd : (canon z).data.toList = mdig z := by rw [canon_nn_eq z (by omega)]; rfl
    have h := split_plain (canon z) w hs (fun h0 => by
      have h2 := mdig_all z (canon z)[0] (by rw [← hd]; exact List.getElem_mem (l := (canon z).data.toList) h0)
      exact beq_eq_false_iff_ne.2 (by omega))
    rw [canon_nn_eq z (by omega)] at h ⊢
    rw [decide_eq_false hz]
    exact h.mono fun e w' ⟨h1, h2⟩ => ⟨h1, by subst h2; exact Drew.refl _⟩

set_option maxRecDepth 100000 in
set_option maxHeartbeats 2000000 in
theorem give_any (A : Option Addr) (c n : Nat) (w : World) (h : Sl w .i64 A c (lim4 n)) (hlen : (lim4 n).length ≤ 20000) (ht : Pow10 w) :
    Calls Tryd.prog 69 #[.slice A (lim4 n).length c] w fun e w' => e = .returned (.string ⟨(Lib.decDigits n).toArray⟩) ∧ Below w.heap.size w w' := by
  rcases Nat.eq_zero_or_pos n with h0 | hn
  · subst h0
    have e0 : (lim4 0).length = 0 := rfl
    have e1 : Hid (Lib.decDigits 0 = [48]) := decDigits_lt 0 (by omega)
    rw [e0]
    clear h hlen ht e0
    go_enter Tryd.func69, Tryd.ntmps69
    go_wp2
    go_ret
    rw [e1.out]
    exact ⟨rfl, Below.refl _ _⟩
  · have hl0 : 0 < (lim4 n).length := by
      rcases Nat.eq_zero_or_pos (lim4 n).length with h1 | h1
      · have := (lim4_len_zero n).1 h1; omega
      · exact h1
    obtain ⟨b, o, rfl, hb, hc⟩ := h.at_ hl0
    obtain ⟨K, hK⟩ : ∃ K, (lim4 n).length = K + 1 := ⟨(lim4 n).length - 1, by omega⟩
    have hKl : K < (lim4 n).length := by omega
    have ne0 : (((lim4 n).length : Int) == 0) = false := beq_eq_false_iff_ne.2 (by omega)
    have eK : ((lim4 n).length : Int) - 1 = (K : Int) := by omega
    have eK2 : ((lim4 n).length : Int) - 2 = (K : Int) - 1 := by omega
    obtain ⟨tp, htp⟩ : ∃ z, n / 10000 ^ K = z := ⟨_, rfl⟩
    have hv := piece_val4 n K hKl
    have hp1 := div_past4 n
    rw [hK] at hp1
    rw [hp1, htp] at hv
    have gt := hc K hKl
    rw [show (lim4 n)[K]?.getD 0 = (tp : Int) by omega] at gt
    have ht4 := at4 n K
    rw [show (lim4 n)[K]?.getD 0 = (tp : Int) by omega] at ht4
    have htl : (tp : Int) < 10000 := ht4.2
    have hi := fun (v : Int) (hv0 : 0 ≤ v) (hv1 : v ≤ 100000) W (hW : Below w.heap.size w W) => itoa_any v (by omega) (by omega) W (ht.below hW)
    have hsz0 : (canon (tp : Int)).size ≤ 4 := by
      show (Lib.itoa (tp : Int)).length ≤ 4
      rw [itoa_of_nat]
      exact decDigits_len_le 4 tp (by omega) (by omega)
    have hd0 : (canon (tp : Int)).data.toList = Lib.decDigits (n / 10000 ^ K) := by rw [canon_data, itoa_of_nat, htp]
    have HD0 := Lib.hid hd0
    have HI := Lib.hid hi
    have HC := Lib.hid hc
    have HKK := Lib.hid hK
    have hKb : K ≤ 20000 := by omega
    clear hi hc hK hp1 hv htp hd0 ht4 ht h
    generalize hLL : (lim4 n).length = LL at *
    have HLL := Lib.hid hLL
    clear hLL
    go_enter Tryd.func69, Tryd.ntmps69
    go_wp2_with (go_at_call 45; refine (HI.out _ (by omega) (by omega) _ (Below.refl _ _)).mono ?_; rintro e w1 ⟨rfl, b1⟩; have B1 := Lib.hid b1; clear b1)
    clear eK eK2 gt ne0
    go_loopw [3, 4] (fun ov iv wr => ∃ (k : Nat) (j : Int) (S : ByteArray), k ≤ K ∧ j = k - 1 ∧ iv = .int .i64 j ∧ ov = .string S ∧ S.size + 4 * k ≤ 4 * K + 4 ∧ Hid (S.data.toList = Lib.decDigits (n / 10000 ^ k)) ∧ Below w.heap.size w wr) (fun _ iv _ => (intOf iv + 1).toNat)
    case atStart => exact ⟨K, _, _, Nat.le_refl _, rfl, rfl, rfl, by omega, HD0.out, B1.out⟩
    case round =>
      clear HD0 B1 hsz0
      obtain ⟨k, j, S, hk, hj, rfl, rfl, hS, HS, hbl⟩ := hrel
      have HB := Lib.hid hbl
      clear hbl
      cases k with
      | zero =>
        obtain rfl : j = -1 := by omega
        have he : Hid (Lib.decDigits n = S.data.toList) := by have := HS.out; rw [Nat.pow_zero, Nat.div_one] at this; exact this.symm
        clear hj
        go_wp2
        go_ret
        rw [he.out]
        exact ⟨rfl, HB.out⟩
      | succ m =>
        obtain rfl : j = (m : Int) := by omega
        have hml : m < (lim4 n).length := by have := HKK.out; have := HLL.out; omega
        have gm := (HB.out.cell (p := ⟨b, o + m, none⟩) hb).trans (HC.out m (by have := HKK.out; omega))
        have hd4 := at4 n m
        have hv := piece_val4 n m hml
        obtain ⟨d, hd⟩ : ∃ d : Nat, (lim4 n)[m]?.getD 0 = (d : Int) := ⟨((lim4 n)[m]?.getD 0).toNat, by omega⟩
        rw [hd] at gm hd4 hv
        have hq : 0 < n / 10000 ^ (m + 1) := top_pos4 n (m + 1) hn (by have := HKK.out; have := HLL.out; omega)
        have hst := dec_step (n / 10000 ^ (m + 1)) d hq (by omega)
        rw [show d + 10000 * (n / 10000 ^ (m + 1)) = n / 10000 ^ m by omega] at hst
        have hx5 : (canon (10000 + (d : Int))).size = 5 := by
          show (Lib.itoa (10000 + (d : Int))).length = 5
          rw [show (10000 : Int) + (d : Int) = ((10000 + d : Nat) : Int) by omega, itoa_of_nat]
          have h1 := decDigits_len_le 5 (10000 + d) (by omega) (by omega)
          have h2 := decDigits_len_ge 4 (10000 + d) (by omega)
          omega
        have hxd : (canon (10000 + (d : Int))).data.toList = Lib.decDigits (10000 + d) := by
          rw [canon_data, show (10000 : Int) + (d : Int) = ((10000 + d : Nat) : Int) by omega, itoa_of_nat]
        rw [← hxd, ← HS.out] at hst
        have hd0 : 0 ≤ (d : Int) := by omega
        have hd1 : (d : Int) < 10000 := hd4.2
        have hmK : m < LL := by have := HKK.out; omega
        have hit := HI.out (10000 + (d : Int)) (by omega) (by omega)
        generalize canon (10000 + (d : Int)) = X at *
        have hX1 : 1 ≤ X.size := by omega
        have hX2 : X.size ≤ 5 := by omega
        have HX5 := Lib.hid hx5
        have HST := Lib.hid hst
        have HIT := Lib.hid hit
        have hS2 : S.size ≤ 100000 := by omega
        clear hx5 hst hit hxd hv hq hd4 hd hj
        go_wp2_with (go_at_call 45; refine (HIT.out _ HB.out).mono ?_; rintro e w2 ⟨rfl, b2⟩; have B2 := Lib.hid (HB.out.trans (b2.mono HB.out.size)); clear b2)
        go_roundw
        case rel =>
          refine ⟨m, (m : Int) - 1, S ++ X.extract 1 X.size, by omega, rfl, rfl, rfl, ?_, ?_, B2.out⟩
          · have h5 := HX5.out
            simp [ByteArray.size_append]
            omega
          · show (S ++ X.extract 1 X.size).data.toList = _
            rw [HST.out, ba_append, Lib.extract_to_end]
        case measure => simp [intOf]

end Go.Proofs.YtmkeigfckfkifaaDoor
