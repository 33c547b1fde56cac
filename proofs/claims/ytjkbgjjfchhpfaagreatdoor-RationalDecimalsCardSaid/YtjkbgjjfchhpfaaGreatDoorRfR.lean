/- The contracts of rational.Decimal and klipperef02.Decimal. -/
import Derived.Test.YtjkbgjjfchhpfaaGreatDoorRfQ
namespace Go.Proofs.YtjkbgjjfchhpfaaGreatDoor
open Go.RowKit

theorem rpower_any (p : Nat) (hp : p ≤ 12) (w : World) :
    Calls Tryz.prog 79 #[.int .i64 p] w fun e w' => e = .returned (.string (canon ((10 ^ p : Nat) : Int))) ∧ Below w.heap.size w w' := by
  have h := fun W => Tryz.strings_Repeat ⟨#[48]⟩ p W (by omega) (by show 1 * p ≤ 140737488355328; omega)
  rw [show (⟨#[48]⟩ : ByteArray).data.toList = [48] from rfl] at h
  have e1 := ten_text p
  have z3 : (⟨(Lib.repeatL [48] p).toArray⟩ : ByteArray).size = p := by rw [Lib.size_eq, repeat48]; simp
  have hz3 : (⟨(Lib.repeatL [48] p).toArray⟩ : ByteArray).size ≤ 12 := by rw [z3]; exact hp
  clear z3
  generalize (⟨(Lib.repeatL [48] p).toArray⟩ : ByteArray) = Z at *
  generalize canon ((10 ^ p : Nat) : Int) = R at *
  have H := Lib.hid h
  have E1 := Lib.hid e1
  clear h e1
  go_enter Tryz.func79, Tryz.ntmps79
  go_wp2_with (go_at_call 14; (with_reducible refine (H.out _).mono ?_); rintro e w1 ⟨rfl, q⟩; have B1 := Lib.hid q; clear q)
  go_ret
  rw [← E1.out]
  exact ⟨rfl, B1.out⟩

theorem mag_abs (z : Int) : canon (z.natAbs : Int) = ⟨(mdig z).toArray⟩ := by rw [canon_nat]; rfl

theorem ten_lt (p N : Nat) (h : p < N) : (10 ^ p : Nat) < 10 ^ N := Nat.pow_lt_pow_right (by omega) h

theorem mdig_len_le (z : Int) (N : Nat) (h : z.natAbs < 10 ^ N) (h0 : 0 < N) : (mdig z).length ≤ N := by
  have := canon_size_lt (z.natAbs : Int) N (by rw [Int.natAbs_natCast]; exact h) h0
  have e := mag_abs z
  rw [e] at this
  have h2 := decDigits_len_le N z.natAbs h h0
  exact h2

theorem dec_text (z : Int) (p : Nat) : ∃ k, 0 < k ∧ (decP z p).length = k + p ∧ decK z p = k := ⟨decK z p, (decP_len z p).2, (decP_len z p).1, rfl⟩

theorem sign_nn {z : Int} (h : 0 ≤ z) : 0 ≤ z.sign := by
  by_cases e : z = 0
  · subst e; decide
  · rw [Int.sign_eq_one_of_pos (by omega)]; decide

theorem ba_cat (a b : ByteArray) : (a ++ b).data.toList = a.data.toList ++ b.data.toList := ba_append a b
theorem ba_take (l : List UInt8) (k : Nat) : ((⟨l.toArray⟩ : ByteArray).extract 0 k).data.toList = l.take k := by simp [ByteArray.data_extract]
theorem ba_drop (l : List UInt8) (k n : Nat) (h : l.length = n) : ((⟨l.toArray⟩ : ByteArray).extract k n).data.toList = l.drop k := by
  have e : ((⟨l.toArray⟩ : ByteArray).extract k n).data.toList = (l.drop k).take (n - k) := by simp [ByteArray.data_extract]
  rw [e]
  exact List.take_of_length_le (by rw [List.length_drop]; omega)

theorem decL_text (z : Int) (p k : Nat) (hp : p ≠ 0) (hk : decK z p = k) (hn : (decP z p).length = k + p) (SG : ByteArray) (hs : SG.data.toList = if z < 0 then [45] else []) :
    ((SG ++ (⟨(decP z p).toArray⟩ : ByteArray).extract 0 k) ++ (⟨#[46]⟩ : ByteArray)) ++ (⟨(decP z p).toArray⟩ : ByteArray).extract k (k + p) = ⟨(decL z p).toArray⟩ := by
  apply ba_ext
  rw [ba_cat, ba_cat, ba_cat, ba_take, ba_drop _ _ _ hn, hs]
  show _ = decL z p
  unfold decL
  rw [if_neg hp, hk]
  simp

theorem decL_text0 (z : Int) (p : Nat) (hp : p = 0) (SG : ByteArray) (hs : SG.data.toList = if z < 0 then [45] else []) :
    SG ++ (⟨(decP z p).toArray⟩ : ByteArray) = ⟨(decL z p).toArray⟩ := by
  apply ba_ext
  rw [ba_cat, hs]
  show _ ++ decP z p = decL z p
  unfold decL
  rw [if_pos hp]

set_option maxHeartbeats 1000000 in
theorem rdecimal_any (q : Rat) (p : Nat) (hp : p ≤ 12) (hq : Sz q 80) (w : World) (he : Env w) :
    Calls Tryz.prog 19 #[.string (canonR q), .int .i64 p] w fun e w' => e = .returned (.tuple #[.string ⟨(decL (roundN q (10 ^ p)) p).toArray⟩, .int .i64 0]) ∧ Below w.heap.size w w' := by
  have hg := ten_lt p 80 (by omega)
  obtain ⟨s2, s3⟩ := round_sz hq hg (by omega)
  have pw : ∀ W, Below w.heap.size w W → _ := fun W (_ : Below w.heap.size w W) => rpower_any p hp W
  have mu := fun W (hW : Below w.heap.size w W) => rmul_any q ((10 ^ p : Nat) : Rat) 80 (by omega) (by omega) hq (grid_sz _ 80 hg (by omega)) W (he.below hW)
  rw [canonR_nat] at mu
  have nr := fun W (hW : Below w.heap.size w W) => rnearest_any (q * ((10 ^ p : Nat) : Rat)) 160 (by omega) (by omega) s2 W (he.below hW)
  rw [show (q * ((10 ^ p : Nat) : Rat) + half).num / ((q * ((10 ^ p : Nat) : Rat) + half).den : Int) = roundN q (10 ^ p) from rfl] at nr
  generalize roundN q (10 ^ p) = z at *
  have ab := fun W => abs_any z W
  rw [mag_abs] at ab
  have sn := fun W => sign_any z W
  have hl : (⟨(mdig z).toArray⟩ : ByteArray).size ≤ 400 := by
    have : (mdig z).length ≤ (canon z).size := by
      rw [Lib.size_eq]
      show _ ≤ (Lib.itoa z).length
      rcases itoa_cases z with ⟨_, e⟩ | ⟨_, e⟩ <;> rw [e] <;> simp
    rw [Lib.size_eq]
    show (mdig z).length ≤ 400
    omega
  have hsz : (⟨(mdig z).toArray⟩ : ByteArray).size = (mdig z).length := rfl
  have hPz : (⟨(decP z p).toArray⟩ : ByteArray).size = (decP z p).length := rfl
  obtain ⟨k, hk0, hn, hk⟩ := dec_text z p
  have hlen : (decP z p).length = (p + 1 - (mdig z).length) + (mdig z).length := by unfold decP; rw [List.length_append, List.length_replicate]
  by_cases hpad : (mdig z).length ≤ p
  · have rp : ∀ W, Calls Tryz.prog 14 #[.string ⟨#[48]⟩, .int .i64 ((p : Int) + 1 - ((⟨(mdig z).toArray⟩ : ByteArray).size : Int))] W fun e w' => e = .returned (.string ⟨(List.replicate (p + 1 - (mdig z).length) 48).toArray⟩) ∧ Below W.heap.size W w' := fun W => by
      have h := Tryz.strings_Repeat ⟨#[48]⟩ (p + 1 - (mdig z).length) W (by omega) (by show 1 * _ ≤ 140737488355328; omega)
      rw [show (⟨#[48]⟩ : ByteArray).data.toList = [48] from rfl, repeat48] at h
      rw [hsz, show (p : Int) + 1 - ((mdig z).length : Int) = ((p + 1 - (mdig z).length : Nat) : Int) by omega]
      exact h
    have hRp : (⟨(List.replicate (p + 1 - (mdig z).length) 48).toArray⟩ : ByteArray).size ≤ 400 := by rw [Lib.size_eq]; simp; omega
    have hS : (⟨(List.replicate (p + 1 - (mdig z).length) 48).toArray⟩ : ByteArray) ++ ⟨(mdig z).toArray⟩ = ⟨(decP z p).toArray⟩ := by
      apply ba_ext; rw [ba_cat]; rfl
    by_cases hz : z < 0
    · exact rdec_some_pad_neg _ _ _ _ _ _ _ _ p k z.sign w hp (by have := mdig_pos z; omega) (by rw [Int.sign_eq_neg_one_of_neg hz]; decide) hl hpad hRp hS hn hk0 (decL_text z p k (by have := mdig_pos z; omega) hk hn ⟨#[45]⟩ (by rw [if_pos hz])) (by rw [hPz]; omega) pw mu nr ab sn rp
    · exact rdec_some_pad_pos _ _ _ _ _ _ _ _ p k z.sign w hp (by have := mdig_pos z; omega) (sign_nn (by omega)) hl hpad hRp hS hn hk0 (decL_text z p k (by have := mdig_pos z; omega) hk hn ⟨#[]⟩ (by rw [if_neg hz])) (by rw [hPz]; omega) pw mu nr ab sn rp
  · have hfull := decP_full z p (by omega)
    have hz0 : (⟨(decP z p).toArray⟩ : ByteArray).size = k + p := hn
    rw [hfull] at hz0
    by_cases hp0 : p = 0
    · have ht := fun SG hs => decL_text0 z p hp0 SG hs
      rw [hfull] at ht
      by_cases hz : z < 0
      · exact rdec_zero_full_neg _ _ _ _ _ _ p k z.sign w hp hp0 (by rw [Int.sign_eq_neg_one_of_neg hz]; decide) hl hz0 hk0 (ht ⟨#[45]⟩ (by rw [if_pos hz])) pw mu nr ab sn
      · exact rdec_zero_full_pos _ _ _ _ _ _ p k z.sign w hp hp0 (sign_nn (by omega)) hl hz0 hk0 (ht ⟨#[]⟩ (by rw [if_neg hz])) pw mu nr ab sn
    · have ht := fun SG hs => decL_text z p k hp0 hk hn SG hs
      rw [hfull] at ht
      by_cases hz : z < 0
      · exact rdec_some_full_neg _ _ _ _ _ _ p k z.sign w hp (by omega) (by rw [Int.sign_eq_neg_one_of_neg hz]; decide) hl hz0 hk0 (ht ⟨#[45]⟩ (by rw [if_pos hz])) hl pw mu nr ab sn
      · exact rdec_some_full_pos _ _ _ _ _ _ p k z.sign w hp (by omega) (sign_nn (by omega)) hl hz0 hk0 (ht ⟨#[]⟩ (by rw [if_neg hz])) hl pw mu nr ab sn

theorem dec_fin (z : Int) (p : Nat) (S : ByteArray) (j : Nat) (h : S.data.toList = List.replicate j 48 ++ (⟨(mdig z).toArray⟩ : ByteArray).data.toList) (h1 : p < S.size) (h2 : j = 0 ∨ (⟨(mdig z).toArray⟩ : ByteArray).size + j ≤ p + 1) : S = ⟨(decP z p).toArray⟩ := by
  have e : (⟨(mdig z).toArray⟩ : ByteArray).data.toList = mdig z := rfl
  have e2 : (⟨(mdig z).toArray⟩ : ByteArray).size = (mdig z).length := rfl
  rw [e] at h
  rw [e2] at h2
  apply ba_ext
  rw [h]
  show _ = decP z p
  unfold decP
  have h3 : S.size = j + (mdig z).length := by rw [Lib.size_eq, h, List.length_append, List.length_replicate]
  rw [show p + 1 - (mdig z).length = j by omega]

set_option maxHeartbeats 1000000 in
theorem pdecimal_any (q : Rat) (p : Nat) (hp : p ≤ 12) (hq : Sz q 80) (w : World) (he : Env w) :
    Calls Tryz.prog 20 #[.string (canonR q), .int .i64 p] w fun e w' => e = .returned (.string ⟨(decL (roundN q (10 ^ p)) p).toArray⟩) ∧ Below w.heap.size w w' := by
  have hg := ten_lt p 80 (by omega)
  obtain ⟨s2, s3⟩ := round_sz hq hg (by omega)
  have rp := fun W => Tryz.strings_Repeat ⟨#[48]⟩ p W (by omega) (by show 1 * p ≤ 140737488355328; omega)
  rw [show (⟨#[48]⟩ : ByteArray).data.toList = [48] from rfl] at rp
  have hP := ten_text p
  have z3 : (⟨(Lib.repeatL [48] p).toArray⟩ : ByteArray).size ≤ 12 := by rw [Lib.size_eq, repeat48]; simp; exact hp
  have mu := fun W (hW : Below w.heap.size w W) => rmulR_any q ((10 ^ p : Nat) : Rat) 80 (by omega) (by omega) hq (grid_sz _ 80 hg (by omega)) W (he.below hW)
  rw [canonR_nat] at mu
  have nr := fun W (hW : Below w.heap.size w W) => rnearestR_any (q * ((10 ^ p : Nat) : Rat)) 160 (by omega) (by omega) s2 W (he.below hW)
  rw [show (q * ((10 ^ p : Nat) : Rat) + half).num / ((q * ((10 ^ p : Nat) : Rat) + half).den : Int) = roundN q (10 ^ p) from rfl] at nr
  generalize roundN q (10 ^ p) = z at *
  have sp := fun W => splitR_canon z W (by omega)
  have hl : (⟨(mdig z).toArray⟩ : ByteArray).size ≤ 400 := by
    have : (mdig z).length ≤ (canon z).size := by
      rw [Lib.size_eq]
      show _ ≤ (Lib.itoa z).length
      rcases itoa_cases z with ⟨_, e⟩ | ⟨_, e⟩ <;> rw [e] <;> simp
    rw [Lib.size_eq]
    show (mdig z).length ≤ 400
    omega
  obtain ⟨k, hk0, hn, hk⟩ := dec_text z p
  have hlen : (decP z p).length = (p + 1 - (mdig z).length) + (mdig z).length := by unfold decP; rw [List.length_append, List.length_replicate]
  have hsz : (⟨(mdig z).toArray⟩ : ByteArray).size = (mdig z).length := rfl
  have hn1 : (⟨(decP z p).toArray⟩ : ByteArray).size ≤ 400 := by
    show (decP z p).length ≤ 400
    omega
  have hnb : (⟨(decP z p).toArray⟩ : ByteArray).size = k + p := hn
  have fin := fun S j => dec_fin z p S j
  have reo : ∀ a b c : ByteArray, (⟨#[45]⟩ : ByteArray) ++ ((a ++ b) ++ c) = (((⟨#[45]⟩ : ByteArray) ++ a) ++ b) ++ c := fun a b c => by apply ba_ext; simp only [ba_cat, List.append_assoc]
  have reo2 : ∀ a b c : ByteArray, (a ++ b) ++ c = (((⟨#[]⟩ : ByteArray) ++ a) ++ b) ++ c := fun a b c => by apply ba_ext; simp [ba_cat]
  by_cases hz : z < 0
  · rw [decide_eq_true hz] at sp
    by_cases hp0 : p = 0
    · exact pdec_zero_neg _ _ _ _ _ _ _ _ p k w hp hp0 hl hnb hk0 hn1 fin (decL_text0 z p hp0 ⟨#[45]⟩ (by rw [if_pos hz])) rp hP z3 mu nr sp
    · exact pdec_some_neg _ _ _ _ _ _ _ _ p k w hp (by omega) hl hnb hk0 hn1 fin ((reo _ _ _).trans (decL_text z p k hp0 hk hn ⟨#[45]⟩ (by rw [if_pos hz]))) rp hP z3 mu nr sp
  · rw [decide_eq_false hz] at sp
    by_cases hp0 : p = 0
    · refine pdec_zero_pos _ _ _ _ _ _ _ _ p k w hp hp0 hl hnb hk0 hn1 fin ?_ rp hP z3 mu nr sp
      have := decL_text0 z p hp0 ⟨#[]⟩ (by rw [if_neg hz])
      rw [← this]
      apply ba_ext
      rw [ba_cat]
      rfl
    · exact pdec_some_pos _ _ _ _ _ _ _ _ p k w hp (by omega) hl hnb hk0 hn1 fin ((reo2 _ _ _).trans (decL_text z p k hp0 hk hn ⟨#[]⟩ (by rw [if_neg hz]))) rp hP z3 mu nr sp

theorem rdecimal_off (T : ByteArray) (p : Int) (h : p < 0 ∨ 12 < p) (w : World) :
    Calls Tryz.prog 19 #[.string T, .int .i64 p] w fun e w' => e = .returned (.tuple #[.string ⟨#[]⟩, .int .i64 3]) ∧ w = w' := by
  have hc : decide (p < 0) = true ∨ decide (p < 0) = false ∧ decide (p > 12) = true := by
    by_cases h0 : p < 0
    · exact .inl (decide_eq_true h0)
    · exact .inr ⟨decide_eq_false h0, decide_eq_true (by omega)⟩
  clear h
  rcases hc with h | ⟨h1, h2⟩
  · go_enter Tryz.func19, Tryz.ntmps19
    go_wp2
    go_ret2
    exact ⟨rfl, rfl⟩
  · go_enter Tryz.func19, Tryz.ntmps19
    go_wp2
    go_ret2
    exact ⟨rfl, rfl⟩

end Go.Proofs.YtjkbgjjfchhpfaaGreatDoor
