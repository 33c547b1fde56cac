/- The walk of integer.order: magnitudes are compared, nothing is written. -/
import Derived.Test.YtmkeigfckfkifaaDoorTrim
import Derived.Deep.QuietTactic
import Derived.BigQuiet
namespace Go.Proofs.YtmkeigfckfkifaaDoor
open Go.RowKit

/-- The sign of the difference of two numbers. -/
def cmpN (a b : Nat) : Int := if a < b then -1 else if b < a then 1 else 0

theorem cmpN_lt {a b : Nat} (h : a < b) : cmpN a b = -1 := by simp [cmpN, h]
theorem cmpN_gt {a b : Nat} (h : b < a) : cmpN a b = 1 := by simp [cmpN, h]; omega
theorem cmpN_eq (a : Nat) : cmpN a a = 0 := by simp [cmpN]

theorem ret_i64 {a b : Int} (h : a = b) : Ending.returned (.int .i64 a) = .returned (.int .i64 b) := by rw [h]

theorem order_len_lt (a b : Nat) (h : (lim9 a).length < (lim9 b).length) : cmpN a b = -1 := cmpN_lt (lim_len_lt _ (by omega) a b h)

theorem order_top (a b i : Nat) (hl : (lim9 a).length = (lim9 b).length) (hi : i < (lim9 a).length) (hs : (lim9 a).drop (i + 1) = (lim9 b).drop (i + 1))
    (hlt : (lim9 a)[i]?.getD 0 < (lim9 b)[i]?.getD 0) : cmpN a b = -1 := by
  have h := val_lt_of_top _ (by omega) (lim9 a) (lim9 b) (lim_digs 1000000000 (by omega) a) (lim_digs 1000000000 (by omega) b) hl i hi hs hlt
  unfold lim9 at h
  rw [lim_val 1000000000 (by omega), lim_val 1000000000 (by omega)] at h
  exact cmpN_lt (by omega)

theorem cmpN_flip {a b : Nat} (h : cmpN b a = -1) : cmpN a b = 1 := by
  unfold cmpN at *
  split at h
  · simp [*]; omega
  · split at h <;> omega

theorem order_all (a b : Nat) (hs : lim9 a = lim9 b) : cmpN a b = 0 := by
  rw [lim_inj _ (by omega) a b hs, cmpN_eq]

set_option maxHeartbeats 400000 in
theorem order_any (A A' : Option Addr) (c c' a b : Nat) (w : World) (ha : Sl w .u64 A c (lim9 a)) (hb : Sl w .u64 A' c' (lim9 b)) (hla : (lim9 a).length ≤ 65536) (_hlb : (lim9 b).length ≤ 65536) :
    Calls Tryd.prog 49 #[.slice A (lim9 a).length c, .slice A' (lim9 b).length c'] w fun e w' => e = .returned (.int .i64 (cmpN a b)) ∧ Drew w w' := by
  by_cases hne : (lim9 a).length = (lim9 b).length
  · have hx : ∀ X Y : List Int, lim9 a = X → lim9 b = Y → Calls Tryd.prog 49 #[.slice A X.length c, .slice A' X.length c'] w fun e w' => e = .returned (.int .i64 (cmpN a b)) ∧ Drew w w' := by
      intro X Y hX hY
      rw [hX] at ha hla hne
      rw [hY] at hb hne
      have HX := Lib.hid hX
      have HY := Lib.hid hY
      have HN := Lib.hid hne
      clear hX hY hne
      go_enter Tryd.func49, Tryd.ntmps49
      go_wp2
      go_loopw [5] (fun i wr => ∃ (k : Nat) (j : Int), k ≤ X.length ∧ j = k - 1 ∧ i = .int .i64 j ∧ X.drop k = Y.drop k ∧ Drew w wr) (fun i _ => (intOf i + 1).toNat)
      case atStart => exact ⟨X.length, _, Nat.le_refl _, rfl, rfl, by rw [List.drop_length, HN.out, List.drop_length], Drew.refl _⟩
      case round =>
        obtain ⟨k, j, hk, hj, rfl, hs, n, rfl⟩ := hrel
        have HS := Lib.hid hs
        clear hs
        rcases Nat.eq_zero_or_pos k with rfl | hpos
        · obtain rfl : j = -1 := by omega
          clear hj
          go_wp2
          go_ret
          have h0 := HS.out
          rw [List.drop_zero, List.drop_zero] at h0
          exact ⟨ret_i64 (order_all a b (by rw [HX.out, HY.out, h0])).symm, Drew.of _ _⟩
        · obtain ⟨m, rfl⟩ : ∃ m, k = m + 1 := ⟨k - 1, by omega⟩
          obtain rfl : j = (m : Int) := by omega
          clear hj
          obtain ⟨ba, oa, rfl, hba, hca⟩ := ha.at_ (by omega)
          obtain ⟨bb, ob, rfl, hbb, hcb⟩ := hb.at_ (by rw [← HN.out]; omega)
          have hm : m < X.length := by omega
          have hm' : m < Y.length := by rw [← HN.out]; omega
          have ga := hca m hm
          have gb := hcb m hm'
          clear hca hcb ha hb
          have hcapa : X.length ≤ 65536 := hla
          generalize hxx : X[m]?.getD 0 = x at *
          generalize hyy : Y[m]?.getD 0 = y at *
          have HXX := Lib.hid hxx
          have HYY := Lib.hid hyy
          clear hxx hyy
          rcases Int.lt_trichotomy x y with hlt | heq | hgt
          · have t1 : (x != y) = true := by rw [bne_iff_ne]; omega
            go_wp2
            go_quiet (fail)
            go_wp2
            go_quiet (fail)
            go_wp2
            go_ret
            have hx2 := HX.out
            have hy2 := HY.out
            exact ⟨ret_i64 (order_top a b m (by rw [hx2, hy2]; exact HN.out) (by rw [hx2]; omega) (by rw [hx2, hy2]; exact HS.out) (by rw [hx2, hy2, HXX.out, HYY.out]; exact hlt)).symm, ((Drew.of _ _).more _).more _⟩
          · have t1 : (x != y) = false := by rw [heq]; simp
            have HE := Lib.hid heq
            clear heq
            go_wp2
            go_quiet (fail)
            go_wp2
            go_roundw
            case rel => exact ⟨m, _, by omega, rfl, rfl, by rw [drop_getD X m hm, drop_getD Y m hm', HS.out, HXX.out, HYY.out, HE.out], Drew.of _ _⟩
            case measure => simp [intOf]
          · have t1 : (x != y) = true := by rw [bne_iff_ne]; omega
            go_wp2
            go_quiet (fail)
            go_wp2
            go_quiet (fail)
            go_wp2
            go_ret
            have hx2 := HX.out
            have hy2 := HY.out
            exact ⟨ret_i64 (cmpN_flip (order_top b a m (by rw [hx2, hy2]; exact HN.out.symm) (by rw [hy2]; omega) (by rw [hx2, hy2]; exact HS.out.symm) (by rw [hx2, hy2, HXX.out, HYY.out]; exact hgt))).symm, ((Drew.of _ _).more _).more _⟩
    have := hx _ _ rfl rfl
    rw [← hne]
    exact this
  · clear ha hb
    rcases Nat.lt_or_gt_of_ne hne with hlt | hgt
    · have HR := Lib.hid (order_len_lt a b hlt)
      have t1 : (((lim9 a).length : Int) != ((lim9 b).length : Int)) = true := by rw [bne_iff_ne]; omega
      go_enter Tryd.func49, Tryd.ntmps49
      go_wp2
      go_ret
      exact ⟨ret_i64 HR.out.symm, Drew.refl _⟩
    · have HR := Lib.hid (cmpN_flip (order_len_lt b a hgt))
      have t1 : (((lim9 a).length : Int) != ((lim9 b).length : Int)) = true := by rw [bne_iff_ne]; omega
      go_enter Tryd.func49, Tryd.ntmps49
      go_wp2
      go_ret
      exact ⟨ret_i64 HR.out.symm, Drew.refl _⟩

end Go.Proofs.YtmkeigfckfkifaaDoor
