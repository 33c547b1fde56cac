/- The walk of integer.minus: the difference of two magnitudes, of which the first one is not less. -/
import Derived.Test.YtmkeigfckfkifaaDoorPlus
namespace Go.Proofs.YtmkeigfckfkifaaDoor
open Go.RowKit

def MinusInv (X Y : List Int) (j : Nat) (bv : Int) (out : List Int) : Prop :=
  Digs 1000000000 out ∧ valB 1000000000 out - 1000000000 ^ j * bv = valB 1000000000 (X.take j) - valB 1000000000 (Y.take j)

theorem minus_start (X Y : List Int) : MinusInv X Y 0 0 [] := ⟨Digs.nil, by simp [valB]⟩

/-- One place: y is what is taken away there, nb the new borrow, d the digit. -/
theorem minus_step {X Y out : List Int} {j : Nat} {bv nb d y : Int} (hj : j < X.length) (hl : out.length = j) (h : MinusInv X Y j bv out)
    (hy : valB 1000000000 (Y.take (j + 1)) = valB 1000000000 (Y.take j) + 1000000000 ^ j * y) (he : d = X[j]?.getD 0 - (bv + y) + 1000000000 * nb) (h0 : 0 ≤ d) (h1 : d < 1000000000) :
    MinusInv X Y (j + 1) nb (out ++ [d]) := by
  obtain ⟨hd, hv⟩ := h
  refine ⟨hd.snoc h0 h1, ?_⟩
  rw [valB_snoc, hl, valB_take_succ _ X j hj, hy]
  generalize X[j]?.getD 0 = x at *
  have h2 : (1000000000 : Int) ^ (j + 1) = 1000000000 ^ j * 1000000000 := by grind
  rw [h2]
  generalize (1000000000 : Int) ^ j = p at *
  subst he
  grind

theorem minus_in {Y : List Int} {j : Nat} (hj : j < Y.length) : valB 1000000000 (Y.take (j + 1)) = valB 1000000000 (Y.take j) + 1000000000 ^ j * Y[j]?.getD 0 := valB_take_succ _ Y j hj
theorem minus_past {Y : List Int} {j : Nat} (hj : Y.length ≤ j) : valB 1000000000 (Y.take (j + 1)) = valB 1000000000 (Y.take j) + 1000000000 ^ j * 0 := by
  rw [valB_take_past _ Y j hj, valB_take_past _ Y (j + 1) (by omega)]; simp

theorem minus_end {a b : Nat} {out : List Int} {bv : Int} (hab : b ≤ a) (hl : out.length = (lim9 a).length) (h : MinusInv (lim9 a) (lim9 b) (lim9 a).length bv out) (h0 : 0 ≤ bv) (h1 : bv ≤ 1) :
    Digs 1000000000 out ∧ valB 1000000000 out = ((a - b : Nat) : Int) := by
  obtain ⟨hd, hv⟩ := h
  refine ⟨hd, ?_⟩
  have h2 : (lim9 b).length ≤ (lim9 a).length := lim_len_mono 1000000000 (by omega) b a hab
  rw [valB_take_past _ _ _ (Nat.le_refl _), valB_take_past _ _ _ h2, lim9_val, lim9_val] at hv
  have h3 := hd.val_lt (by omega)
  rw [hl] at h3
  have h4 : bv = 0 ∨ bv = 1 := by omega
  rcases h4 with rfl | rfl
  · simp at hv; omega
  · rw [Int.mul_one] at hv
    omega

set_option maxHeartbeats 1000000 in
theorem minus_own (A1 A2 : Option Addr) (c1 c2 x y : Nat) (w : World) (hx : Sl w .u64 A1 c1 (lim9 x)) (hy : Sl w .u64 A2 c2 (lim9 y)) (hlx : (lim9 x).length ≤ 65000) (hyx : y ≤ x) :
    Calls Tryd.prog 50 #[.slice A1 (lim9 x).length c1, .slice A2 (lim9 y).length c2] w fun e w' => ∃ A c, e = .returned (.slice A (lim9 (x - y)).length c) ∧ Sl w' .u64 A c (lim9 (x - y)) ∧ Below w.heap.size w w' ∧ (∀ p : Addr, A = some p → w.heap.size ≤ p.block) ∧ (A = none → c = 0) := by
  have hle : (lim9 y).length ≤ (lim9 x).length := lim_len_mono 1000000000 (by omega) y x hyx
  obtain ⟨X, hX⟩ : ∃ X : List Int, lim9 x = X := ⟨_, rfl⟩
  obtain ⟨Y, hY⟩ : ∃ Y : List Int, lim9 y = Y := ⟨_, rfl⟩
  have bX : ∀ j : Nat, 0 ≤ X[j]?.getD 0 ∧ X[j]?.getD 0 < 1000000000 := fun j => by rw [← hX]; exact at9 x j
  have bY : ∀ j : Nat, 0 ≤ Y[j]?.getD 0 ∧ Y[j]?.getD 0 < 1000000000 := fun j => by rw [← hY]; exact at9 y j
  have BX := Lib.hid bX
  have BY := Lib.hid bY
  rw [hX] at hx hlx hle ⊢
  rw [hY] at hy hle ⊢
  have HX := Lib.hid hX
  have HY := Lib.hid hY
  have HYX := Lib.hid hyx
  clear hX hY bX bY hyx
  have hmk := run_mk0 Elem64 X.length (by omega) (X.length : Int) rfl
  have hown0 : Own (w.alloc (.cells (zrow .u64 X.length) 72)) w.heap.size 72 .u64 (some ⟨w.heap.size, 0, none⟩) 0 X.length [] := Own.made w (Nat.le_refl _) (by simp only [maxLen]; omega)
  go_enter Tryd.func50, Tryd.ntmps50
  go_wp2
  go_loopw [5, 6, 15] (fun v cy i wr => ∃ (j : Nat) (bv : Int) (out : List Int) (Ao : Option Addr) (co : Nat), j ≤ X.length ∧ i = .int .i64 j ∧ cy = .int .u64 bv ∧ v = .slice Ao j co ∧ 0 ≤ bv ∧ bv ≤ 1 ∧
      Own wr w.heap.size 72 .u64 Ao j co out ∧ Below w.heap.size w wr ∧ MinusInv X Y j bv out) (fun _ _ i _ => X.length - (intOf i).toNat)
  case atStart => exact ⟨0, 0, [], _, _, Nat.zero_le _, rfl, rfl, rfl, by omega, by omega, hown0, (Below.refl _ _).alloc (Nat.le_refl _) _, minus_start X Y⟩
  case round =>
    obtain ⟨j, bv, out, Ao, co, hj, rfl, rfl, rfl, h0, h1, hown, hbel, hinv⟩ := hrel
    have HI := Lib.hid hinv
    have HO := Lib.hid hown
    have HB := Lib.hid hbel
    have hbs := hbel.size
    clear hinv hown hbel hown0
    by_cases hlt : j < X.length
    · have hx1 := hx.below HB.out
      have hy1 := hy.below HB.out
      obtain ⟨bx, ox, rfl, hbx, hcx⟩ := hx1.at_ (by omega)
      have gx := hcx j hlt
      have bx1 := (BX.out j).1
      have bx2 := (BX.out j).2
      have by1 := (BY.out j).1
      have by2 := (BY.out j).2
      clear hcx hx1
      generalize hxx : X[j]?.getD 0 = xx at *
      have HXX := Lib.hid hxx
      clear hxx hx hy
      by_cases hly : j < Y.length
      · obtain ⟨by_, oy, rfl, hby, hcy⟩ := hy1.at_ (by omega)
        have gy := hcy j hly
        clear hcy hy1
        generalize hyy : Y[j]?.getD 0 = yy at *
        have HYY := Lib.hid hyy
        clear hyy
        by_cases hbor : xx < bv + yy
        · have HS : Hid (MinusInv X Y (j + 1) 1 (out ++ [xx + 1000000000 - (bv + yy)])) := minus_step hlt HO.out.len HI.out (minus_in hly) (by rw [HXX.out, HYY.out]; omega) (by omega) (by omega)
          go_wp2_with (at_builtin; refine push64 rfl (.tmp 36) (.tmp 40) rfl w.heap.size Ao j co out wr rfl HO.out (xx + 1000000000 - (bv + yy)) rfl (by omega) hbs ?_; intro A' c' w' hown' hg'; have HO' := Lib.hid hown'; have HG' := Lib.hid hg'; clear hown' hg')
          go_roundw
          case rel => exact ⟨j + 1, _, _, A', c', by omega, by go_num, rfl, rfl, by omega, by omega, HO'.out, HO.out.grownBelow HG'.out HB.out (Nat.le_refl _) hbs, HS.out⟩
          case measure => simp [intOf]; omega
        · have HS : Hid (MinusInv X Y (j + 1) 0 (out ++ [xx - (bv + yy)])) := minus_step hlt HO.out.len HI.out (minus_in hly) (by rw [HXX.out, HYY.out]; omega) (by omega) (by omega)
          go_wp2_with (at_builtin; refine push64 rfl (.tmp 36) (.tmp 40) rfl w.heap.size Ao j co out wr rfl HO.out (xx - (bv + yy)) rfl (by omega) hbs ?_; intro A' c' w' hown' hg'; have HO' := Lib.hid hown'; have HG' := Lib.hid hg'; clear hown' hg')
          go_roundw
          case rel => exact ⟨j + 1, _, _, A', c', by omega, by go_num, rfl, rfl, by omega, by omega, HO'.out, HO.out.grownBelow HG'.out HB.out (Nat.le_refl _) hbs, HS.out⟩
          case measure => simp [intOf]; omega
      · clear hy1
        by_cases hbor : xx < bv
        · have HS : Hid (MinusInv X Y (j + 1) 1 (out ++ [xx + 1000000000 - bv])) := minus_step hlt HO.out.len HI.out (minus_past (by omega)) (by rw [HXX.out]; omega) (by omega) (by omega)
          go_wp2_with (at_builtin; refine push64 rfl (.tmp 36) (.tmp 40) rfl w.heap.size Ao j co out wr rfl HO.out (xx + 1000000000 - bv) rfl (by omega) hbs ?_; intro A' c' w' hown' hg'; have HO' := Lib.hid hown'; have HG' := Lib.hid hg'; clear hown' hg')
          go_roundw
          case rel => exact ⟨j + 1, _, _, A', c', by omega, by go_num, rfl, rfl, by omega, by omega, HO'.out, HO.out.grownBelow HG'.out HB.out (Nat.le_refl _) hbs, HS.out⟩
          case measure => simp [intOf]; omega
        · have HS : Hid (MinusInv X Y (j + 1) 0 (out ++ [xx - bv])) := minus_step hlt HO.out.len HI.out (minus_past (by omega)) (by rw [HXX.out]; omega) (by omega) (by omega)
          go_wp2_with (at_builtin; refine push64 rfl (.tmp 36) (.tmp 40) rfl w.heap.size Ao j co out wr rfl HO.out (xx - bv) rfl (by omega) hbs ?_; intro A' c' w' hown' hg'; have HO' := Lib.hid hown'; have HG' := Lib.hid hg'; clear hown' hg')
          go_roundw
          case rel => exact ⟨j + 1, _, _, A', c', by omega, by go_num, rfl, rfl, by omega, by omega, HO'.out, HO.out.grownBelow HG'.out HB.out (Nat.le_refl _) hbs, HS.out⟩
          case measure => simp [intOf]; omega
    · obtain rfl : j = X.length := by omega
      have HE : Hid (Digs 1000000000 out ∧ valB 1000000000 out = ((x - y : Nat) : Int)) := by
        have hX := HX.out
        have hY := HY.out
        subst hX hY
        exact minus_end HYX.out HO.out.len HI.out h0 h1
      clear hx hy
      go_wp2_with (go_at_call 62; refine (trim_to Ao co _ (x - y) _ _ HO.out.sl HO.out.len (by omega) HE.out.1 HE.out.2).mono ?_; rintro e w'' ⟨rfl, rfl⟩)
      go_ret
      exact ⟨Ao, co, rfl, HO.out.sl.to9 HE.out.1 HE.out.2, HB.out, fun p hp => by
        rcases HO.out.form with ⟨h1, _, _⟩ | ⟨g, cur, h1, h2, _⟩
        · rw [h1] at hp; cases hp
        · rw [h1] at hp; cases hp; exact h2, fun hp => by
        rcases HO.out.form with ⟨_, _, h3⟩ | ⟨g, cur, h1, _⟩
        · exact h3
        · rw [h1] at hp; cases hp⟩

theorem minus_any (A1 A2 : Option Addr) (c1 c2 x y : Nat) (w : World) (hx : Sl w .u64 A1 c1 (lim9 x)) (hy : Sl w .u64 A2 c2 (lim9 y)) (hlx : (lim9 x).length ≤ 65000) (hyx : y ≤ x) :
    Calls Tryd.prog 50 #[.slice A1 (lim9 x).length c1, .slice A2 (lim9 y).length c2] w fun e w' => ∃ A c, e = .returned (.slice A (lim9 (x - y)).length c) ∧ Sl w' .u64 A c (lim9 (x - y)) ∧ Below w.heap.size w w' :=
  (minus_own A1 A2 c1 c2 x y w hx hy hlx hyx).mono fun _ _ ⟨A, c, h1, h2, h3, _⟩ => ⟨A, c, h1, h2, h3⟩

end Go.Proofs.YtmkeigfckfkifaaDoor
