/- The walk of klipperef01.times: the product of two magnitudes in pieces of four digits. -/
import Derived.Test.YtmkeigfckfkifaaDoorRefC
import Derived.Test.YtmkeigfckfkifaaDoorTimes
import Derived.BigRegion
namespace Go.Proofs.YtmkeigfckfkifaaDoor
open Go.RowKit

/-- Products so far, i places of the first number behind us, and k of the second one in place i. -/
def ProdR (X Y : List Int) (i k : Nat) (out : List Int) : Prop :=
  out.length = X.length + Y.length ∧ (∀ j : Nat, 0 ≤ out[j]?.getD 0 ∧ out[j]?.getD 0 ≤ if j < i + k then (i + 1) * 100000000 else i * 100000000) ∧
  valB 10000 out = valB 10000 (X.take i) * valB 10000 Y + 10000 ^ i * (X[i]?.getD 0 * valB 10000 (Y.take k))

theorem prod_start (X Y : List Int) : ProdR X Y 0 0 (List.replicate (X.length + Y.length) 0) := by
  refine ⟨by simp, fun j => ?_, by rw [valB_zeros]; simp [valB]⟩
  have h : (List.replicate (X.length + Y.length) (0 : Int))[j]?.getD 0 = 0 := by
    cases e : (List.replicate (X.length + Y.length) (0 : Int))[j]? with
    | none => rfl
    | some x => exact List.eq_of_mem_replicate (List.mem_of_getElem? e)
  rw [h]
  simp

theorem prod_bound {X Y out : List Int} {i k : Nat} (h : ProdR X Y i k out) (hi : i ≤ 60000) (j : Nat) : 0 ≤ out[j]?.getD 0 ∧ out[j]?.getD 0 ≤ 10000000000000 := by
  have h1 := h.2.1 j
  split at h1 <;> omega

theorem mul_piece4 {x y : Int} (hx0 : 0 ≤ x) (hx : x < 10000) (hy0 : 0 ≤ y) (hy : y < 10000) : 0 ≤ x * y ∧ x * y ≤ 100000000 := by
  have h1 : x * y ≤ 10000 * y := Int.mul_le_mul_of_nonneg_right (by omega) hy0
  exact ⟨Int.mul_nonneg hx0 hy0, by omega⟩

theorem prod_step {X Y out : List Int} {i k : Nat} (hi : i < X.length) (hk : k < Y.length) (dX : Digs 10000 X) (dY : Digs 10000 Y) (h : ProdR X Y i k out) :
    ProdR X Y i (k + 1) (out.set (i + k) (out[i + k]?.getD 0 + X[i]?.getD 0 * Y[k]?.getD 0)) := by
  obtain ⟨hl, hb, hv⟩ := h
  have hx := dX.at_ (by omega) i
  have hy := dY.at_ (by omega) k
  have hm := mul_piece4 hx.1 hx.2 hy.1 hy.2
  refine ⟨by simpa using hl, fun j => ?_, ?_⟩
  · clear hv
    have hbj := hb j
    have hbk := hb (i + k)
    have hn : ¬ i + k < i + k := by omega
    rw [if_neg hn] at hbk
    clear hb
    by_cases h1 : j = i + k
    · subst h1
      have hp : i + k < i + (k + 1) := by omega
      rw [List.getElem?_set_self (by omega), Option.getD_some, if_pos hp]
      generalize out[i + k]?.getD 0 = o at *
      generalize X[i]?.getD 0 * Y[k]?.getD 0 = q at *
      omega
    · rw [List.getElem?_set_ne (by omega)]
      generalize out[j]?.getD 0 = o at *
      by_cases h2 : j < i + k
      · have hp : j < i + (k + 1) := by omega
        rw [if_pos h2] at hbj
        rw [if_pos hp]
        exact hbj
      · have hp : ¬ j < i + (k + 1) := by omega
        rw [if_neg h2] at hbj
        rw [if_neg hp]
        exact hbj
  · rw [valB_set _ _ _ _ (by omega), valB_take_succ _ Y k hk, hv]
    generalize X[i]?.getD 0 = x at *
    generalize Y[k]?.getD 0 = y at *
    generalize out[i + k]?.getD 0 = o at *
    have h3 : (10000 : Int) ^ (i + k) = 10000 ^ i * 10000 ^ k := by grind
    rw [h3]
    generalize (10000 : Int) ^ i = p at *
    generalize (10000 : Int) ^ k = s at *
    grind

theorem prod_row {X Y out : List Int} {i : Nat} (hi : i < X.length) (h : ProdR X Y i Y.length out) : ProdR X Y (i + 1) 0 out := by
  obtain ⟨hl, hb, hv⟩ := h
  refine ⟨hl, fun j => ?_, ?_⟩
  · clear hv
    have hbj := hb j
    clear hb
    generalize out[j]?.getD 0 = o at *
    have hle : o ≤ (i + 1) * 100000000 := by
      by_cases h2 : j < i + Y.length
      · rw [if_pos h2] at hbj; exact hbj.2
      · rw [if_neg h2] at hbj; omega
    refine ⟨hbj.1, ?_⟩
    by_cases h2 : j < i + 1 + 0
    · rw [if_pos h2]; omega
    · rw [if_neg h2]; omega
  · rw [hv, valB_take_succ _ X i hi, List.take_length]
    simp [valB]
    grind

theorem prod_end {x y : Nat} {out : List Int} (h : ProdR (lim4 x) (lim4 y) (lim4 x).length 0 out) : valB 10000 out = ((x * y : Nat) : Int) := by
  obtain ⟨hl, hb, hv⟩ := h
  rw [hv, List.take_length, lim4_val, lim4_val]
  simp [valB]

set_option maxHeartbeats 2000000 in
theorem timesR_any (A1 A2 : Option Addr) (c1 c2 x y : Nat) (w : World) (hx : Sl w .i64 A1 c1 (lim4 x)) (hy : Sl w .i64 A2 c2 (lim4 y)) (hlx : (lim4 x).length ≤ 30000) (hly : (lim4 y).length ≤ 30000) :
    Calls Tryd.prog 41 #[.slice A1 (lim4 x).length c1, .slice A2 (lim4 y).length c2] w fun e w' => ∃ A c, e = .returned (.slice A (lim4 (x * y)).length c) ∧ Sl w' .i64 A c (lim4 (x * y)) ∧ Below w.heap.size w w' := by
  obtain ⟨X, hX⟩ : ∃ X : List Int, lim4 x = X := ⟨_, rfl⟩
  obtain ⟨Y, hY⟩ : ∃ Y : List Int, lim4 y = Y := ⟨_, rfl⟩
  have DX : Hid (Digs 10000 X) := by rw [← hX]; exact lim4_digs x
  have DY : Hid (Digs 10000 Y) := by rw [← hY]; exact lim4_digs y
  rw [hX] at hx hlx ⊢
  rw [hY] at hy hly ⊢
  have HX := Lib.hid hX
  have HY := Lib.hid hY
  clear hX hY
  have hmk := run_mkn Elem01 (X.length + Y.length) (by omega) ((X.length : Int) + Y.length) (by omega)
  have HT0 : Hid (Tab (w.alloc (.cells (zrow .i64 (X.length + Y.length)) 3)) w.heap.size 3 .i64 (List.replicate (X.length + Y.length) 0)) := Tab.made w _ _ _
  go_enter Tryd.func41, Tryd.ntmps41
  go_wp2
  go_loopw [6] (fun i wr => ∃ (j : Nat) (out : List Int), j ≤ X.length ∧ i = .int .i64 j ∧ Tab wr w.heap.size 3 .i64 out ∧ Below w.heap.size w wr ∧ ProdR X Y j 0 out) (fun i _ => X.length - (intOf i).toNat)
  case atStart => exact ⟨0, _, Nat.zero_le _, rfl, HT0.out, (Below.refl _ _).alloc (Nat.le_refl _) _, prod_start X Y⟩
  case round =>
    obtain ⟨j, out, hj, rfl, htab, hbel, hinv⟩ := hrel
    have HI := Lib.hid hinv
    have HT := Lib.hid htab
    have HB := Lib.hid hbel
    have hbs := hbel.size
    clear hinv htab hbel
    by_cases hlt : j < X.length
    · go_wp2
      obtain ⟨wo, hwo⟩ : ∃ wo : World, wo = wr := ⟨_, rfl⟩
      rw [← hwo] at HB HT
      go_loopw [7] (fun i wr => ∃ (k : Nat) (out : List Int), k ≤ Y.length ∧ i = .int .i64 k ∧ Tab wr w.heap.size 3 .i64 out ∧ Below w.heap.size w wr ∧ ProdR X Y j k out) (fun i _ => Y.length - (intOf i).toNat)
      case atStart => exact ⟨0, out, Nat.zero_le _, rfl, by rw [← hwo]; exact HT.out, by rw [← hwo]; exact HB.out, HI.out⟩
      case round =>
        clear HT HB HI hwo hbs
        obtain ⟨k, out, hk, rfl, htab, hbel, hinv⟩ := hrel
        have HI := Lib.hid hinv
        have HT := Lib.hid htab
        have HB := Lib.hid hbel
        have hbs := hbel.size
        clear hinv htab hbel
        by_cases hlk : k < Y.length
        · have hx1 := hx.below HB.out
          obtain ⟨bx, ox, rfl, hbx, hcx⟩ := hx1.at_ (by omega)
          have gx := hcx j hlt
          have bx1 := (DX.out.at_ (by omega) j).1
          have bx2 := (DX.out.at_ (by omega) j).2
          clear hcx hx1
          have hy1 := hy.below HB.out
          obtain ⟨by_, oy, rfl, hby, hcy⟩ := hy1.at_ (by omega)
          have gy := hcy k hlk
          clear hcy hy1
          have by1 := (DY.out.at_ (by omega) k).1
          have by2 := (DY.out.at_ (by omega) k).2
          have bo1 := (prod_bound HI.out (by omega) (j + k)).1
          have bo2 := (prod_bound HI.out (by omega) (j + k)).2
          have hjk : j + k < X.length + Y.length := by omega
          have go := HT.out.cell (j + k) (by have := HI.out.1; omega)
          have gf := HT.out.frozen (j + k)
          have HS := Lib.hid (prod_step hlt hlk DX.out DY.out HI.out)
          generalize hxx : X[j]?.getD 0 = xx at *
          generalize hyy : Y[k]?.getD 0 = yy at *
          generalize hoo : out[j + k]?.getD 0 = oo at *
          clear hyy hoo hxx
          have bm := mul_piece4 bx1 bx2 by1 by2
          have bm1 := bm.1
          have bm2 := bm.2
          clear bm
          go_wp2
          go_region
          go_wp2
          go_roundw
          case rel => exact ⟨k + 1, _, by omega, by go_num, (HT.out.set _ _).drewN 1, (HB.out.setCell (Nat.le_refl _) _).drew, HS.out⟩
          case measure => simp [intOf]; omega
        · obtain rfl : k = Y.length := by omega
          have HE := Lib.hid (prod_row hlt HI.out)
          go_wp2
          go_roundw
          case rel => exact ⟨j + 1, out, by omega, by go_num, HT.out, HB.out, HE.out⟩
          case measure => simp [intOf]; omega
    · obtain rfl : j = X.length := by omega
      have HE : Hid (valB 10000 out = ((x * y : Nat) : Int)) := by
        have hX := HX.out
        have hY := HY.out
        subst hX hY
        exact prod_end HI.out
      have HL : Hid (out.length = X.length + Y.length) := HI.out.1
      have HM : Hid (Mod 1000000000000000 out) := fun v hv => by
        obtain ⟨i, hi⟩ := List.mem_iff_getElem?.1 hv
        have := prod_bound HI.out (by omega) i
        rw [hi, Option.getD_some] at this
        omega
      clear hx hy
      have hca := carry_any (some ⟨w.heap.size, 0, none⟩) (X.length + Y.length) (x * y) out wr (HT.out.slN HL.out (by omega)) (by rw [HL.out]; omega) HM.out HE.out
      rw [HL.out] at hca
      have HC := Lib.hid hca
      clear hca
      go_wp2_with (go_at_call 70; refine HC.out.mono ?_; rintro e w'' ⟨A, c, rfl, h1, h2⟩)
      go_ret
      exact ⟨_, _, rfl, h1, HB.out.trans (h2.mono hbs)⟩

end Go.Proofs.YtmkeigfckfkifaaDoor
