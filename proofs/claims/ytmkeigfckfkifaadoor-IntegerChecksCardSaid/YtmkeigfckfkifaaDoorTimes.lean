/- The walk of integer.times: the product of two magnitudes. -/
import Derived.Test.YtmkeigfckfkifaaDoorPlus
namespace Go.Proofs.YtmkeigfckfkifaaDoor
open Go.RowKit

theorem valB_set (B : Int) : ∀ (l : List Int) (i : Nat) (v : Int), i < l.length → valB B (l.set i v) = valB B l + B ^ i * (v - l[i]?.getD 0) := by
  intro l
  induction l with
  | nil => intro i v h; simp at h
  | cons x l ih =>
    intro i v h
    cases i with
    | zero => simp [valB]; omega
    | succ i =>
      have h1 := ih i v (by simpa using h)
      simp only [List.set_cons_succ, valB, h1, List.getElem?_cons_succ]
      grind

theorem pow_mono_int (a b : Nat) (h : a ≤ b) : (1000000000 : Int) ^ a ≤ 1000000000 ^ b := by
  obtain ⟨d, rfl⟩ : ∃ d, b = a + d := ⟨b - a, by omega⟩
  rw [Int.pow_add]
  have h1 : (0 : Int) < 1000000000 ^ d := Int.pow_pos (by omega)
  have h2 : (1000000000 : Int) ^ a * 1 ≤ 1000000000 ^ a * 1000000000 ^ d := Int.mul_le_mul_of_nonneg_left (by omega) (Int.le_of_lt (Int.pow_pos (by omega)))
  omega

theorem mul_lt_pow {x y p q : Int} (hx0 : 0 ≤ x) (hx : x < p) (_hy0 : 0 ≤ y) (hy : y < q) : x * y < p * q := by
  have h1 : x * y ≤ x * q := Int.mul_le_mul_of_nonneg_left (by omega) hx0
  have h2 : x * q < p * q := Int.mul_lt_mul_of_pos_right hx (by omega)
  omega

theorem mul_piece {x y : Int} (hx0 : 0 ≤ x) (hx : x < 1000000000) (hy0 : 0 ≤ y) (hy : y < 1000000000) : 0 ≤ x * y ∧ x * y ≤ 999999998000000001 := by
  have h1 : x * y ≤ 999999999 * y := Int.mul_le_mul_of_nonneg_right (by omega) hy0
  exact ⟨Int.mul_nonneg hx0 hy0, by omega⟩

/-- The pieces so far, i places of the first number behind us. -/
def TimesInv (X Y : List Int) (i : Nat) (out : List Int) : Prop :=
  Digs 1000000000 out ∧ out.length = X.length + Y.length + 1 ∧ valB 1000000000 out = valB 1000000000 (X.take i) * valB 1000000000 Y

/-- Inside place i: k places of the second number behind us. -/
def RowInv (X Y : List Int) (i k : Nat) (cv : Int) (out : List Int) : Prop :=
  Digs 1000000000 out ∧ out.length = X.length + Y.length + 1 ∧ 0 ≤ cv ∧ cv < 1000000000 ∧
  valB 1000000000 out + 1000000000 ^ (i + k) * cv = valB 1000000000 (X.take i) * valB 1000000000 Y + 1000000000 ^ i * (X[i]?.getD 0 * valB 1000000000 (Y.take k))

/-- Behind the row: the carry goes on at place k. -/
def CarryInv (X Y : List Int) (i k : Nat) (cv : Int) (out : List Int) : Prop :=
  Digs 1000000000 out ∧ out.length = X.length + Y.length + 1 ∧ 0 ≤ cv ∧ cv < 1000000000 ∧
  valB 1000000000 out + 1000000000 ^ k * cv = valB 1000000000 (X.take (i + 1)) * valB 1000000000 Y

theorem times_start (X Y : List Int) : TimesInv X Y 0 (List.replicate (X.length + Y.length + 1) 0) :=
  ⟨Digs.zeros (by omega) _, by simp, by rw [valB_zeros]; simp [valB]⟩

theorem row_start {X Y out : List Int} {i : Nat} (h : TimesInv X Y i out) : RowInv X Y i 0 0 out :=
  ⟨h.1, h.2.1, by omega, by omega, by rw [h.2.2]; simp [valB]⟩

theorem row_step {X Y out : List Int} {i k : Nat} {cv c2 : Int} (hi : i < X.length) (hk : k < Y.length) (dX : Digs 1000000000 X) (dY : Digs 1000000000 Y) (h : RowInv X Y i k cv out)
    (hc : c2 = cv + (out[i + k]?.getD 0 + X[i]?.getD 0 * Y[k]?.getD 0)) : RowInv X Y i (k + 1) (c2 / 1000000000) (out.set (i + k) (c2 % 1000000000)) := by
  obtain ⟨hd, hl, h0, h1, hv⟩ := h
  have hx := dX.at_ (by omega) i
  have hy := dY.at_ (by omega) k
  have ho := hd.at_ (by omega) (i + k)
  have hm := mul_piece hx.1 hx.2 hy.1 hy.2
  refine ⟨hd.set _ (by omega) (by omega), by simpa using hl, by omega, by omega, ?_⟩
  rw [valB_set _ _ _ _ (by omega), valB_take_succ _ Y k hk]
  generalize X[i]?.getD 0 = x at *
  generalize Y[k]?.getD 0 = y at *
  generalize out[i + k]?.getD 0 = o at *
  have e1 := Int.emod_add_mul_ediv c2 1000000000
  generalize c2 % 1000000000 = r at *
  generalize c2 / 1000000000 = q at *
  have h2 : (1000000000 : Int) ^ (i + (k + 1)) = 1000000000 ^ i * 1000000000 ^ k * 1000000000 := by grind
  have h3 : (1000000000 : Int) ^ (i + k) = 1000000000 ^ i * 1000000000 ^ k := by grind
  rw [h3] at hv
  rw [h2, h3]
  generalize (1000000000 : Int) ^ i = p at *
  generalize (1000000000 : Int) ^ k = s at *
  grind

theorem row_end {X Y out : List Int} {i : Nat} {cv : Int} (hi : i < X.length) (h : RowInv X Y i Y.length cv out) : CarryInv X Y i (i + Y.length) cv out := by
  obtain ⟨hd, hl, h0, h1, hv⟩ := h
  refine ⟨hd, hl, h0, h1, ?_⟩
  rw [hv, valB_take_succ _ X i hi, List.take_length]
  grind

theorem carry_room {X Y out : List Int} {i k : Nat} {cv : Int} (hi : i < X.length) (dX : Digs 1000000000 X) (dY : Digs 1000000000 Y) (h : CarryInv X Y i k cv out) (hc : 0 < cv) : k < X.length + Y.length := by
  obtain ⟨hd, hl, h0, h1, hv⟩ := h
  rcases Nat.lt_or_ge k (X.length + Y.length) with h2 | h2
  · exact h2
  · exfalso
    have h3 := hd.val_nonneg (by omega)
    have h4 := mul_lt_pow ((dX.take (i + 1)).val_nonneg (by omega)) ((dX.take (i + 1)).val_lt (by omega)) (dY.val_nonneg (by omega)) (dY.val_lt (by omega))
    rw [← Int.pow_add, List.length_take, Nat.min_eq_left (by omega)] at h4
    have h5 : (1000000000 : Int) ^ (i + 1 + Y.length) ≤ 1000000000 ^ k := pow_mono_int _ _ (by omega)
    have h6 : (1000000000 : Int) ^ k * 1 ≤ 1000000000 ^ k * cv := Int.mul_le_mul_of_nonneg_left (by omega) (Int.le_of_lt (Int.pow_pos (by omega)))
    omega

theorem carry_step {X Y out : List Int} {i k : Nat} {cv c2 : Int} (hk : k < X.length + Y.length) (h : CarryInv X Y i k cv out)
    (hc : c2 = cv + out[k]?.getD 0) : CarryInv X Y i (k + 1) (c2 / 1000000000) (out.set k (c2 % 1000000000)) := by
  obtain ⟨hd, hl, h0, h1, hv⟩ := h
  have ho := hd.at_ (by omega) k
  refine ⟨hd.set _ (by omega) (by omega), by simpa using hl, by omega, by omega, ?_⟩
  rw [valB_set _ _ _ _ (by omega), ← hv]
  generalize out[k]?.getD 0 = o at *
  have e1 := Int.emod_add_mul_ediv c2 1000000000
  generalize c2 % 1000000000 = r at *
  generalize c2 / 1000000000 = q at *
  have h2 : (1000000000 : Int) ^ (k + 1) = 1000000000 ^ k * 1000000000 := by grind
  rw [h2]
  generalize (1000000000 : Int) ^ k = p at *
  grind

theorem carry_end {X Y out : List Int} {i k : Nat} (h : CarryInv X Y i k 0 out) : TimesInv X Y (i + 1) out := by
  obtain ⟨hd, hl, h0, h1, hv⟩ := h
  exact ⟨hd, hl, by simpa using hv⟩

theorem times_end {x y : Nat} {out : List Int} (h : TimesInv (lim9 x) (lim9 y) (lim9 x).length out) : Digs 1000000000 out ∧ valB 1000000000 out = ((x * y : Nat) : Int) := by
  obtain ⟨hd, hl, hv⟩ := h
  refine ⟨hd, ?_⟩
  rw [hv, List.take_length, lim9_val, lim9_val]
  simp

set_option maxHeartbeats 2000000 in
theorem times_any (A1 A2 : Option Addr) (c1 c2 x y : Nat) (w : World) (hx : Sl w .u64 A1 c1 (lim9 x)) (hy : Sl w .u64 A2 c2 (lim9 y)) (hlx : (lim9 x).length ≤ 30000) (hly : (lim9 y).length ≤ 30000) :
    Calls Tryd.prog 37 #[.slice A1 (lim9 x).length c1, .slice A2 (lim9 y).length c2] w fun e w' => ∃ A c, e = .returned (.slice A (lim9 (x * y)).length c) ∧ Sl w' .u64 A c (lim9 (x * y)) ∧ Below w.heap.size w w' := by
  obtain ⟨X, hX⟩ : ∃ X : List Int, lim9 x = X := ⟨_, rfl⟩
  obtain ⟨Y, hY⟩ : ∃ Y : List Int, lim9 y = Y := ⟨_, rfl⟩
  have DX : Hid (Digs 1000000000 X) := by rw [← hX]; exact lim9_digs x
  have DY : Hid (Digs 1000000000 Y) := by rw [← hY]; exact lim9_digs y
  rw [hX] at hx hlx ⊢
  rw [hY] at hy hly ⊢
  have HX := Lib.hid hX
  have HY := Lib.hid hY
  clear hX hY
  have hmk := run_mkn Elem64 (X.length + Y.length + 1) (by omega) ((X.length : Int) + Y.length + 1) (by omega)
  have HT0 : Hid (Tab (w.alloc (.cells (zrow .u64 (X.length + Y.length + 1)) 72)) w.heap.size 72 .u64 (List.replicate (X.length + Y.length + 1) 0)) := Tab.made w _ _ _
  go_enter Tryd.func37, Tryd.ntmps37
  go_wp2
  go_loopw [21] (fun i wr => ∃ (j : Nat) (out : List Int), j ≤ X.length ∧ i = .int .i64 j ∧ Tab wr w.heap.size 72 .u64 out ∧ Below w.heap.size w wr ∧ TimesInv X Y j out) (fun i _ => X.length - (intOf i).toNat)
  case atStart => exact ⟨0, _, Nat.zero_le _, rfl, HT0.out, (Below.refl _ _).alloc (Nat.le_refl _) _, times_start X Y⟩
  case round =>
    obtain ⟨j, out, hj, rfl, htab, hbel, hinv⟩ := hrel
    have HI := Lib.hid hinv
    have HT := Lib.hid htab
    have HB := Lib.hid hbel
    have hbs := hbel.size
    clear hinv htab hbel
    by_cases hlt : j < X.length
    · have hx1 := hx.below HB.out
      obtain ⟨bx, ox, rfl, hbx, hcx⟩ := hx1.at_ (by omega)
      have gx := hcx j hlt
      have bx1 := (DX.out.at_ (by omega) j).1
      have bx2 := (DX.out.at_ (by omega) j).2
      clear hcx hx1
      generalize hxx : X[j]?.getD 0 = xx at *
      have HXX := Lib.hid hxx
      clear hxx
      go_wp2
      obtain ⟨wo, hwo⟩ : ∃ wo : World, wo = wr := ⟨_, rfl⟩
      rw [← hwo] at HB HT
      go_loopw [8, 28] (fun cy i wr => ∃ (k : Nat) (cv : Int) (out : List Int), k ≤ Y.length ∧ i = .int .i64 k ∧ cy = .int .u64 cv ∧ Tab wr w.heap.size 72 .u64 out ∧ Below w.heap.size w wr ∧ RowInv X Y j k cv out) (fun _ i _ => Y.length - (intOf i).toNat)
      case atStart => exact ⟨0, 0, out, Nat.zero_le _, rfl, rfl, by rw [← hwo]; exact HT.out, by rw [← hwo]; exact HB.out, row_start HI.out⟩
      case round =>
        clear HT HB HI hwo hbx gx hbs
        obtain ⟨k, cv, out, hk, rfl, rfl, htab, hbel, hinv⟩ := hrel
        have HI := Lib.hid hinv
        have HT := Lib.hid htab
        have HB := Lib.hid hbel
        have hbs := hbel.size
        clear hinv htab hbel
        have hcv0 := HI.out.2.2.1
        have hcv1 := HI.out.2.2.2.1
        by_cases hlk : k < Y.length
        · have hy1 := hy.below HB.out
          obtain ⟨by_, oy, rfl, hby, hcy⟩ := hy1.at_ (by omega)
          have gy := hcy k hlk
          clear hcy hy1
          have by1 := (DY.out.at_ (by omega) k).1
          have by2 := (DY.out.at_ (by omega) k).2
          have bo1 := (HI.out.1.at_ (by omega) (j + k)).1
          have bo2 := (HI.out.1.at_ (by omega) (j + k)).2
          have go := HT.out.cell (j + k) (by have := HI.out.2.1; omega)
          have gf := HT.out.frozen (j + k)
          have HS := Lib.hid (row_step hlt hlk DX.out DY.out HI.out rfl)
          rw [HXX.out] at HS
          generalize hyy : Y[k]?.getD 0 = yy at *
          generalize hoo : out[j + k]?.getD 0 = oo at *
          clear hyy hoo
          have bm := mul_piece bx1 bx2 by1 by2
          have bm1 := bm.1
          have bm2 := bm.2
          clear bm
          go_wp2
          go_roundw
          case rel => exact ⟨k + 1, _, _, by omega, by go_num, rfl, HT.out.set _ _, HB.out.setCell (Nat.le_refl _) _, HS.out⟩
          case measure => simp [intOf]; omega
        · obtain rfl : k = Y.length := by omega
          have hC := Lib.hid (row_end hlt HI.out)
          clear HI
          obtain ⟨K, hK⟩ : ∃ K, K = j + Y.length := ⟨_, rfl⟩
          have eK : ((j : Int) + (Y.length : Int)) = (K : Int) := by omega
          have HK := Lib.hid hK
          clear hK hy
          go_wp2
          clear eK
          obtain ⟨wo, hwo⟩ : ∃ wo : World, wo = wr := ⟨_, rfl⟩
          rw [← hwo] at HB HT
          go_loopw [8, 11] (fun cy i wr => ∃ (k : Nat) (cv : Int) (out : List Int), k ≤ X.length + Y.length + 1 ∧ i = .int .i64 k ∧ cy = .int .u64 cv ∧ Tab wr w.heap.size 72 .u64 out ∧ Below w.heap.size w wr ∧ CarryInv X Y j k cv out) (fun _ i _ => X.length + Y.length + 1 - (intOf i).toNat)
          case atStart => exact ⟨K, cv, out, by have := HK.out; omega, rfl, rfl, by rw [← hwo]; exact HT.out, by rw [← hwo]; exact HB.out, by rw [HK.out]; exact hC.out⟩
          case round =>
            clear HT HB hwo hbs hC hcv0 hcv1 HK
            obtain ⟨k, cv, out, hk, rfl, rfl, htab, hbel, hinv⟩ := hrel
            have HI := Lib.hid hinv
            have HT := Lib.hid htab
            have HB := Lib.hid hbel
            have hbs := hbel.size
            clear hinv htab hbel
            have hcv0 := HI.out.2.2.1
            have hcv1 := HI.out.2.2.2.1
            by_cases hc0 : 0 < cv
            · have hroom := carry_room hlt DX.out DY.out HI.out hc0
              have bo1 := (HI.out.1.at_ (by omega) k).1
              have bo2 := (HI.out.1.at_ (by omega) k).2
              have hol : Hid (out.length = X.length + Y.length + 1) := HI.out.2.1
              have go := HT.out.cell k (by have := hol.out; omega)
              have gf := HT.out.frozen k
              have HS := Lib.hid (carry_step hroom HI.out rfl)
              generalize hoo : out[k]?.getD 0 = oo at *
              clear hoo
              go_wp2
              go_roundw
              case rel => exact ⟨k + 1, _, _, by omega, by go_num, rfl, HT.out.set _ _, HB.out.setCell (Nat.le_refl _) _, HS.out⟩
              case measure => simp [intOf]; omega
            · obtain rfl : cv = 0 := by omega
              have HE := Lib.hid (carry_end HI.out)
              go_wp2
              go_roundw
              case rel => exact ⟨j + 1, out, by omega, by go_num, HT.out, HB.out, HE.out⟩
              case measure => simp [intOf]; omega
    · obtain rfl : j = X.length := by omega
      have HE : Hid (Digs 1000000000 out ∧ valB 1000000000 out = ((x * y : Nat) : Int)) := by
        have hX := HX.out
        have hY := HY.out
        subst hX hY
        exact times_end HI.out
      have HL : Hid (out.length = X.length + Y.length + 1) := HI.out.2.1
      clear hx hy
      go_wp2_with (go_at_call 62; refine (trim_to _ _ _ (x * y) out _ (HT.out.slN HL.out (by omega)) HL.out (by omega) HE.out.1 HE.out.2).mono ?_; rintro e w'' ⟨rfl, rfl⟩)
      go_ret
      exact ⟨_, _, rfl, (HT.out.slN HL.out (by omega)).to9 HE.out.1 HE.out.2, HB.out⟩

end Go.Proofs.YtmkeigfckfkifaaDoor
