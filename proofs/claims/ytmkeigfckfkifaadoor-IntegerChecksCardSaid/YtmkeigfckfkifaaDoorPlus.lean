/- The walk of integer.plus: the sum of two magnitudes. -/
import Derived.Test.YtmkeigfckfkifaaDoorTrim
import Derived.Handy
namespace Go.Proofs.YtmkeigfckfkifaaDoor
open Go.RowKit

def PlusInv (X Y : List Int) (j : Nat) (cv : Int) (out : List Int) : Prop :=
  Digs 1000000000 out ∧ valB 1000000000 out + 1000000000 ^ j * cv = valB 1000000000 (X.take j) + valB 1000000000 (Y.take j)

theorem plus_start (X Y : List Int) : PlusInv X Y 0 0 [] := ⟨Digs.nil, by simp [valB]⟩

theorem valB_take_succ (B : Int) (l : List Int) (j : Nat) (hj : j < l.length) : valB B (l.take (j + 1)) = valB B (l.take j) + B ^ j * l[j]?.getD 0 := by
  rw [take_succ_getD l j hj, valB_snoc, List.length_take, Nat.min_eq_left (by omega)]

theorem valB_take_past (B : Int) (l : List Int) (j : Nat) (hj : l.length ≤ j) : valB B (l.take j) = valB B l := by
  rw [List.take_of_length_le hj]

theorem plus_step1 {X Y out : List Int} {j : Nat} {cv : Int} (hj : j < X.length) (hy : j < Y.length) (hl : out.length = j) (h : PlusInv X Y j cv out) :
    PlusInv X Y (j + 1) ((cv + X[j]?.getD 0 + Y[j]?.getD 0) / 1000000000) (out ++ [(cv + X[j]?.getD 0 + Y[j]?.getD 0) % 1000000000]) := by
  obtain ⟨hd, hv⟩ := h
  refine ⟨hd.snoc (by omega) (by omega), ?_⟩
  rw [valB_snoc, hl, valB_take_succ _ X j hj, valB_take_succ _ Y j hy]
  generalize X[j]?.getD 0 = x at *
  generalize Y[j]?.getD 0 = y at *
  have h1 := Int.emod_add_mul_ediv (cv + x + y) 1000000000
  generalize (cv + x + y) % 1000000000 = r at *
  generalize (cv + x + y) / 1000000000 = q at *
  have h2 : (1000000000 : Int) ^ (j + 1) = 1000000000 ^ j * 1000000000 := by grind
  rw [h2]
  generalize (1000000000 : Int) ^ j = p at *
  grind

theorem plus_step2 {X Y out : List Int} {j : Nat} {cv : Int} (hj : j < X.length) (hy : Y.length ≤ j) (hl : out.length = j) (h : PlusInv X Y j cv out) :
    PlusInv X Y (j + 1) ((cv + X[j]?.getD 0) / 1000000000) (out ++ [(cv + X[j]?.getD 0) % 1000000000]) := by
  obtain ⟨hd, hv⟩ := h
  refine ⟨hd.snoc (by omega) (by omega), ?_⟩
  rw [valB_take_past _ Y j hy] at hv
  rw [valB_snoc, hl, valB_take_succ _ X j hj, valB_take_past _ Y (j + 1) (by omega)]
  generalize X[j]?.getD 0 = x at *
  have h1 := Int.emod_add_mul_ediv (cv + x) 1000000000
  generalize (cv + x) % 1000000000 = r at *
  generalize (cv + x) / 1000000000 = q at *
  have h2 : (1000000000 : Int) ^ (j + 1) = 1000000000 ^ j * 1000000000 := by grind
  rw [h2]
  generalize (1000000000 : Int) ^ j = p at *
  grind

theorem plus_end {a b : Nat} {out : List Int} {cv : Int} (hab : (lim9 b).length ≤ (lim9 a).length) (hl : out.length = (lim9 a).length) (h : PlusInv (lim9 a) (lim9 b) (lim9 a).length cv out) (h0 : 0 ≤ cv) (h1 : cv ≤ 1) :
    Digs 1000000000 (out ++ [cv]) ∧ valB 1000000000 (out ++ [cv]) = ((a + b : Nat) : Int) := by
  obtain ⟨hd, hv⟩ := h
  refine ⟨hd.snoc h0 (by omega), ?_⟩
  rw [valB_snoc, hl, hv, valB_take_past _ _ _ (Nat.le_refl _), valB_take_past _ _ _ hab, lim9_val, lim9_val]
  omega

set_option maxHeartbeats 1000000 in
theorem plus_ge (A1 A2 : Option Addr) (c1 c2 x y : Nat) (w : World) (hx : Sl w .u64 A1 c1 (lim9 x)) (hy : Sl w .u64 A2 c2 (lim9 y)) (hlx : (lim9 x).length ≤ 65000) (hxy : ¬ (lim9 x).length < (lim9 y).length) :
    Calls Tryd.prog 48 #[.slice A1 (lim9 x).length c1, .slice A2 (lim9 y).length c2] w fun e w' => ∃ A c, e = .returned (.slice A (lim9 (x + y)).length c) ∧ Sl w' .u64 A c (lim9 (x + y)) ∧ Below w.heap.size w w' := by
  have hle : (lim9 y).length ≤ (lim9 x).length := by omega
  obtain ⟨X, hX⟩ : ∃ X : List Int, lim9 x = X := ⟨_, rfl⟩
  obtain ⟨Y, hY⟩ : ∃ Y : List Int, lim9 y = Y := ⟨_, rfl⟩
  have bX : ∀ j : Nat, 0 ≤ X[j]?.getD 0 ∧ X[j]?.getD 0 < 1000000000 := fun j => by rw [← hX]; exact at9 x j
  have bY : ∀ j : Nat, 0 ≤ Y[j]?.getD 0 ∧ Y[j]?.getD 0 < 1000000000 := fun j => by rw [← hY]; exact at9 y j
  have BX := Lib.hid bX
  have BY := Lib.hid bY
  rw [hX] at hx hlx hxy hle ⊢
  rw [hY] at hy hxy hle ⊢
  have HX := Lib.hid hX
  have HY := Lib.hid hY
  clear hX hY bX bY
  have hmk := run_mk0 Elem64 (X.length + 1) (by omega) ((X.length : Int) + 1) (by omega)
  have hown0 : Own (w.alloc (.cells (zrow .u64 (X.length + 1)) 72)) w.heap.size 72 .u64 (some ⟨w.heap.size, 0, none⟩) 0 (X.length + 1) [] := Own.made w (Nat.le_refl _) (by simp only [maxLen]; omega)
  go_enter Tryd.func48, Tryd.ntmps48
  go_wp2
  go_loopw [5, 6, 22] (fun v cy i wr => ∃ (j : Nat) (cv : Int) (out : List Int) (Ao : Option Addr) (co : Nat), j ≤ X.length ∧ i = .int .i64 j ∧ cy = .int .u64 cv ∧ v = .slice Ao j co ∧ 0 ≤ cv ∧ cv ≤ 1 ∧
      Own wr w.heap.size 72 .u64 Ao j co out ∧ Below w.heap.size w wr ∧ PlusInv X Y j cv out) (fun _ _ i _ => X.length - (intOf i).toNat)
  case atStart => exact ⟨0, 0, [], _, _, Nat.zero_le _, rfl, rfl, rfl, by omega, by omega, hown0, (Below.refl _ _).alloc (Nat.le_refl _) _, plus_start X Y⟩
  case round =>
    obtain ⟨j, cv, out, Ao, co, hj, rfl, rfl, rfl, h0, h1, hown, hbel, hinv⟩ := hrel
    have HI := Lib.hid hinv
    have HO := Lib.hid hown
    have HB := Lib.hid hbel
    have hbs := hbel.size
    clear hinv hown hbel hown0
    by_cases hlt : j < X.length
    · have hx1 := hx.below HB.out
      have hy1 := hy.below HB.out
      obtain ⟨bx, ox, rfl, hbx, hcx⟩ := hx1.at_ (by omega)
      have gx := hcx j hlt
      have bx1 := (BX.out j).1
      have bx2 := (BX.out j).2
      have by1 := (BY.out j).1
      have by2 := (BY.out j).2
      clear hcx hx1
      by_cases hly : j < Y.length
      · obtain ⟨by_, oy, rfl, hby, hcy⟩ := hy1.at_ (by omega)
        have gy := hcy j hly
        clear hcy hy1
        have HS := Lib.hid (plus_step1 hlt hly HO.out.len HI.out)
        generalize hxx : X[j]?.getD 0 = xx at *
        generalize hyy : Y[j]?.getD 0 = yy at *
        clear hxx hyy hx hy
        go_wp2_with (at_builtin; refine push64 rfl (.tmp 40) (.tmp 43) rfl w.heap.size Ao j co out wr rfl HO.out ((cv + xx + yy) % 1000000000) rfl (by omega) hbs ?_; intro A' c' w' hown' hg'; have HO' := Lib.hid hown'; have HG' := Lib.hid hg'; clear hown' hg')
        go_roundw
        case rel => exact ⟨j + 1, _, _, A', c', by omega, by go_num, rfl, rfl, by omega, by omega, HO'.out, HO.out.grownBelow HG'.out HB.out (Nat.le_refl _) hbs, HS.out⟩
        case measure => simp [intOf]; omega
      · have HS := Lib.hid (plus_step2 hlt (by omega) HO.out.len HI.out)
        generalize hxx : X[j]?.getD 0 = xx at *
        clear hxx hx hy hy1
        go_wp2_with (at_builtin; refine push64 rfl (.tmp 40) (.tmp 43) rfl w.heap.size Ao j co out wr rfl HO.out ((cv + xx) % 1000000000) rfl (by omega) hbs ?_; intro A' c' w' hown' hg'; have HO' := Lib.hid hown'; have HG' := Lib.hid hg'; clear hown' hg')
        go_roundw
        case rel => exact ⟨j + 1, _, _, A', c', by omega, by go_num, rfl, rfl, by omega, by omega, HO'.out, HO.out.grownBelow HG'.out HB.out (Nat.le_refl _) hbs, HS.out⟩
        case measure => simp [intOf]; omega
    · obtain rfl : j = X.length := by omega
      have HE : Hid (Digs 1000000000 (out ++ [cv]) ∧ valB 1000000000 (out ++ [cv]) = ((x + y : Nat) : Int)) := by
        have hX := HX.out
        have hY := HY.out
        subst hX hY
        exact plus_end hle HO.out.len HI.out h0 h1
      clear hx hy
      go_wp2_with (first
        | (at_builtin; refine push64 rfl (.tmp 48) (.tmp 50) rfl w.heap.size Ao X.length co out wr rfl HO.out cv rfl (by omega) hbs ?_; intro A' c' w' hown' hg'; have HO' := Lib.hid hown'; have HG' := Lib.hid hg'; clear hown' hg')
        | (go_at_call 62; refine (trim_to A' c' _ (x + y) _ _ HO'.out.sl HO'.out.len (by omega) HE.out.1 HE.out.2).mono ?_; rintro e w'' ⟨rfl, rfl⟩))
      go_ret
      exact ⟨A', c', rfl, HO'.out.sl.to9 HE.out.1 HE.out.2, HO.out.grownBelow HG'.out HB.out (Nat.le_refl _) hbs⟩

set_option maxHeartbeats 1000000 in
theorem plus_lt (A1 A2 : Option Addr) (c1 c2 x y : Nat) (w : World) (hx : Sl w .u64 A1 c1 (lim9 x)) (hy : Sl w .u64 A2 c2 (lim9 y)) (hlx : (lim9 x).length ≤ 65000) (hxy : (lim9 y).length < (lim9 x).length) :
    Calls Tryd.prog 48 #[.slice A2 (lim9 y).length c2, .slice A1 (lim9 x).length c1] w fun e w' => ∃ A c, e = .returned (.slice A (lim9 (x + y)).length c) ∧ Sl w' .u64 A c (lim9 (x + y)) ∧ Below w.heap.size w w' := by
  have hle : (lim9 y).length ≤ (lim9 x).length := by omega
  obtain ⟨X, hX⟩ : ∃ X : List Int, lim9 x = X := ⟨_, rfl⟩
  obtain ⟨Y, hY⟩ : ∃ Y : List Int, lim9 y = Y := ⟨_, rfl⟩
  have bX : ∀ j : Nat, 0 ≤ X[j]?.getD 0 ∧ X[j]?.getD 0 < 1000000000 := fun j => by rw [← hX]; exact at9 x j
  have bY : ∀ j : Nat, 0 ≤ Y[j]?.getD 0 ∧ Y[j]?.getD 0 < 1000000000 := fun j => by rw [← hY]; exact at9 y j
  have BX := Lib.hid bX
  have BY := Lib.hid bY
  rw [hX] at hx hlx hxy hle ⊢
  rw [hY] at hy hxy hle ⊢
  have HX := Lib.hid hX
  have HY := Lib.hid hY
  clear hX hY bX bY
  have hmk := run_mk0 Elem64 (X.length + 1) (by omega) ((X.length : Int) + 1) (by omega)
  have hown0 : Own (w.alloc (.cells (zrow .u64 (X.length + 1)) 72)) w.heap.size 72 .u64 (some ⟨w.heap.size, 0, none⟩) 0 (X.length + 1) [] := Own.made w (Nat.le_refl _) (by simp only [maxLen]; omega)
  go_enter Tryd.func48, Tryd.ntmps48
  go_wp2
  go_loopw [5, 6, 22] (fun v cy i wr => ∃ (j : Nat) (cv : Int) (out : List Int) (Ao : Option Addr) (co : Nat), j ≤ X.length ∧ i = .int .i64 j ∧ cy = .int .u64 cv ∧ v = .slice Ao j co ∧ 0 ≤ cv ∧ cv ≤ 1 ∧
      Own wr w.heap.size 72 .u64 Ao j co out ∧ Below w.heap.size w wr ∧ PlusInv X Y j cv out) (fun _ _ i _ => X.length - (intOf i).toNat)
  case atStart => exact ⟨0, 0, [], _, _, Nat.zero_le _, rfl, rfl, rfl, by omega, by omega, hown0, (Below.refl _ _).alloc (Nat.le_refl _) _, plus_start X Y⟩
  case round =>
    obtain ⟨j, cv, out, Ao, co, hj, rfl, rfl, rfl, h0, h1, hown, hbel, hinv⟩ := hrel
    have HI := Lib.hid hinv
    have HO := Lib.hid hown
    have HB := Lib.hid hbel
    have hbs := hbel.size
    clear hinv hown hbel hown0
    by_cases hlt : j < X.length
    · have hx1 := hx.below HB.out
      have hy1 := hy.below HB.out
      obtain ⟨bx, ox, rfl, hbx, hcx⟩ := hx1.at_ (by omega)
      have gx := hcx j hlt
      have bx1 := (BX.out j).1
      have bx2 := (BX.out j).2
      have by1 := (BY.out j).1
      have by2 := (BY.out j).2
      clear hcx hx1
      by_cases hly : j < Y.length
      · obtain ⟨by_, oy, rfl, hby, hcy⟩ := hy1.at_ (by omega)
        have gy := hcy j hly
        clear hcy hy1
        have HS := Lib.hid (plus_step1 hlt hly HO.out.len HI.out)
        generalize hxx : X[j]?.getD 0 = xx at *
        generalize hyy : Y[j]?.getD 0 = yy at *
        clear hxx hyy hx hy
        go_wp2_with (at_builtin; refine push64 rfl (.tmp 40) (.tmp 43) rfl w.heap.size Ao j co out wr rfl HO.out ((cv + xx + yy) % 1000000000) rfl (by omega) hbs ?_; intro A' c' w' hown' hg'; have HO' := Lib.hid hown'; have HG' := Lib.hid hg'; clear hown' hg')
        go_roundw
        case rel => exact ⟨j + 1, _, _, A', c', by omega, by go_num, rfl, rfl, by omega, by omega, HO'.out, HO.out.grownBelow HG'.out HB.out (Nat.le_refl _) hbs, HS.out⟩
        case measure => simp [intOf]; omega
      · have HS := Lib.hid (plus_step2 hlt (by omega) HO.out.len HI.out)
        generalize hxx : X[j]?.getD 0 = xx at *
        clear hxx hx hy hy1
        go_wp2_with (at_builtin; refine push64 rfl (.tmp 40) (.tmp 43) rfl w.heap.size Ao j co out wr rfl HO.out ((cv + xx) % 1000000000) rfl (by omega) hbs ?_; intro A' c' w' hown' hg'; have HO' := Lib.hid hown'; have HG' := Lib.hid hg'; clear hown' hg')
        go_roundw
        case rel => exact ⟨j + 1, _, _, A', c', by omega, by go_num, rfl, rfl, by omega, by omega, HO'.out, HO.out.grownBelow HG'.out HB.out (Nat.le_refl _) hbs, HS.out⟩
        case measure => simp [intOf]; omega
    · obtain rfl : j = X.length := by omega
      have HE : Hid (Digs 1000000000 (out ++ [cv]) ∧ valB 1000000000 (out ++ [cv]) = ((x + y : Nat) : Int)) := by
        have hX := HX.out
        have hY := HY.out
        subst hX hY
        exact plus_end hle HO.out.len HI.out h0 h1
      clear hx hy
      go_wp2_with (first
        | (at_builtin; refine push64 rfl (.tmp 48) (.tmp 50) rfl w.heap.size Ao X.length co out wr rfl HO.out cv rfl (by omega) hbs ?_; intro A' c' w' hown' hg'; have HO' := Lib.hid hown'; have HG' := Lib.hid hg'; clear hown' hg')
        | (go_at_call 62; refine (trim_to A' c' _ (x + y) _ _ HO'.out.sl HO'.out.len (by omega) HE.out.1 HE.out.2).mono ?_; rintro e w'' ⟨rfl, rfl⟩))
      go_ret
      exact ⟨A', c', rfl, HO'.out.sl.to9 HE.out.1 HE.out.2, HO.out.grownBelow HG'.out HB.out (Nat.le_refl _) hbs⟩

theorem plus_any (A A' : Option Addr) (c c' a b : Nat) (w : World) (ha : Sl w .u64 A c (lim9 a)) (hb : Sl w .u64 A' c' (lim9 b)) (hla : (lim9 a).length ≤ 65000) (hlb : (lim9 b).length ≤ 65000) :
    Calls Tryd.prog 48 #[.slice A (lim9 a).length c, .slice A' (lim9 b).length c'] w fun e w' => ∃ A c, e = .returned (.slice A (lim9 (a + b)).length c) ∧ Sl w' .u64 A c (lim9 (a + b)) ∧ Below w.heap.size w w' := by
  by_cases h : (lim9 a).length < (lim9 b).length
  · rw [Nat.add_comm a b]
    exact plus_lt A' A c' c b a w hb ha hlb h
  · exact plus_ge A A' c c' a b w ha hb hla h

end Go.Proofs.YtmkeigfckfkifaaDoor
