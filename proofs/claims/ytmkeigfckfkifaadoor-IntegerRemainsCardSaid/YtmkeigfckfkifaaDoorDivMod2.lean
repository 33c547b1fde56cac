/- The walk of integer.DivMod where the dividend is negative and leaves a remainder; and DivMod as a whole. -/
import Derived.Test.YtmkeigfckfkifaaDoorDivMod
import Derived.Test.YtmkeigfckfkifaaDoorRoot
namespace Go.Proofs.YtmkeigfckfkifaaDoor
open Go.RowKit Go.Shelf

theorem lim9_unit : lim9 1 = [1] := lim9_one 1 (by omega) (by omega)

/-- Quotient and remainder of a negative dividend that leaves a remainder, out of those of the magnitudes. -/
theorem div_hard (a b : Int) (hb : b ≠ 0) (ha : a < 0) (hm : a.natAbs % b.natAbs ≠ 0) :
    (if (!decide (b < 0)) = true then -((a.natAbs / b.natAbs + 1 : Nat) : Int) else ((a.natAbs / b.natAbs + 1 : Nat) : Int)) = a / b ∧ ((b.natAbs - a.natAbs % b.natAbs : Nat) : Int) = a % b := by
  have hx := Nat.div_add_mod a.natAbs b.natAbs
  have hy : 0 < b.natAbs := by omega
  have hl := Nat.mod_lt a.natAbs hy
  obtain ⟨y, hyb⟩ : ∃ y, b.natAbs = y := ⟨_, rfl⟩
  obtain ⟨x, hxa⟩ : ∃ x, a.natAbs = x := ⟨_, rfl⟩
  rw [hyb, hxa] at hx hl hm
  rw [hyb] at hy
  rw [hyb, hxa]
  have key : a / (y : Int) = -((x / y + 1 : Nat) : Int) ∧ a % (y : Int) = ((y - x % y : Nat) : Int) := by
    refine (Int.ediv_emod_unique (by omega)).2 ⟨?_, by omega, by omega⟩
    generalize x / y = q at *
    generalize x % y = r at *
    have e : (y : Int) * (q : Int) + (r : Int) = (x : Int) := by rw [← hx]; simp
    rw [Int.mul_neg, Int.natCast_add, Int.mul_add]
    generalize (y : Int) * (q : Int) = p at *
    omega
  by_cases hb0 : b < 0
  · have hbe : b = -(y : Int) := by omega
    rw [hbe, Int.ediv_neg, Int.emod_neg, key.1, key.2]
    have hny : decide (-(y : Int) < 0) = true := decide_eq_true (by omega)
    rw [hny]
    simp
  · have hbe : b = (y : Int) := by omega
    rw [hbe, key.1, key.2]
    have hny : decide ((y : Int) < 0) = false := decide_eq_false (by omega)
    rw [hny]
    simp

set_option maxRecDepth 100000 in
set_option maxHeartbeats 4000000 in
theorem divmod_hard (a b : Int) (w : World) (ht : Pow10 w) (ha : (canon a).size ≤ 20000) (hb : (canon b).size ≤ 20000) (hb0 : b ≠ 0) (ha0 : a < 0) (hm : a.natAbs % b.natAbs ≠ 0) :
    Calls Tryd.prog 25 #[.string (canon a), .string (canon b)] w fun e w' => e = .returned (.tuple #[.string (canon (a / b)), .string (canon (a % b)), .int .i64 0]) ∧ Below w.heap.size w w' := by
  have hz : ((canon b).toList == [48]) = false := by rw [canon_beq0]; simp [hb0]
  have hla := lim9_len_digits a 20000 ha
  have hlb := lim9_len_digits b 20000 hb
  have o1 := fun W => open_any a W (Nat.le_trans (mag_le a 20000 ha) (by omega))
  have o2 := fun W => open_any b W (Nat.le_trans (mag_le b 20000 hb) (by omega))
  obtain ⟨hd1, hd2⟩ := div_hard a b hb0 ha0 hm
  have hyp : 0 < b.natAbs := by omega
  have hsa : decide (a < 0) = true := decide_eq_true ha0
  generalize a / b = qz at *
  generalize a % b = rz at *
  generalize decide (b < 0) = sb at *
  generalize a.natAbs = x at *
  generalize b.natAbs = y at *
  rw [hsa] at o1
  have hml := Nat.mod_lt x hyp
  have hpos : 0 < (lim9 (x % y)).length := by
    rcases Nat.eq_zero_or_pos (lim9 (x % y)).length with h | h
    · have h1 : x % y < 1000000000 ^ (lim9 (x % y)).length := lim_lt_pow 1000000000 (by omega) (x % y)
      rw [h, Nat.pow_zero] at h1
      omega
    · exact h
  have hl1 : decide ((0 : Int) < ((lim9 (x % y)).length : Int)) = true := decide_eq_true (by omega)
  have hl2 : decide (0 < (lim9 (x % y)).length) = true := decide_eq_true hpos
  have hql1 : (lim9 (x / y + 1)).length ≤ 20001 := by
    have h1 : x / y < 1000000000 ^ (lim9 (x / y)).length := lim_lt_pow 1000000000 (by omega) (x / y)
    have h2 : (lim9 (x / y)).length ≤ 20000 := Nat.le_trans (lim_len_mono 1000000000 (by omega) _ _ (Nat.div_le_self x y)) hla
    have h3 : (lim9 (x / y + 1)).length ≤ (lim9 (x / y)).length + 1 := by
      refine lim_len_le 1000000000 (by omega) _ _ ?_
      rw [Nat.pow_succ]
      generalize x / y = q at *
      omega
    omega
  have hrl1 : (lim9 (y - x % y)).length ≤ 20000 := Nat.le_trans (lim_len_mono 1000000000 (by omega) _ _ (Nat.sub_le y _)) hlb
  have hql : (lim9 (x / y)).length ≤ 20000 := Nat.le_trans (lim_len_mono 1000000000 (by omega) _ _ (Nat.div_le_self x y)) hla
  have hrl : (lim9 (x % y)).length ≤ 20000 := Nat.le_trans (lim_len_mono 1000000000 (by omega) _ _ (Nat.mod_le x y)) hla
  have O1 := Lib.hid o1
  have O2 := Lib.hid o2
  have HD1 := Lib.hid hd1
  have HD2 := Lib.hid hd2
  have HT := Lib.hid ht
  clear o1 o2 hd1 hd2 ha hb hb0 ha0 hsa hm ht
  go_enter Tryd.func25, Tryd.ntmps25
  go_upto_region 4 with (first
    | (go_at_call_of 36 (Value.string (canon a)); refine (O1.out _).mono ?_; rintro e w2 ⟨A1, c1, rfl, h3, h4⟩; have S1 := Lib.hid h3; have H4 := Lib.hid h4; clear h3 h4)
    | (go_at_call_of 36 (Value.string (canon b)); refine (O2.out _).mono ?_; rintro e w3 ⟨A2, c2, rfl, h5, h6⟩; have S2 := Lib.hid h5; have H6 := Lib.hid h6; clear h5 h6))
  obtain ⟨g, hg⟩ : ∃ g, w3.heap.size = g := ⟨_, rfl⟩
  have x1 := heap_alloc_new w3 (Obj.cells #[Value.bool true, Value.slice A1 (lim9 x).length c1] 56)
  have x2 := heap_alloc_new (w3.alloc (Obj.cells #[Value.bool true, Value.slice A1 (lim9 x).length c1] 56)) (Obj.cells #[Value.bool sb, Value.slice A2 (lim9 y).length c2] 56)
  have x3 := heap_more x1 (Obj.cells #[Value.bool sb, Value.slice A2 (lim9 y).length c2] 56)
  have x4 : Below w3.heap.size w3 ((w3.alloc (Obj.cells #[Value.bool true, Value.slice A1 (lim9 x).length c1] 56)).alloc (Obj.cells #[Value.bool sb, Value.slice A2 (lim9 y).length c2] 56)) := ((Below.refl _ _).alloc (Nat.le_refl _) _).alloc (by simp) _
  have x5 : ((w3.alloc (Obj.cells #[Value.bool true, Value.slice A1 (lim9 x).length c1] 56)).alloc (Obj.cells #[Value.bool sb, Value.slice A2 (lim9 y).length c2] 56)).heap.size = g + 2 := by rw [World.size_alloc, World.size_alloc, hg]
  rw [World.size_alloc] at x2
  rw [hg] at x1 x2 x3 ⊢
  generalize (w3.alloc (Obj.cells #[Value.bool true, Value.slice A1 (lim9 x).length c1] 56)).alloc (Obj.cells #[Value.bool sb, Value.slice A2 (lim9 y).length c2] 56) = W4 at *
  have c0 : W4.cell? ⟨g, 0, none⟩ = some (.bool true) := by rw [Lib.cell_of_heap x3]; rfl
  have c1' : W4.cell? ⟨g, 1, none⟩ = some (.slice A1 (lim9 x).length c1) := by rw [Lib.cell_of_heap x3]; rfl
  have c2' : W4.cell? ⟨g + 1, 0, none⟩ = some (.bool sb) := by rw [Lib.cell_of_heap x2]; rfl
  have c3 : W4.cell? ⟨g + 1, 1, none⟩ = some (.slice A2 (lim9 y).length c2) := by rw [Lib.cell_of_heap x2]; rfl
  have s1 := (S1.out.below H6.out).below x4
  have s2 := S2.out.below x4
  have hbw := (H4.out.trans (H6.out.mono H4.out.size)).trans (x4.mono (Nat.le_trans H4.out.size H6.out.size))
  have hdv := divide_any A1 A2 c1 c2 x y W4 s1 s2 hla hlb hyp
  have hg4 : g < W4.heap.size := by omega
  have hg5 : g + 1 < W4.heap.size := by omega
  have hc1 := fun A c W (hs : Sl W .u64 A c (lim9 (x / y + 1))) (hW : Below w.heap.size w W) => close_any (!sb) A c (x / y + 1) W hs (by omega) (HT.out.below hW)
  have hc2 := fun A c W (hs : Sl W .u64 A c (lim9 (y - x % y))) (hW : Below w.heap.size w W) => close_any false A c (y - x % y) W hs (by omega) (HT.out.below hW)
  rw [HD1.out] at hc1
  rw [if_neg (by simp), HD2.out] at hc2
  have HDV := Lib.hid hdv
  have HC1 := Lib.hid hc1
  have HC2 := Lib.hid hc2
  have HBW := Lib.hid hbw
  have T2 := Lib.hid s2
  clear hdv hc1 hc2 hbw x1 x2 x3 x4 x5 s1 s2 hg HD1 HD2
  go_upto_region 6 with (go_at_call 47; refine HDV.out.mono ?_; rintro e w5 ⟨A5, c5, A6, c6, rfl, h7, h8, h9⟩; have d0 := (h9.cell (p := ⟨g, 0, none⟩) hg4).trans c0; have d2 := (h9.cell (p := ⟨g + 1, 0, none⟩) hg5).trans c2'; have d3 := (h9.cell (p := ⟨g + 1, 1, none⟩) hg5).trans c3; have S5 := Lib.hid h7; have S6 := Lib.hid h8; have U2 := Lib.hid (T2.out.below h9); have q5 := h9.size; have H9 := Lib.hid (HBW.out.trans (h9.mono HBW.out.size)); clear h7 h8 h9)
  have hg4 : g < w5.heap.size := by omega
  have hg5 : g + 1 < w5.heap.size := by omega
  have hpl := fun W (hW : Below w5.heap.size w5 W) (hc : W.cell? ⟨w5.heap.size, 0, none⟩ = some (.int .u64 1)) (hz : w5.heap.size < W.heap.size) => plus_any A5 (some ⟨w5.heap.size, 0, none⟩) c5 1 (x / y) 1 W (S5.out.below hW)
    (by rw [lim9_unit]; exact sl_one hc hz) (by omega) (by rw [lim9_unit]; simp)
  rw [show (lim9 1).length = 1 by rw [lim9_unit]; rfl] at hpl
  have hmi := fun W (hW : Below w5.heap.size w5 W) => minus_any A2 A6 c2 c6 y (x % y) W (U2.out.below hW) (S6.out.below hW) (by omega) (by omega)
  obtain ⟨W6, hW6⟩ : ∃ W6, w5.alloc (.cells #[.int .u64 1] 72) = W6 := ⟨_, rfl⟩
  have ka : Below w5.heap.size w5 W6 := by rw [← hW6]; exact (Below.refl _ _).alloc (Nat.le_refl _) _
  have kc : W6.cell? ⟨w5.heap.size, 0, none⟩ = some (.int .u64 1) := by rw [← hW6, Lib.cell_of_heap (heap_alloc_new w5 _)]; rfl
  have kz : w5.heap.size < W6.heap.size := by rw [← hW6, World.size_alloc]; omega
  have k1 : W6.cell? ⟨g + 1, 1, none⟩ = some (.slice A2 (lim9 y).length c2) := (ka.cell (p := ⟨g + 1, 1, none⟩) hg5).trans d3
  have KA := Lib.hid ka
  have KC := Lib.hid kc
  have HPL := Lib.hid hpl
  have HMI := Lib.hid hmi
  have HW6 := Lib.hid hW6
  clear hpl hmi ka kc hW6
  go_region_with (first
    | (go_at_call 48; rw [HW6.out]; (with_reducible refine (HPL.out _ ?_ ?_ ?_).mono ?_); (first | exact KA.out | exact KA.out.drew); exact KC.out; exact kz; rintro e w6 ⟨A7, c7, rfl, h1, h2⟩; have f0 := (h2.cell (p := ⟨g, 0, none⟩) (Nat.lt_trans hg4 kz)).trans ((KA.out.cell (p := ⟨g, 0, none⟩) hg4).trans d0); have f2 := (h2.cell (p := ⟨g + 1, 0, none⟩) (Nat.lt_trans hg5 kz)).trans ((KA.out.cell (p := ⟨g + 1, 0, none⟩) hg5).trans d2); have f3 := (h2.cell (p := ⟨g + 1, 1, none⟩) (Nat.lt_trans hg5 kz)).trans k1; have F1 := Lib.hid h1; have q6 := Nat.lt_of_lt_of_le kz h2.size; have F2 := Lib.hid (KA.out.drew.trans (h2.mono (Nat.le_of_lt kz))); clear h1 h2)
    | (go_at_call 50; (with_reducible refine (HMI.out _ F2.out).mono ?_); rintro e w7 ⟨A8, c8, rfl, h1, h2⟩; have g0 := (h2.cell (p := ⟨g, 0, none⟩) (Nat.lt_trans hg4 q6)).trans f0; have g2 := (h2.cell (p := ⟨g + 1, 0, none⟩) (Nat.lt_trans hg5 q6)).trans f2; have G1 := Lib.hid (F1.out.below h2); have G3 := Lib.hid h1; have G2 := Lib.hid (H9.out.trans ((F2.out.trans (h2.mono (Nat.le_of_lt q6))).mono H9.out.size)); clear h1 h2)
    | fail "arm")
  all_goals
    go_wp2_with (first
      | (go_at_call_of 38 A7; (with_reducible refine (HC1.out _ _ _ G1.out G2.out).mono ?_); rintro e w8 ⟨rfl, h10⟩; have I1 := Lib.hid (G3.out.below h10); have I2 := Lib.hid (G2.out.trans (h10.mono G2.out.size)); clear h10)
      | (go_at_call_of 38 A8; (with_reducible refine (HC2.out _ _ _ I1.out I2.out).mono ?_); rintro e w9 ⟨rfl, h11⟩; have H11 := Lib.hid (I2.out.trans (h11.mono I2.out.size)); clear h11))
    go_ret3
    exact ⟨rfl, H11.out⟩

theorem divmod_any (a b : Int) (w : World) (ht : Pow10 w) (ha : (canon a).size ≤ 20000) (hb : (canon b).size ≤ 20000) (hb0 : b ≠ 0) :
    Calls Tryd.prog 25 #[.string (canon a), .string (canon b)] w fun e w' => e = .returned (.tuple #[.string (canon (a / b)), .string (canon (a % b)), .int .i64 0]) ∧ Below w.heap.size w w' := by
  by_cases h : 0 ≤ a ∨ a.natAbs % b.natAbs = 0
  · exact divmod_easy a b w ht ha hb hb0 h
  · exact divmod_hard a b w ht ha hb hb0 (by omega) (fun e => h (.inr e))

end Go.Proofs.YtmkeigfckfkifaaDoor
