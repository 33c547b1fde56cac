/- The walk of integer.DivMod: quotient and remainder. -/
import Derived.Test.YtmkeigfckfkifaaDoorGcd
import Derived.Test.YtmkeigfckfkifaaDoorDivP
namespace Go.Proofs.YtmkeigfckfkifaaDoor
open Go.RowKit

theorem divmod_zero (a : Int) (w : World) :
    Calls Tryd.prog 25 #[.string (canon a), .string (canon 0)] w fun e w' => e = .returned (.tuple #[.string ⟨#[]⟩, .string ⟨#[]⟩, .int .i64 17]) ∧ w = w' := by
  have hz : ((canon 0).toList == [48]) = true := by rw [canon_beq0]; simp
  go_enter Tryd.func25, Tryd.ntmps25
  go_wp2
  go_ret3
  exact ⟨rfl, rfl⟩

set_option maxRecDepth 100000 in
set_option maxHeartbeats 4000000 in
theorem divmod_easy (a b : Int) (w : World) (ht : Pow10 w) (ha : (canon a).size ≤ 20000) (hb : (canon b).size ≤ 20000) (hb0 : b ≠ 0) (hm : 0 ≤ a ∨ a.natAbs % b.natAbs = 0) :
    Calls Tryd.prog 25 #[.string (canon a), .string (canon b)] w fun e w' => e = .returned (.tuple #[.string (canon (a / b)), .string (canon (a % b)), .int .i64 0]) ∧ Below w.heap.size w w' := by
  have hz : ((canon b).toList == [48]) = false := by rw [canon_beq0]; simp [hb0]
  have hla := lim9_len_digits a 20000 ha
  have hlb := lim9_len_digits b 20000 hb
  have o1 := fun W => open_any a W (Nat.le_trans (mag_le a 20000 ha) (by omega))
  have o2 := fun W => open_any b W (Nat.le_trans (mag_le b 20000 hb) (by omega))
  obtain ⟨hd1, hd2⟩ := div_easy a b hb0 hm
  have hyp : 0 < b.natAbs := by omega
  have hma : decide (a < 0) = true → a.natAbs % b.natAbs = 0 := fun h => by
    have := of_decide_eq_true h
    omega
  generalize a / b = qz at *
  generalize a % b = rz at *
  generalize decide (a < 0) = sa at *
  generalize decide (b < 0) = sb at *
  generalize a.natAbs = x at *
  generalize b.natAbs = y at *
  have hql : (lim9 (x / y)).length ≤ 20000 := Nat.le_trans (lim_len_mono 1000000000 (by omega) _ _ (Nat.div_le_self x y)) hla
  have hrl : (lim9 (x % y)).length ≤ 20000 := Nat.le_trans (lim_len_mono 1000000000 (by omega) _ _ (Nat.mod_le x y)) hla
  have O1 := Lib.hid o1
  have O2 := Lib.hid o2
  have HD1 := Lib.hid hd1
  have HD2 := Lib.hid hd2
  have HT := Lib.hid ht
  have HMA := Lib.hid hma
  clear o1 o2 hd1 hd2 hma ha hb hb0 hm ht
  go_enter Tryd.func25, Tryd.ntmps25
  go_upto_region 4 with (first
    | (go_at_call_of 36 (Value.string (canon a)); refine (O1.out _).mono ?_; rintro e w2 ⟨A1, c1, rfl, h3, h4⟩; have S1 := Lib.hid h3; have H4 := Lib.hid h4; clear h3 h4)
    | (go_at_call_of 36 (Value.string (canon b)); refine (O2.out _).mono ?_; rintro e w3 ⟨A2, c2, rfl, h5, h6⟩; have S2 := Lib.hid h5; have H6 := Lib.hid h6; clear h5 h6))
  obtain ⟨g, hg⟩ : ∃ g, w3.heap.size = g := ⟨_, rfl⟩
  have x1 := heap_alloc_new w3 (Obj.cells #[Value.bool sa, Value.slice A1 (lim9 x).length c1] 56)
  have x2 := heap_alloc_new (w3.alloc (Obj.cells #[Value.bool sa, Value.slice A1 (lim9 x).length c1] 56)) (Obj.cells #[Value.bool sb, Value.slice A2 (lim9 y).length c2] 56)
  have x3 := heap_more x1 (Obj.cells #[Value.bool sb, Value.slice A2 (lim9 y).length c2] 56)
  have x4 : Below w3.heap.size w3 ((w3.alloc (Obj.cells #[Value.bool sa, Value.slice A1 (lim9 x).length c1] 56)).alloc (Obj.cells #[Value.bool sb, Value.slice A2 (lim9 y).length c2] 56)) := ((Below.refl _ _).alloc (Nat.le_refl _) _).alloc (by simp) _
  have x5 : ((w3.alloc (Obj.cells #[Value.bool sa, Value.slice A1 (lim9 x).length c1] 56)).alloc (Obj.cells #[Value.bool sb, Value.slice A2 (lim9 y).length c2] 56)).heap.size = g + 2 := by rw [World.size_alloc, World.size_alloc, hg]
  rw [World.size_alloc] at x2
  rw [hg] at x1 x2 x3 ⊢
  generalize (w3.alloc (Obj.cells #[Value.bool sa, Value.slice A1 (lim9 x).length c1] 56)).alloc (Obj.cells #[Value.bool sb, Value.slice A2 (lim9 y).length c2] 56) = W4 at *
  have c0 : W4.cell? ⟨g, 0, none⟩ = some (.bool sa) := by rw [Lib.cell_of_heap x3]; rfl
  have c1' : W4.cell? ⟨g, 1, none⟩ = some (.slice A1 (lim9 x).length c1) := by rw [Lib.cell_of_heap x3]; rfl
  have c2' : W4.cell? ⟨g + 1, 0, none⟩ = some (.bool sb) := by rw [Lib.cell_of_heap x2]; rfl
  have c3 : W4.cell? ⟨g + 1, 1, none⟩ = some (.slice A2 (lim9 y).length c2) := by rw [Lib.cell_of_heap x2]; rfl
  have s1 := (S1.out.below H6.out).below x4
  have s2 := S2.out.below x4
  have hbw := (H4.out.trans (H6.out.mono H4.out.size)).trans (x4.mono (Nat.le_trans H4.out.size H6.out.size))
  have hdv := divide_any A1 A2 c1 c2 x y W4 s1 s2 hla hlb hyp
  have hg4 : g < W4.heap.size := by omega
  have hg5 : g + 1 < W4.heap.size := by omega
  have hc1 := fun A c W (hs : Sl W .u64 A c (lim9 (x / y))) (hW : Below w.heap.size w W) => close_any (sa != sb) A c (x / y) W hs (by omega) (HT.out.below hW)
  have hc2 := fun A c W (hs : Sl W .u64 A c (lim9 (x % y))) (hW : Below w.heap.size w W) => close_any false A c (x % y) W hs (by omega) (HT.out.below hW)
  rw [HD1.out] at hc1
  rw [if_neg (by simp), HD2.out] at hc2
  have HDV := Lib.hid hdv
  have HC1 := Lib.hid hc1
  have HC2 := Lib.hid hc2
  have HBW := Lib.hid hbw
  have hrz : sa = true → (lim9 (x % y)).length = 0 := fun h => by rw [HMA.out h]; rfl
  have HRZ := Lib.hid hrz
  clear hdv hc1 hc2 hbw x1 x2 x3 x4 x5 s1 s2 hg hrz HMA HD1 HD2
  cases hsa : sa with
  | false =>
    subst hsa
    have hc := HC1.out
    rw [show (false != sb) = sb by cases sb <;> rfl] at hc
    have HC1 := Lib.hid hc
    clear hc
    go_wp2_with (first
      | (go_at_call 47; refine HDV.out.mono ?_; rintro e w5 ⟨A5, c5, A6, c6, rfl, h7, h8, h9⟩; have d0 := (h9.cell (p := ⟨g, 0, none⟩) hg4).trans c0; have d2 := (h9.cell (p := ⟨g + 1, 0, none⟩) hg5).trans c2'; have S5 := Lib.hid h7; have S6 := Lib.hid h8; have H9 := Lib.hid (HBW.out.trans (h9.mono HBW.out.size)); clear h7 h8 h9)
      | (go_at_call_of 38 A5; refine (HC1.out _ _ _ S5.out H9.out).mono ?_; rintro e w6 ⟨rfl, h10⟩; have S7 := Lib.hid (S6.out.below h10); have H10 := Lib.hid (H9.out.trans (h10.mono H9.out.size)); clear h10)
      | (go_at_call_of 38 A6; refine (HC2.out _ _ _ S7.out H10.out).mono ?_; rintro e w7 ⟨rfl, h11⟩; have H11 := Lib.hid (H10.out.trans (h11.mono H10.out.size)); clear h11))
    go_ret3
    exact ⟨rfl, H11.out⟩
  | true =>
    have hl1 : decide ((0 : Int) < ((lim9 (x % y)).length : Int)) = false := by rw [HRZ.out hsa]; rfl
    have hl2 : decide (0 < (lim9 (x % y)).length) = false := by rw [HRZ.out hsa]; rfl
    subst hsa
    have hc := HC1.out
    rw [show (true != sb) = !sb by cases sb <;> rfl] at hc
    have HC1 := Lib.hid hc
    clear hc
    go_wp2_with (first
      | (go_at_call 47; refine HDV.out.mono ?_; rintro e w5 ⟨A5, c5, A6, c6, rfl, h7, h8, h9⟩; have d0 := (h9.cell (p := ⟨g, 0, none⟩) hg4).trans c0; have d2 := (h9.cell (p := ⟨g + 1, 0, none⟩) hg5).trans c2'; have S5 := Lib.hid h7; have S6 := Lib.hid h8; have H9 := Lib.hid (HBW.out.trans (h9.mono HBW.out.size)); clear h7 h8 h9)
      | (go_at_call_of 38 A5; refine (HC1.out _ _ _ S5.out H9.out).mono ?_; rintro e w6 ⟨rfl, h10⟩; have S7 := Lib.hid (S6.out.below h10); have H10 := Lib.hid (H9.out.trans (h10.mono H9.out.size)); clear h10)
      | (go_at_call_of 38 A6; refine (HC2.out _ _ _ S7.out H10.out).mono ?_; rintro e w7 ⟨rfl, h11⟩; have H11 := Lib.hid (H10.out.trans (h11.mono H10.out.size)); clear h11))
    go_ret3
    exact ⟨rfl, H11.out⟩

end Go.Proofs.YtmkeigfckfkifaaDoor
