/- The walk of integer.Mul: the product of two integers. -/
import Derived.Test.YtmkeigfckfkifaaDoorWord
import Derived.Test.YtmkeigfckfkifaaDoorTimes
import Derived.Deep.CutRange
import Derived.Deep.RegionHeld3
import Derived.Test.YtmkeigfckfkifaaDoorDivA
namespace Go.Proofs.YtmkeigfckfkifaaDoor
open Go.RowKit

theorem mul_sign (a b : Int) : (if (decide (a < 0) != decide (b < 0)) = true then -((a.natAbs * b.natAbs : Nat) : Int) else ((a.natAbs * b.natAbs : Nat) : Int)) = a * b := by
  have h : ((a.natAbs * b.natAbs : Nat) : Int) = (a.natAbs : Int) * (b.natAbs : Int) := by simp
  rw [h]
  rcases Int.lt_or_le a 0 with h1 | h1 <;> rcases Int.lt_or_le b 0 with h2 | h2
  · have e1 : (a.natAbs : Int) = -a := by omega
    have e2 : (b.natAbs : Int) = -b := by omega
    simp [h1, h2, e1, e2, Int.neg_mul_neg]
  · have e1 : (a.natAbs : Int) = -a := by omega
    have e2 : (b.natAbs : Int) = b := by omega
    have h3 : ¬ b < 0 := by omega
    simp [h1, h3, e1, e2, Int.neg_mul]
  · have e1 : (a.natAbs : Int) = a := by omega
    have e2 : (b.natAbs : Int) = -b := by omega
    have h3 : ¬ a < 0 := by omega
    simp [h2, h3, e1, e2, Int.mul_neg]
  · have e1 : (a.natAbs : Int) = a := by omega
    have e2 : (b.natAbs : Int) = b := by omega
    have h3 : ¬ a < 0 := by omega
    have h4 : ¬ b < 0 := by omega
    simp [h3, h4, e1, e2]

theorem lim9_len_digits (z : Int) (n : Nat) (h : (canon z).size ≤ n) : (lim9 z.natAbs).length ≤ n := by
  have h1 := itoa_len_small (z := z) (k := n) h
  refine lim_len_le 1000000000 (by omega) _ _ ?_
  exact Nat.lt_of_lt_of_le h1 (Nat.pow_le_pow_left (by omega) n)

set_option maxHeartbeats 2000000 in
theorem mul_any (a b : Int) (w : World) (ht : Pow10 w) (ha : (canon a).size ≤ 20000) (hb : (canon b).size ≤ 20000) :
    Calls Tryd.prog 13 #[.string (canon a), .string (canon b)] w fun e w' => e = .returned (.string (canon (a * b))) ∧ Below w.heap.size w w' := by
  by_cases hq : (canon a).size ≤ 9 ∧ (canon b).size ≤ 9
  · obtain ⟨h1, h2⟩ := hq
    have b1 := itoa_len_small (z := a) (k := 9) h1
    have b2 := itoa_len_small (z := b) (k := 9) h2
    have hm : (a * b).natAbs < 1000000000000000000 := by
      rw [Int.natAbs_mul]
      have := Nat.mul_lt_mul'' b1 b2
      omega
    have hm1 : -1000000000000000000 ≤ a * b := by omega
    have hm2 : a * b ≤ 1000000000000000000 := by omega
    have q1 := fun W => quick_yes a 9 (by omega) (by omega) W
    have q2 := fun W => quick_yes b 9 (by omega) (by omega) W
    have ho := fun W (hW : Below w.heap.size w W) => of_any (a * b) (by omega) (by omega) W (ht.below hW)
    have Q1 := Lib.hid q1
    have Q2 := Lib.hid q2
    have HO := Lib.hid ho
    clear q1 q2 ho b1 b2 hm
    go_enter Tryd.func13, Tryd.ntmps13
    go_wp2_with (first
      | (go_at_call_of 35 (Value.string (canon a)); refine (Q1.out _).mono ?_; rintro e w1 ⟨rfl, h3⟩; have H3 := Lib.hid h3; clear h3)
      | (go_at_call_of 35 (Value.string (canon b)); refine (Q2.out _).mono ?_; rintro e w2 ⟨rfl, h4⟩; have H4 := Lib.hid (H3.out.trans (h4.mono H3.out.size)); clear h4)
      | (go_at_call 18; refine (HO.out _ H4.out).mono ?_; rintro e w3 ⟨rfl, h5⟩; have H5 := Lib.hid (H4.out.trans (h5.mono H4.out.size)); clear h5))
    go_ret
    exact ⟨rfl, H5.out⟩
  · have hla := lim9_len_digits a 20000 ha
    have hlb := lim9_len_digits b 20000 hb
    have hma : (mag a).size ≤ 60000 := by
      have : (mag a).size ≤ (canon a).size := by
        show (mdig a).length ≤ (Lib.itoa a).length
        rcases itoa_cases a with ⟨_, h⟩ | ⟨_, h⟩ <;> rw [h] <;> simp
      omega
    have hmb : (mag b).size ≤ 60000 := by
      have : (mag b).size ≤ (canon b).size := by
        show (mdig b).length ≤ (Lib.itoa b).length
        rcases itoa_cases b with ⟨_, h⟩ | ⟨_, h⟩ <;> rw [h] <;> simp
      omega
    have o1 := fun W => open_any a W hma
    have o2 := fun W => open_any b W hmb
    have hms := mul_sign a b
    generalize decide (a < 0) = sa at *
    generalize decide (b < 0) = sb at *
    have hlxy : (lim9 (a.natAbs * b.natAbs)).length ≤ 60000 := by
      have h1 := lim_lt_pow 1000000000 (by omega) a.natAbs
      have h2 := lim_lt_pow 1000000000 (by omega) b.natAbs
      have h3 := Nat.mul_lt_mul'' h1 h2
      rw [← Nat.pow_add] at h3
      have h4 := lim_len_le 1000000000 (by omega) _ _ h3
      have h5 : (lim 1000000000 a.natAbs).length = (lim9 a.natAbs).length := rfl
      have h6 : (lim 1000000000 b.natAbs).length = (lim9 b.natAbs).length := rfl
      exact Nat.le_trans h4 (by omega)
    generalize a.natAbs = x at *
    generalize b.natAbs = y at *
    have O1 := Lib.hid o1
    have O2 := Lib.hid o2
    have HMS := Lib.hid hms
    have HT := Lib.hid ht
    clear o1 o2 hms hma hmb ha hb ht
    by_cases h1 : (canon a).size ≤ 9
    · have q1 := fun W => quick_yes a 9 (by omega) (by omega) W
      have q2 := fun W => quick_no b 9 (by omega) W
      have Q1 := Lib.hid q1
      have Q2 := Lib.hid q2
      clear q1 q2 hq h1
      go_enter Tryd.func13, Tryd.ntmps13
      go_upto_region 6 with (first
        | (go_at_call_of 35 (Value.string (canon a)); refine (Q1.out _).mono ?_; rintro e w1 ⟨rfl, h3⟩; have H3 := Lib.hid h3; clear h3)
        | (go_at_call_of 35 (Value.string (canon b)); refine (Q2.out _).mono ?_; rintro e w2 ⟨rfl, rfl⟩))
      go_wp2_with (first
        | (go_at_call_of 36 (Value.string (canon a)); refine (O1.out _).mono ?_; rintro e w2 ⟨A1, c1, rfl, h3, h4⟩; have S1 := Lib.hid h3; have H4 := Lib.hid h4; clear h3 h4)
        | (go_at_call_of 36 (Value.string (canon b)); refine (O2.out _).mono ?_; rintro e w3 ⟨A2, c2, rfl, h5, h6⟩; have S2 := Lib.hid h5; have H6 := Lib.hid h6; clear h5 h6))
      obtain ⟨g, hg⟩ : ∃ g, w3.heap.size = g := ⟨_, rfl⟩
      have x1 := heap_alloc_new w3 (Obj.cells #[Value.bool sa, Value.slice A1 (lim9 x).length c1] 56)
      have x2 := heap_alloc_new (w3.alloc (Obj.cells #[Value.bool sa, Value.slice A1 (lim9 x).length c1] 56)) (Obj.cells #[Value.bool sb, Value.slice A2 (lim9 y).length c2] 56)
      have x3 := heap_more x1 (Obj.cells #[Value.bool sb, Value.slice A2 (lim9 y).length c2] 56)
      have x4 : Below w3.heap.size w3 ((w3.alloc (Obj.cells #[Value.bool sa, Value.slice A1 (lim9 x).length c1] 56)).alloc (Obj.cells #[Value.bool sb, Value.slice A2 (lim9 y).length c2] 56)) := ((Below.refl _ _).alloc (Nat.le_refl _) _).alloc (by simp) _
      have x5 : ((w3.alloc (Obj.cells #[Value.bool sa, Value.slice A1 (lim9 x).length c1] 56)).alloc (Obj.cells #[Value.bool sb, Value.slice A2 (lim9 y).length c2] 56)).heap.size = g + 2 := by rw [World.size_alloc, World.size_alloc, hg]
      rw [World.size_alloc] at x2
      rw [hg] at x1 x2 x3 ⊢
      generalize (w3.alloc (Obj.cells #[Value.bool sa, Value.slice A1 (lim9 x).length c1] 56)).alloc (Obj.cells #[Value.bool sb, Value.slice A2 (lim9 y).length c2] 56) = W4 at *
      have c0 : W4.cell? ⟨g, 0, none⟩ = some (.bool sa) := by rw [Lib.cell_of_heap x3]; rfl
      have c1' : W4.cell? ⟨g, 1, none⟩ = some (.slice A1 (lim9 x).length c1) := by rw [Lib.cell_of_heap x3]; rfl
      have c2' : W4.cell? ⟨g + 1, 0, none⟩ = some (.bool sb) := by rw [Lib.cell_of_heap x2]; rfl
      have c3 : W4.cell? ⟨g + 1, 1, none⟩ = some (.slice A2 (lim9 y).length c2) := by rw [Lib.cell_of_heap x2]; rfl
      have s1 := (S1.out.below H6.out).below x4
      have s2 := S2.out.below x4
      have hbw := ((H3.out.trans (H4.out.mono H3.out.size)).trans (H6.out.mono (Nat.le_trans H3.out.size H4.out.size))).trans (x4.mono (Nat.le_trans H3.out.size (Nat.le_trans H4.out.size H6.out.size)))
      have htm := fun W (hW : Below W4.heap.size W4 W) => times_any A1 A2 c1 c2 x y W (s1.below hW) (s2.below hW) (by omega) (by omega)
      have hcl := fun A c W (hs : Sl W .u64 A c (lim9 (x * y))) (hW : Below w.heap.size w W) => close_any (sa != sb) A c (x * y) W hs hlxy (HT.out.below hW)
      rw [HMS.out] at hcl
      have HTM := Lib.hid htm
      have HCL := Lib.hid hcl
      have HBW := Lib.hid hbw
      have hg4 : g < W4.heap.size := by omega
      have hg5 : g + 1 < W4.heap.size := by omega
      have HZ := Lib.hid x5
      clear htm hcl hbw x1 x2 x3 x4 x5 s1 s2 hg
      go_region_held3 (fun w' => w'.cell? ⟨g, 0, none⟩ = some (.bool sa) ∧ w'.cell? ⟨g, 1, none⟩ = some (.slice A1 (lim9 x).length c1) ∧ w'.cell? ⟨g + 1, 0, none⟩ = some (.bool sb) ∧ w'.cell? ⟨g + 1, 1, none⟩ = some (.slice A2 (lim9 y).length c2))
        (first | exact ⟨c0, c1', c2', c3⟩ | exact ⟨d0, d1, d2, d3⟩ | exact ⟨e0, e1, e2, e3⟩)
        (first
          | (go_at_call 37; refine (HTM.out _ ?_).mono ?_; (first | exact Below.refl _ _ | exact (Below.refl _ _).drew); rintro e w5 ⟨A5, c5, rfl, h7, h8⟩; have d0 := (h8.cell (p := ⟨g, 0, none⟩) hg4).trans c0; have d1 := (h8.cell (p := ⟨g, 1, none⟩) hg4).trans c1'; have d2 := (h8.cell (p := ⟨g + 1, 0, none⟩) hg5).trans c2'; have d3 := (h8.cell (p := ⟨g + 1, 1, none⟩) hg5).trans c3; have h9 := h8.size; have S5 := Lib.hid h7; have H8 := Lib.hid h8; clear h7 h8)
          | (go_at_call 38; refine (HCL.out _ _ _ S5.out (Below.trans HBW.out.drew (H8.out.mono ?_))).mono ?_; (have := HZ.out; have := HBW.out.size; first | exact HBW.out.size | simpa using HBW.out.size); rintro e w6 ⟨rfl, h10⟩; have e0 := (h10.cell (p := ⟨g, 0, none⟩) (Nat.lt_of_lt_of_le hg4 h9)).trans d0; have e1 := (h10.cell (p := ⟨g, 1, none⟩) (Nat.lt_of_lt_of_le hg4 h9)).trans d1; have e2 := (h10.cell (p := ⟨g + 1, 0, none⟩) (Nat.lt_of_lt_of_le hg5 h9)).trans d2; have e3 := (h10.cell (p := ⟨g + 1, 1, none⟩) (Nat.lt_of_lt_of_le hg5 h9)).trans d3; have H10 := Lib.hid (HBW.out.drew.trans (H8.out.mono HBW.out.size)); have H11 := Lib.hid h10; clear h10))
      all_goals
        go_wp2
        go_ret
        exact ⟨rfl, H10.out.trans (H11.out.mono H10.out.size)⟩
    · have q1 := fun W => quick_no a 9 (by omega) W
      have Q1 := Lib.hid q1
      clear q1 hq h1
      go_enter Tryd.func13, Tryd.ntmps13
      go_upto_region 6 with (go_at_call_of 35 (Value.string (canon a)); refine (Q1.out _).mono ?_; rintro e w1 ⟨rfl, rfl⟩)
      go_wp2_with (first
        | (go_at_call_of 36 (Value.string (canon a)); refine (O1.out _).mono ?_; rintro e w2 ⟨A1, c1, rfl, h3, h4⟩; have S1 := Lib.hid h3; have H4 := Lib.hid h4; clear h3 h4)
        | (go_at_call_of 36 (Value.string (canon b)); refine (O2.out _).mono ?_; rintro e w3 ⟨A2, c2, rfl, h5, h6⟩; have S2 := Lib.hid h5; have H6 := Lib.hid h6; clear h5 h6))
      obtain ⟨g, hg⟩ : ∃ g, w3.heap.size = g := ⟨_, rfl⟩
      have x1 := heap_alloc_new w3 (Obj.cells #[Value.bool sa, Value.slice A1 (lim9 x).length c1] 56)
      have x2 := heap_alloc_new (w3.alloc (Obj.cells #[Value.bool sa, Value.slice A1 (lim9 x).length c1] 56)) (Obj.cells #[Value.bool sb, Value.slice A2 (lim9 y).length c2] 56)
      have x3 := heap_more x1 (Obj.cells #[Value.bool sb, Value.slice A2 (lim9 y).length c2] 56)
      have x4 : Below w3.heap.size w3 ((w3.alloc (Obj.cells #[Value.bool sa, Value.slice A1 (lim9 x).length c1] 56)).alloc (Obj.cells #[Value.bool sb, Value.slice A2 (lim9 y).length c2] 56)) := ((Below.refl _ _).alloc (Nat.le_refl _) _).alloc (by simp) _
      have x5 : ((w3.alloc (Obj.cells #[Value.bool sa, Value.slice A1 (lim9 x).length c1] 56)).alloc (Obj.cells #[Value.bool sb, Value.slice A2 (lim9 y).length c2] 56)).heap.size = g + 2 := by rw [World.size_alloc, World.size_alloc, hg]
      rw [World.size_alloc] at x2
      rw [hg] at x1 x2 x3 ⊢
      generalize (w3.alloc (Obj.cells #[Value.bool sa, Value.slice A1 (lim9 x).length c1] 56)).alloc (Obj.cells #[Value.bool sb, Value.slice A2 (lim9 y).length c2] 56) = W4 at *
      have c0 : W4.cell? ⟨g, 0, none⟩ = some (.bool sa) := by rw [Lib.cell_of_heap x3]; rfl
      have c1' : W4.cell? ⟨g, 1, none⟩ = some (.slice A1 (lim9 x).length c1) := by rw [Lib.cell_of_heap x3]; rfl
      have c2' : W4.cell? ⟨g + 1, 0, none⟩ = some (.bool sb) := by rw [Lib.cell_of_heap x2]; rfl
      have c3 : W4.cell? ⟨g + 1, 1, none⟩ = some (.slice A2 (lim9 y).length c2) := by rw [Lib.cell_of_heap x2]; rfl
      have s1 := (S1.out.below H6.out).below x4
      have s2 := S2.out.below x4
      have hbw := (H4.out.trans (H6.out.mono H4.out.size)).trans (x4.mono (Nat.le_trans H4.out.size H6.out.size))
      have htm := fun W (hW : Below W4.heap.size W4 W) => times_any A1 A2 c1 c2 x y W (s1.below hW) (s2.below hW) (by omega) (by omega)
      have hcl := fun A c W (hs : Sl W .u64 A c (lim9 (x * y))) (hW : Below w.heap.size w W) => close_any (sa != sb) A c (x * y) W hs hlxy (HT.out.below hW)
      rw [HMS.out] at hcl
      have HTM := Lib.hid htm
      have HCL := Lib.hid hcl
      have HBW := Lib.hid hbw
      have hg4 : g < W4.heap.size := by omega
      have hg5 : g + 1 < W4.heap.size := by omega
      have HZ := Lib.hid x5
      clear htm hcl hbw x1 x2 x3 x4 x5 s1 s2 hg
      go_region_held3 (fun w' => w'.cell? ⟨g, 0, none⟩ = some (.bool sa) ∧ w'.cell? ⟨g, 1, none⟩ = some (.slice A1 (lim9 x).length c1) ∧ w'.cell? ⟨g + 1, 0, none⟩ = some (.bool sb) ∧ w'.cell? ⟨g + 1, 1, none⟩ = some (.slice A2 (lim9 y).length c2))
        (first | exact ⟨c0, c1', c2', c3⟩ | exact ⟨d0, d1, d2, d3⟩ | exact ⟨e0, e1, e2, e3⟩)
        (first
          | (go_at_call 37; refine (HTM.out _ ?_).mono ?_; (first | exact Below.refl _ _ | exact (Below.refl _ _).drew); rintro e w5 ⟨A5, c5, rfl, h7, h8⟩; have d0 := (h8.cell (p := ⟨g, 0, none⟩) hg4).trans c0; have d1 := (h8.cell (p := ⟨g, 1, none⟩) hg4).trans c1'; have d2 := (h8.cell (p := ⟨g + 1, 0, none⟩) hg5).trans c2'; have d3 := (h8.cell (p := ⟨g + 1, 1, none⟩) hg5).trans c3; have h9 := h8.size; have S5 := Lib.hid h7; have H8 := Lib.hid h8; clear h7 h8)
          | (go_at_call 38; refine (HCL.out _ _ _ S5.out (Below.trans HBW.out.drew (H8.out.mono ?_))).mono ?_; (have := HZ.out; have := HBW.out.size; first | exact HBW.out.size | simpa using HBW.out.size); rintro e w6 ⟨rfl, h10⟩; have e0 := (h10.cell (p := ⟨g, 0, none⟩) (Nat.lt_of_lt_of_le hg4 h9)).trans d0; have e1 := (h10.cell (p := ⟨g, 1, none⟩) (Nat.lt_of_lt_of_le hg4 h9)).trans d1; have e2 := (h10.cell (p := ⟨g + 1, 0, none⟩) (Nat.lt_of_lt_of_le hg5 h9)).trans d2; have e3 := (h10.cell (p := ⟨g + 1, 1, none⟩) (Nat.lt_of_lt_of_le hg5 h9)).trans d3; have H10 := Lib.hid (HBW.out.drew.trans (H8.out.mono HBW.out.size)); have H11 := Lib.hid h10; clear h10))
      all_goals
        go_wp2
        go_ret
        exact ⟨rfl, H10.out.trans (H11.out.mono H10.out.size)⟩

end Go.Proofs.YtmkeigfckfkifaaDoor
