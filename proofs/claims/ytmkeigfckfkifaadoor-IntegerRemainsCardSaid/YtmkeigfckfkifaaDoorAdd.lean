/- The walks of integer.Neg, Abs, Add and Sub. -/
import Derived.Test.YtmkeigfckfkifaaDoorGcd
import Derived.Outline
namespace Go.Proofs.YtmkeigfckfkifaaDoor
open Go.RowKit

theorem add_same (a b : Int) (h : decide (a < 0) = decide (b < 0)) : (if decide (a < 0) = true then -((a.natAbs + b.natAbs : Nat) : Int) else ((a.natAbs + b.natAbs : Nat) : Int)) = a + b := by
  by_cases ha : a < 0
  · have hb : b < 0 := by simpa [ha] using h
    rw [if_pos (decide_eq_true ha)]; omega
  · have hb : ¬ b < 0 := by simpa [ha] using h
    rw [if_neg (by simpa using ha)]; omega

theorem add_left (a b : Int) (h : decide (a < 0) ≠ decide (b < 0)) (hl : b.natAbs ≤ a.natAbs) : (if decide (a < 0) = true then -((a.natAbs - b.natAbs : Nat) : Int) else ((a.natAbs - b.natAbs : Nat) : Int)) = a + b := by
  by_cases ha : a < 0
  · have hb : ¬ b < 0 := fun hb => h (by rw [decide_eq_true ha, decide_eq_true hb])
    rw [if_pos (decide_eq_true ha)]; omega
  · have hb : b < 0 := by
      rcases Int.lt_or_le b 0 with hb | hb
      · exact hb
      · exact absurd (show decide (a < 0) = decide (b < 0) by rw [decide_eq_false ha, decide_eq_false (by omega)]) h
    rw [if_neg (by simpa using ha)]; omega

theorem add_right (a b : Int) (h : decide (a < 0) ≠ decide (b < 0)) (hl : a.natAbs < b.natAbs) : (if decide (b < 0) = true then -((b.natAbs - a.natAbs : Nat) : Int) else ((b.natAbs - a.natAbs : Nat) : Int)) = a + b := by
  rw [add_left b a (Ne.symm h) (by omega), Int.add_comm]

theorem swap_boxes {W4 W5 : World} {g : Nat} {e : TypeId} {fr : Nat × Nat} {sa sb : Bool} {A1 A2 : Option Addr} {n1 n2 c1 c2 : Nat} (nd : Nat)
    (h1 : W4.heap[g]? = some (.cells #[.bool sa, .slice A1 n1 c1] e fr)) (h2 : W4.heap[g + 1]? = some (.cells #[.bool sb, .slice A2 n2 c2] e fr))
    (hW : (((((W4.drewN nd).setCell ⟨g, 0, none⟩ (.bool sb)).setCell ⟨g, 1, none⟩ (.slice A2 n2 c2)).setCell ⟨g + 1, 0, none⟩ (.bool sa)).setCell ⟨g + 1, 1, none⟩ (.slice A1 n1 c1)) = W5) :
    W5.heap[g]? = some (.cells #[.bool sb, .slice A2 n2 c2] e fr) ∧ W5.heap[g + 1]? = some (.cells #[.bool sa, .slice A1 n1 c1] e fr) ∧ W5.heap.size = W4.heap.size ∧ ∀ (B : Nat) (a : World), B ≤ g → Below B a W4 → Below B a W5 := by
  subst hW
  refine ⟨?_, ?_, ?_, fun B a hB hb => ?_⟩
  · simp [World.setCell, Array.getElem?_modify, World.drewN, h1]
  · simp [World.setCell, Array.getElem?_modify, World.drewN, h2]
  · simp [World.setCell, World.drewN]
  · exact ((((Below.trans hb ((Drew.of W4 nd).below B)).setCell (p := ⟨g, 0, none⟩) hB _).setCell (p := ⟨g, 1, none⟩) hB _).setCell (p := ⟨g + 1, 0, none⟩) (Nat.le_succ_of_le hB) _).setCell (p := ⟨g + 1, 1, none⟩) (Nat.le_succ_of_le hB) _

set_option maxRecDepth 100000 in
set_option maxHeartbeats 4000000 in
theorem add_any (a b : Int) (w : World) (ht : Pow10 w) (ha : (canon a).size ≤ 10000) (hb : (canon b).size ≤ 10000) :
    Calls Tryd.prog 23 #[.string (canon a), .string (canon b)] w fun e w' => e = .returned (.string (canon (a + b))) ∧ Below w.heap.size w w' := by
  by_cases hq : (canon a).size ≤ 18 ∧ (canon b).size ≤ 18
  · obtain ⟨h1, h2⟩ := hq
    have b1 := itoa_len_small (z := a) (k := 18) h1
    have b2 := itoa_len_small (z := b) (k := 18) h2
    have a1 : -1000000000000000000 ≤ a := by omega
    have a2 : a ≤ 1000000000000000000 := by omega
    have a3 : -1000000000000000000 ≤ b := by omega
    have a4 : b ≤ 1000000000000000000 := by omega
    have q1 := fun W => quick_yes a 18 (by omega) (by omega) W
    have q2 := fun W => quick_yes b 18 (by omega) (by omega) W
    have ho := fun W (hW : Below w.heap.size w W) => of_any (a + b) (by omega) (by omega) W (ht.below hW)
    have Q1 := Lib.hid q1
    have Q2 := Lib.hid q2
    have HO := Lib.hid ho
    clear q1 q2 ho b1 b2
    go_enter Tryd.func23, Tryd.ntmps23
    go_wp2_with (first
      | (go_at_call_of 35 (Value.string (canon a)); refine (Q1.out _).mono ?_; rintro e w1 ⟨rfl, h3⟩; have H3 := Lib.hid h3; clear h3)
      | (go_at_call_of 35 (Value.string (canon b)); refine (Q2.out _).mono ?_; rintro e w2 ⟨rfl, h4⟩; have H4 := Lib.hid (H3.out.trans (h4.mono H3.out.size)); clear h4)
      | (go_at_call 18; refine (HO.out _ H4.out).mono ?_; rintro e w3 ⟨rfl, h5⟩; have H5 := Lib.hid (H4.out.trans (h5.mono H4.out.size)); clear h5))
    go_ret
    exact ⟨rfl, H5.out⟩
  · have hla := lim9_len_digits a 10000 ha
    have hlb := lim9_len_digits b 10000 hb
    have o1 := fun W => open_any a W (Nat.le_trans (mag_le a 10000 ha) (by omega))
    have o2 := fun W => open_any b W (Nat.le_trans (mag_le b 10000 hb) (by omega))
    have e1 := add_same a b
    have e2 := add_left a b
    have e3 := add_right a b
    have hlxy : (lim9 (a.natAbs + b.natAbs)).length ≤ 20001 := by
      have h1 : a.natAbs < 1000000000 ^ (lim9 a.natAbs).length := lim_lt_pow 1000000000 (by omega) a.natAbs
      have h2 : b.natAbs < 1000000000 ^ (lim9 b.natAbs).length := lim_lt_pow 1000000000 (by omega) b.natAbs
      have h3 : (1000000000 : Nat) ^ (lim9 a.natAbs).length ≤ 1000000000 ^ ((lim9 a.natAbs).length + (lim9 b.natAbs).length) := Nat.pow_le_pow_right (by omega) (by omega)
      have h4 : (1000000000 : Nat) ^ (lim9 b.natAbs).length ≤ 1000000000 ^ ((lim9 a.natAbs).length + (lim9 b.natAbs).length) := Nat.pow_le_pow_right (by omega) (by omega)
      have h5 : (lim9 (a.natAbs + b.natAbs)).length ≤ (lim9 a.natAbs).length + (lim9 b.natAbs).length + 1 := by
        refine lim_len_le 1000000000 (by omega) _ _ ?_
        rw [Nat.pow_succ]
        omega
      omega
    generalize decide (a < 0) = sa at *
    generalize decide (b < 0) = sb at *
    generalize a.natAbs = x at *
    generalize b.natAbs = y at *
    have O1 := Lib.hid o1
    have O2 := Lib.hid o2
    have E1 := Lib.hid e1
    have E2 := Lib.hid e2
    have E3 := Lib.hid e3
    have HT := Lib.hid ht
    clear o1 o2 e1 e2 e3 ha hb ht
    by_cases h1 : (canon a).size ≤ 18
    · have q1 := fun W => quick_yes a 18 (by omega) (by omega) W
      have q2 := fun W => quick_no b 18 (by omega) W
      have Q1 := Lib.hid q1
      have Q2 := Lib.hid q2
      clear q1 q2 hq h1
      go_enter Tryd.func23, Tryd.ntmps23
      go_upto_region 7 with (first
        | (go_at_call_of 35 (Value.string (canon a)); refine (Q1.out _).mono ?_; rintro e w1 ⟨rfl, h3⟩; have H3 := Lib.hid h3; clear h3)
        | (go_at_call_of 35 (Value.string (canon b)); refine (Q2.out _).mono ?_; rintro e w2 ⟨rfl, rfl⟩)
        | (go_at_call_of 36 (Value.string (canon a)); refine (O1.out _).mono ?_; rintro e w2 ⟨A1, c1, rfl, h3, h4⟩; have S1 := Lib.hid h3; have H4 := Lib.hid h4; clear h3 h4)
        | (go_at_call_of 36 (Value.string (canon b)); refine (O2.out _).mono ?_; rintro e w3 ⟨A2, c2, rfl, h5, h6⟩; have S2 := Lib.hid h5; have H6 := Lib.hid h6; clear h5 h6))
      obtain ⟨g, hg⟩ : ∃ g, w3.heap.size = g := ⟨_, rfl⟩
      have x1 := heap_alloc_new w3 (Obj.cells #[Value.bool sa, Value.slice A1 (lim9 x).length c1] 56)
      have x2 := heap_alloc_new (w3.alloc (Obj.cells #[Value.bool sa, Value.slice A1 (lim9 x).length c1] 56)) (Obj.cells #[Value.bool sb, Value.slice A2 (lim9 y).length c2] 56)
      have x3 := heap_more x1 (Obj.cells #[Value.bool sb, Value.slice A2 (lim9 y).length c2] 56)
      have x4 : Below w3.heap.size w3 ((w3.alloc (Obj.cells #[Value.bool sa, Value.slice A1 (lim9 x).length c1] 56)).alloc (Obj.cells #[Value.bool sb, Value.slice A2 (lim9 y).length c2] 56)) := ((Below.refl _ _).alloc (Nat.le_refl _) _).alloc (by simp) _
      have x5 : ((w3.alloc (Obj.cells #[Value.bool sa, Value.slice A1 (lim9 x).length c1] 56)).alloc (Obj.cells #[Value.bool sb, Value.slice A2 (lim9 y).length c2] 56)).heap.size = g + 2 := by rw [World.size_alloc, World.size_alloc, hg]
      rw [World.size_alloc] at x2
      rw [hg] at x1 x2 x3 ⊢
      generalize (w3.alloc (Obj.cells #[Value.bool sa, Value.slice A1 (lim9 x).length c1] 56)).alloc (Obj.cells #[Value.bool sb, Value.slice A2 (lim9 y).length c2] 56) = W4 at *
      have c0 : W4.cell? ⟨g, 0, none⟩ = some (.bool sa) := by rw [Lib.cell_of_heap x3]; rfl
      have c1' : W4.cell? ⟨g, 1, none⟩ = some (.slice A1 (lim9 x).length c1) := by rw [Lib.cell_of_heap x3]; rfl
      have c2' : W4.cell? ⟨g + 1, 0, none⟩ = some (.bool sb) := by rw [Lib.cell_of_heap x2]; rfl
      have c3 : W4.cell? ⟨g + 1, 1, none⟩ = some (.slice A2 (lim9 y).length c2) := by rw [Lib.cell_of_heap x2]; rfl
      have s1 := (S1.out.below H6.out).below x4
      have s2 := S2.out.below x4
      have hbw := ((H3.out.trans (H4.out.mono H3.out.size)).trans (H6.out.mono (Nat.le_trans H3.out.size H4.out.size))).trans (x4.mono (Nat.le_trans H3.out.size (Nat.le_trans H4.out.size H6.out.size)))
      have hg4 : g < W4.heap.size := by omega
      have hg5 : g + 1 < W4.heap.size := by omega
      have HBW := Lib.hid hbw
      have X1 := Lib.hid x3
      have X2 := Lib.hid x2
      have T1 := Lib.hid s1
      have T2 := Lib.hid s2
      have S3 := Lib.hid (S1.out.below H6.out)
      have X4 := Lib.hid x4
      have HG := Lib.hid hg
      have hwg : w.heap.size ≤ g := by
        rw [← hg]
        first
          | exact Nat.le_trans H3.out.size (Nat.le_trans H4.out.size H6.out.size)
          | exact Nat.le_trans H4.out.size H6.out.size
      have HWG := Lib.hid hwg
      clear hbw x1 x2 x3 x4 x5 s1 s2 hg hwg
      by_cases hs : sa = sb
      · subst hs
        have hpl := fun W (hW : Below W4.heap.size W4 W) => plus_any A1 A2 c1 c2 x y W (T1.out.below hW) (T2.out.below hW) (by omega) (by omega)
        have hcl := fun A c W (hs : Sl W .u64 A c (lim9 (x + y))) (hW : Below w.heap.size w W) => close_any sa A c (x + y) W hs (by omega) (HT.out.below hW)
        rw [E1.out rfl] at hcl
        have HPL := Lib.hid hpl
        have HCL := Lib.hid hcl
        clear hpl hcl
        go_upto_region 8 with fail
        go_region_held3 (fun w' => w'.cell? ⟨g, 0, none⟩ = some (.bool sa) ∧ w'.cell? ⟨g, 1, none⟩ = some (.slice A1 (lim9 x).length c1) ∧ w'.cell? ⟨g + 1, 1, none⟩ = some (.slice A2 (lim9 y).length c2))
          (first | exact ⟨c0, c1', c3⟩ | exact ⟨d0, d1, d3⟩ | exact ⟨e0, e1, e3⟩)
          (first
            | (go_at_call 48; refine (HPL.out _ ?_).mono ?_; (first | exact Below.refl _ _ | exact (Below.refl _ _).drew); rintro e w5 ⟨A5, c5, rfl, h7, h8⟩; have d0 := (h8.cell (p := ⟨g, 0, none⟩) hg4).trans c0; have d1 := (h8.cell (p := ⟨g, 1, none⟩) hg4).trans c1'; have d3 := (h8.cell (p := ⟨g + 1, 1, none⟩) hg5).trans c3; have h9 := h8.size; have S5 := Lib.hid h7; have H8 := Lib.hid (HBW.out.drew.trans (h8.mono HBW.out.size)); clear h7 h8)
            | (go_at_call 38; refine (HCL.out _ _ _ S5.out H8.out).mono ?_; rintro e w6 ⟨rfl, h10⟩; have e0 := (h10.cell (p := ⟨g, 0, none⟩) (Nat.lt_of_lt_of_le hg4 h9)).trans d0; have e1 := (h10.cell (p := ⟨g, 1, none⟩) (Nat.lt_of_lt_of_le hg4 h9)).trans d1; have e3 := (h10.cell (p := ⟨g + 1, 1, none⟩) (Nat.lt_of_lt_of_le hg5 h9)).trans d3; have H11 := Lib.hid (H8.out.trans (h10.mono H8.out.size)); clear h10))
        all_goals
          go_wp2
          go_ret
          exact ⟨rfl, H11.out⟩
      · have t1 : (sa == sb) = false := beq_eq_false_iff_ne.2 hs
        have ho := fun W (hW : Below W4.heap.size W4 W) => order_any A1 A2 c1 c2 x y W (T1.out.below hW) (T2.out.below hW) (by omega) (by omega)
        by_cases hlt : x < y
        · rw [cmpN_lt hlt] at ho
          have HO := Lib.hid ho
          have hz := E3.out hs hlt
          have f0 := Lib.frozen_of_heap X1.out 0
          have f1 := Lib.frozen_of_heap X1.out 1
          have f2 := Lib.frozen_of_heap X2.out 0
          have f3 := Lib.frozen_of_heap X2.out 1
          have HZ := Lib.hid hz
          clear ho hz
          go_upto_region 11 with (go_at_call 49; refine (HO.out _ (Below.refl _ _)).mono ?_; rintro e w5 ⟨rfl, nd, rfl⟩)
          obtain ⟨W5, hW5⟩ : ∃ W5, (((((W4.drewN nd).setCell ⟨g, 0, none⟩ (.bool sb)).setCell ⟨g, 1, none⟩ (.slice A2 (lim9 y).length c2)).setCell ⟨g + 1, 0, none⟩ (.bool sa)).setCell ⟨g + 1, 1, none⟩ (.slice A1 (lim9 x).length c1)) = W5 := ⟨_, rfl⟩
          rw [hW5]
          obtain ⟨y1, y2, y3, y4⟩ := swap_boxes nd X1.out X2.out hW5
          clear hW5 c0 c1' c2' c3 f0 f1 f2 f3
          have c0 : W5.cell? ⟨g, 0, none⟩ = some (.bool sb) := by rw [Lib.cell_of_heap y1]; rfl
          have c1' : W5.cell? ⟨g, 1, none⟩ = some (.slice A2 (lim9 y).length c2) := by rw [Lib.cell_of_heap y1]; rfl
          have c3 : W5.cell? ⟨g + 1, 1, none⟩ = some (.slice A1 (lim9 x).length c1) := by rw [Lib.cell_of_heap y2]; rfl
          have v0 : Below w3.heap.size w3 W5 := y4 _ _ (by rw [HG.out]; exact Nat.le_refl _) X4.out
          have v1 := S3.out.below v0
          have v2 := S2.out.below v0
          have hb5 := y4 _ _ HWG.out HBW.out
          have V1 := Lib.hid v1
          have V2 := Lib.hid v2
          have HB5 := Lib.hid hb5
          have hg4 : g < W5.heap.size := by omega
          have hg5 : g + 1 < W5.heap.size := by omega
          have hmi := fun W (hW : Below W5.heap.size W5 W) => minus_any A2 A1 c2 c1 y x W (V2.out.below hW) (V1.out.below hW) (by omega) (by omega)
          have hdl : (lim9 (y - x)).length ≤ 20000 := Nat.le_trans (lim_len_mono 1000000000 (by omega) (y - x) y (Nat.sub_le y x)) (show (lim9 y).length ≤ 20000 by omega)
          have hcl := fun A c W (hs : Sl W .u64 A c (lim9 (y - x))) (hW : Below w.heap.size w W) => close_any sb A c (y - x) W hs (by omega) (HT.out.below hW)
          rw [HZ.out] at hcl
          have HMI := Lib.hid hmi
          have HCL := Lib.hid hcl
          clear hmi hcl y1 y2 y3 y4 v0 v1 v2 hb5 hlt
          go_region_held3 (fun w' => w'.cell? ⟨g, 0, none⟩ = some (.bool sb) ∧ w'.cell? ⟨g, 1, none⟩ = some (.slice A2 (lim9 y).length c2) ∧ w'.cell? ⟨g + 1, 1, none⟩ = some (.slice A1 (lim9 x).length c1))
            (first | exact ⟨c0, c1', c3⟩ | exact ⟨d0, d1, d3⟩ | exact ⟨e0, e1, e3⟩)
            (first
              | (go_at_call 50; refine (HMI.out _ ?_).mono ?_; (first | exact Below.refl _ _ | exact (Below.refl _ _).drew); rintro e w6 ⟨A5, c5, rfl, h7, h8⟩; have d0 := (h8.cell (p := ⟨g, 0, none⟩) hg4).trans c0; have d1 := (h8.cell (p := ⟨g, 1, none⟩) hg4).trans c1'; have d3 := (h8.cell (p := ⟨g + 1, 1, none⟩) hg5).trans c3; have h9 := h8.size; have S5 := Lib.hid h7; have H8 := Lib.hid (HB5.out.drew.trans (h8.mono HB5.out.size)); clear h7 h8)
              | (go_at_call 38; refine (HCL.out _ _ _ S5.out H8.out).mono ?_; rintro e w7 ⟨rfl, h10⟩; have e0 := (h10.cell (p := ⟨g, 0, none⟩) (Nat.lt_of_lt_of_le hg4 h9)).trans d0; have e1 := (h10.cell (p := ⟨g, 1, none⟩) (Nat.lt_of_lt_of_le hg4 h9)).trans d1; have e3 := (h10.cell (p := ⟨g + 1, 1, none⟩) (Nat.lt_of_lt_of_le hg5 h9)).trans d3; have H11 := Lib.hid (H8.out.trans (h10.mono H8.out.size)); clear h10))
          all_goals
            go_wp2
            go_ret
            exact ⟨rfl, H11.out⟩
        · obtain ⟨r0, hr0⟩ : ∃ z, cmpN x y = z := ⟨_, rfl⟩
          have hr1 : 0 ≤ r0 := by rw [← hr0]; unfold cmpN; rw [if_neg hlt]; split <;> omega
          rw [hr0] at ho
          have HO := Lib.hid ho
          have hmi := fun W (hW : Below W4.heap.size W4 W) => minus_any A1 A2 c1 c2 x y W (T1.out.below hW) (T2.out.below hW) (by omega) (by omega)
          have hdl : (lim9 (x - y)).length ≤ 20000 := Nat.le_trans (lim_len_mono 1000000000 (by omega) (x - y) x (Nat.sub_le x y)) (show (lim9 x).length ≤ 20000 by omega)
          have hcl := fun A c W (hs : Sl W .u64 A c (lim9 (x - y))) (hW : Below w.heap.size w W) => close_any sa A c (x - y) W hs (by omega) (HT.out.below hW)
          rw [E2.out hs (by omega)] at hcl
          have HMI := Lib.hid hmi
          have HCL := Lib.hid hcl
          clear ho hmi hcl hr0 hlt
          go_upto_region 11 with (go_at_call 49; refine (HO.out _ (Below.refl _ _)).mono ?_; rintro e w5 ⟨rfl, nd, rfl⟩)
          obtain ⟨W5, hW5⟩ : ∃ W5, W4.drewN nd = W5 := ⟨_, rfl⟩
          rw [hW5]
          have l5 : Below W4.heap.size W4 W5 := by rw [← hW5]; exact (Drew.of _ nd).below _
          have z5 : W5.heap.size = W4.heap.size := by rw [← hW5]; rfl
          have c0 : W5.cell? ⟨g, 0, none⟩ = some (.bool sa) := by rw [← hW5]; exact c0
          have c1' : W5.cell? ⟨g, 1, none⟩ = some (.slice A1 (lim9 x).length c1) := by rw [← hW5]; exact c1'
          have c3 : W5.cell? ⟨g + 1, 1, none⟩ = some (.slice A2 (lim9 y).length c2) := by rw [← hW5]; exact c3
          have hg4 : g < W5.heap.size := by omega
          have hg5 : g + 1 < W5.heap.size := by omega
          have hb5 := HBW.out.trans (l5.mono HBW.out.size)
          have L5 := Lib.hid l5
          have HB5 := Lib.hid hb5
          clear hW5 l5 z5 hb5
          go_region_held3 (fun w' => w'.cell? ⟨g, 0, none⟩ = some (.bool sa) ∧ w'.cell? ⟨g, 1, none⟩ = some (.slice A1 (lim9 x).length c1) ∧ w'.cell? ⟨g + 1, 1, none⟩ = some (.slice A2 (lim9 y).length c2))
            (first | exact ⟨c0, c1', c3⟩ | exact ⟨d0, d1, d3⟩ | exact ⟨e0, e1, e3⟩)
            (first
              | (go_at_call 50; refine (HMI.out _ ?_).mono ?_; (first | exact L5.out | exact L5.out.drew); rintro e w6 ⟨A5, c5, rfl, h7, h8⟩; have d0 := (h8.cell (p := ⟨g, 0, none⟩) hg4).trans c0; have d1 := (h8.cell (p := ⟨g, 1, none⟩) hg4).trans c1'; have d3 := (h8.cell (p := ⟨g + 1, 1, none⟩) hg5).trans c3; have h9 := h8.size; have S5 := Lib.hid h7; have H8 := Lib.hid (HB5.out.drew.trans (h8.mono HB5.out.size)); clear h7 h8)
              | (go_at_call 38; refine (HCL.out _ _ _ S5.out H8.out).mono ?_; rintro e w7 ⟨rfl, h10⟩; have e0 := (h10.cell (p := ⟨g, 0, none⟩) (Nat.lt_of_lt_of_le hg4 h9)).trans d0; have e1 := (h10.cell (p := ⟨g, 1, none⟩) (Nat.lt_of_lt_of_le hg4 h9)).trans d1; have e3 := (h10.cell (p := ⟨g + 1, 1, none⟩) (Nat.lt_of_lt_of_le hg5 h9)).trans d3; have H11 := Lib.hid (H8.out.trans (h10.mono H8.out.size)); clear h10))
          all_goals
            go_wp2
            go_ret
            exact ⟨rfl, H11.out⟩

    · have q1 := fun W => quick_no a 18 (by omega) W
      have Q1 := Lib.hid q1
      clear q1 hq h1
      go_enter Tryd.func23, Tryd.ntmps23
      go_upto_region 7 with (first
        | (go_at_call_of 35 (Value.string (canon a)); refine (Q1.out _).mono ?_; rintro e w1 ⟨rfl, rfl⟩)
        | (go_at_call_of 36 (Value.string (canon a)); refine (O1.out _).mono ?_; rintro e w2 ⟨A1, c1, rfl, h3, h4⟩; have S1 := Lib.hid h3; have H4 := Lib.hid h4; clear h3 h4)
        | (go_at_call_of 36 (Value.string (canon b)); refine (O2.out _).mono ?_; rintro e w3 ⟨A2, c2, rfl, h5, h6⟩; have S2 := Lib.hid h5; have H6 := Lib.hid h6; clear h5 h6))
      obtain ⟨g, hg⟩ : ∃ g, w3.heap.size = g := ⟨_, rfl⟩
      have x1 := heap_alloc_new w3 (Obj.cells #[Value.bool sa, Value.slice A1 (lim9 x).length c1] 56)
      have x2 := heap_alloc_new (w3.alloc (Obj.cells #[Value.bool sa, Value.slice A1 (lim9 x).length c1] 56)) (Obj.cells #[Value.bool sb, Value.slice A2 (lim9 y).length c2] 56)
      have x3 := heap_more x1 (Obj.cells #[Value.bool sb, Value.slice A2 (lim9 y).length c2] 56)
      have x4 : Below w3.heap.size w3 ((w3.alloc (Obj.cells #[Value.bool sa, Value.slice A1 (lim9 x).length c1] 56)).alloc (Obj.cells #[Value.bool sb, Value.slice A2 (lim9 y).length c2] 56)) := ((Below.refl _ _).alloc (Nat.le_refl _) _).alloc (by simp) _
      have x5 : ((w3.alloc (Obj.cells #[Value.bool sa, Value.slice A1 (lim9 x).length c1] 56)).alloc (Obj.cells #[Value.bool sb, Value.slice A2 (lim9 y).length c2] 56)).heap.size = g + 2 := by rw [World.size_alloc, World.size_alloc, hg]
      rw [World.size_alloc] at x2
      rw [hg] at x1 x2 x3 ⊢
      generalize (w3.alloc (Obj.cells #[Value.bool sa, Value.slice A1 (lim9 x).length c1] 56)).alloc (Obj.cells #[Value.bool sb, Value.slice A2 (lim9 y).length c2] 56) = W4 at *
      have c0 : W4.cell? ⟨g, 0, none⟩ = some (.bool sa) := by rw [Lib.cell_of_heap x3]; rfl
      have c1' : W4.cell? ⟨g, 1, none⟩ = some (.slice A1 (lim9 x).length c1) := by rw [Lib.cell_of_heap x3]; rfl
      have c2' : W4.cell? ⟨g + 1, 0, none⟩ = some (.bool sb) := by rw [Lib.cell_of_heap x2]; rfl
      have c3 : W4.cell? ⟨g + 1, 1, none⟩ = some (.slice A2 (lim9 y).length c2) := by rw [Lib.cell_of_heap x2]; rfl
      have s1 := (S1.out.below H6.out).below x4
      have s2 := S2.out.below x4
      have hbw := (H4.out.trans (H6.out.mono H4.out.size)).trans (x4.mono (Nat.le_trans H4.out.size H6.out.size))
      have hg4 : g < W4.heap.size := by omega
      have hg5 : g + 1 < W4.heap.size := by omega
      have HBW := Lib.hid hbw
      have X1 := Lib.hid x3
      have X2 := Lib.hid x2
      have T1 := Lib.hid s1
      have T2 := Lib.hid s2
      have S3 := Lib.hid (S1.out.below H6.out)
      have X4 := Lib.hid x4
      have HG := Lib.hid hg
      have hwg : w.heap.size ≤ g := by
        rw [← hg]
        first
          | exact Nat.le_trans H3.out.size (Nat.le_trans H4.out.size H6.out.size)
          | exact Nat.le_trans H4.out.size H6.out.size
      have HWG := Lib.hid hwg
      clear hbw x1 x2 x3 x4 x5 s1 s2 hg hwg
      by_cases hs : sa = sb
      · subst hs
        have hpl := fun W (hW : Below W4.heap.size W4 W) => plus_any A1 A2 c1 c2 x y W (T1.out.below hW) (T2.out.below hW) (by omega) (by omega)
        have hcl := fun A c W (hs : Sl W .u64 A c (lim9 (x + y))) (hW : Below w.heap.size w W) => close_any sa A c (x + y) W hs (by omega) (HT.out.below hW)
        rw [E1.out rfl] at hcl
        have HPL := Lib.hid hpl
        have HCL := Lib.hid hcl
        clear hpl hcl
        go_upto_region 8 with fail
        go_region_held3 (fun w' => w'.cell? ⟨g, 0, none⟩ = some (.bool sa) ∧ w'.cell? ⟨g, 1, none⟩ = some (.slice A1 (lim9 x).length c1) ∧ w'.cell? ⟨g + 1, 1, none⟩ = some (.slice A2 (lim9 y).length c2))
          (first | exact ⟨c0, c1', c3⟩ | exact ⟨d0, d1, d3⟩ | exact ⟨e0, e1, e3⟩)
          (first
            | (go_at_call 48; refine (HPL.out _ ?_).mono ?_; (first | exact Below.refl _ _ | exact (Below.refl _ _).drew); rintro e w5 ⟨A5, c5, rfl, h7, h8⟩; have d0 := (h8.cell (p := ⟨g, 0, none⟩) hg4).trans c0; have d1 := (h8.cell (p := ⟨g, 1, none⟩) hg4).trans c1'; have d3 := (h8.cell (p := ⟨g + 1, 1, none⟩) hg5).trans c3; have h9 := h8.size; have S5 := Lib.hid h7; have H8 := Lib.hid (HBW.out.drew.trans (h8.mono HBW.out.size)); clear h7 h8)
            | (go_at_call 38; refine (HCL.out _ _ _ S5.out H8.out).mono ?_; rintro e w6 ⟨rfl, h10⟩; have e0 := (h10.cell (p := ⟨g, 0, none⟩) (Nat.lt_of_lt_of_le hg4 h9)).trans d0; have e1 := (h10.cell (p := ⟨g, 1, none⟩) (Nat.lt_of_lt_of_le hg4 h9)).trans d1; have e3 := (h10.cell (p := ⟨g + 1, 1, none⟩) (Nat.lt_of_lt_of_le hg5 h9)).trans d3; have H11 := Lib.hid (H8.out.trans (h10.mono H8.out.size)); clear h10))
        all_goals
          go_wp2
          go_ret
          exact ⟨rfl, H11.out⟩
      · have t1 : (sa == sb) = false := beq_eq_false_iff_ne.2 hs
        have ho := fun W (hW : Below W4.heap.size W4 W) => order_any A1 A2 c1 c2 x y W (T1.out.below hW) (T2.out.below hW) (by omega) (by omega)
        by_cases hlt : x < y
        · rw [cmpN_lt hlt] at ho
          have HO := Lib.hid ho
          have hz := E3.out hs hlt
          have f0 := Lib.frozen_of_heap X1.out 0
          have f1 := Lib.frozen_of_heap X1.out 1
          have f2 := Lib.frozen_of_heap X2.out 0
          have f3 := Lib.frozen_of_heap X2.out 1
          have HZ := Lib.hid hz
          clear ho hz
          go_upto_region 11 with (go_at_call 49; refine (HO.out _ (Below.refl _ _)).mono ?_; rintro e w5 ⟨rfl, nd, rfl⟩)
          obtain ⟨W5, hW5⟩ : ∃ W5, (((((W4.drewN nd).setCell ⟨g, 0, none⟩ (.bool sb)).setCell ⟨g, 1, none⟩ (.slice A2 (lim9 y).length c2)).setCell ⟨g + 1, 0, none⟩ (.bool sa)).setCell ⟨g + 1, 1, none⟩ (.slice A1 (lim9 x).length c1)) = W5 := ⟨_, rfl⟩
          rw [hW5]
          obtain ⟨y1, y2, y3, y4⟩ := swap_boxes nd X1.out X2.out hW5
          clear hW5 c0 c1' c2' c3 f0 f1 f2 f3
          have c0 : W5.cell? ⟨g, 0, none⟩ = some (.bool sb) := by rw [Lib.cell_of_heap y1]; rfl
          have c1' : W5.cell? ⟨g, 1, none⟩ = some (.slice A2 (lim9 y).length c2) := by rw [Lib.cell_of_heap y1]; rfl
          have c3 : W5.cell? ⟨g + 1, 1, none⟩ = some (.slice A1 (lim9 x).length c1) := by rw [Lib.cell_of_heap y2]; rfl
          have v0 : Below w3.heap.size w3 W5 := y4 _ _ (by rw [HG.out]; exact Nat.le_refl _) X4.out
          have v1 := S3.out.below v0
          have v2 := S2.out.below v0
          have hb5 := y4 _ _ HWG.out HBW.out
          have V1 := Lib.hid v1
          have V2 := Lib.hid v2
          have HB5 := Lib.hid hb5
          have hg4 : g < W5.heap.size := by omega
          have hg5 : g + 1 < W5.heap.size := by omega
          have hmi := fun W (hW : Below W5.heap.size W5 W) => minus_any A2 A1 c2 c1 y x W (V2.out.below hW) (V1.out.below hW) (by omega) (by omega)
          have hdl : (lim9 (y - x)).length ≤ 20000 := Nat.le_trans (lim_len_mono 1000000000 (by omega) (y - x) y (Nat.sub_le y x)) (show (lim9 y).length ≤ 20000 by omega)
          have hcl := fun A c W (hs : Sl W .u64 A c (lim9 (y - x))) (hW : Below w.heap.size w W) => close_any sb A c (y - x) W hs (by omega) (HT.out.below hW)
          rw [HZ.out] at hcl
          have HMI := Lib.hid hmi
          have HCL := Lib.hid hcl
          clear hmi hcl y1 y2 y3 y4 v0 v1 v2 hb5 hlt
          go_region_held3 (fun w' => w'.cell? ⟨g, 0, none⟩ = some (.bool sb) ∧ w'.cell? ⟨g, 1, none⟩ = some (.slice A2 (lim9 y).length c2) ∧ w'.cell? ⟨g + 1, 1, none⟩ = some (.slice A1 (lim9 x).length c1))
            (first | exact ⟨c0, c1', c3⟩ | exact ⟨d0, d1, d3⟩ | exact ⟨e0, e1, e3⟩)
            (first
              | (go_at_call 50; refine (HMI.out _ ?_).mono ?_; (first | exact Below.refl _ _ | exact (Below.refl _ _).drew); rintro e w6 ⟨A5, c5, rfl, h7, h8⟩; have d0 := (h8.cell (p := ⟨g, 0, none⟩) hg4).trans c0; have d1 := (h8.cell (p := ⟨g, 1, none⟩) hg4).trans c1'; have d3 := (h8.cell (p := ⟨g + 1, 1, none⟩) hg5).trans c3; have h9 := h8.size; have S5 := Lib.hid h7; have H8 := Lib.hid (HB5.out.drew.trans (h8.mono HB5.out.size)); clear h7 h8)
              | (go_at_call 38; refine (HCL.out _ _ _ S5.out H8.out).mono ?_; rintro e w7 ⟨rfl, h10⟩; have e0 := (h10.cell (p := ⟨g, 0, none⟩) (Nat.lt_of_lt_of_le hg4 h9)).trans d0; have e1 := (h10.cell (p := ⟨g, 1, none⟩) (Nat.lt_of_lt_of_le hg4 h9)).trans d1; have e3 := (h10.cell (p := ⟨g + 1, 1, none⟩) (Nat.lt_of_lt_of_le hg5 h9)).trans d3; have H11 := Lib.hid (H8.out.trans (h10.mono H8.out.size)); clear h10))
          all_goals
            go_wp2
            go_ret
            exact ⟨rfl, H11.out⟩
        · obtain ⟨r0, hr0⟩ : ∃ z, cmpN x y = z := ⟨_, rfl⟩
          have hr1 : 0 ≤ r0 := by rw [← hr0]; unfold cmpN; rw [if_neg hlt]; split <;> omega
          rw [hr0] at ho
          have HO := Lib.hid ho
          have hmi := fun W (hW : Below W4.heap.size W4 W) => minus_any A1 A2 c1 c2 x y W (T1.out.below hW) (T2.out.below hW) (by omega) (by omega)
          have hdl : (lim9 (x - y)).length ≤ 20000 := Nat.le_trans (lim_len_mono 1000000000 (by omega) (x - y) x (Nat.sub_le x y)) (show (lim9 x).length ≤ 20000 by omega)
          have hcl := fun A c W (hs : Sl W .u64 A c (lim9 (x - y))) (hW : Below w.heap.size w W) => close_any sa A c (x - y) W hs (by omega) (HT.out.below hW)
          rw [E2.out hs (by omega)] at hcl
          have HMI := Lib.hid hmi
          have HCL := Lib.hid hcl
          clear ho hmi hcl hr0 hlt
          go_upto_region 11 with (go_at_call 49; refine (HO.out _ (Below.refl _ _)).mono ?_; rintro e w5 ⟨rfl, nd, rfl⟩)
          obtain ⟨W5, hW5⟩ : ∃ W5, W4.drewN nd = W5 := ⟨_, rfl⟩
          rw [hW5]
          have l5 : Below W4.heap.size W4 W5 := by rw [← hW5]; exact (Drew.of _ nd).below _
          have z5 : W5.heap.size = W4.heap.size := by rw [← hW5]; rfl
          have c0 : W5.cell? ⟨g, 0, none⟩ = some (.bool sa) := by rw [← hW5]; exact c0
          have c1' : W5.cell? ⟨g, 1, none⟩ = some (.slice A1 (lim9 x).length c1) := by rw [← hW5]; exact c1'
          have c3 : W5.cell? ⟨g + 1, 1, none⟩ = some (.slice A2 (lim9 y).length c2) := by rw [← hW5]; exact c3
          have hg4 : g < W5.heap.size := by omega
          have hg5 : g + 1 < W5.heap.size := by omega
          have hb5 := HBW.out.trans (l5.mono HBW.out.size)
          have L5 := Lib.hid l5
          have HB5 := Lib.hid hb5
          clear hW5 l5 z5 hb5
          go_region_held3 (fun w' => w'.cell? ⟨g, 0, none⟩ = some (.bool sa) ∧ w'.cell? ⟨g, 1, none⟩ = some (.slice A1 (lim9 x).length c1) ∧ w'.cell? ⟨g + 1, 1, none⟩ = some (.slice A2 (lim9 y).length c2))
            (first | exact ⟨c0, c1', c3⟩ | exact ⟨d0, d1, d3⟩ | exact ⟨e0, e1, e3⟩)
            (first
              | (go_at_call 50; refine (HMI.out _ ?_).mono ?_; (first | exact L5.out | exact L5.out.drew); rintro e w6 ⟨A5, c5, rfl, h7, h8⟩; have d0 := (h8.cell (p := ⟨g, 0, none⟩) hg4).trans c0; have d1 := (h8.cell (p := ⟨g, 1, none⟩) hg4).trans c1'; have d3 := (h8.cell (p := ⟨g + 1, 1, none⟩) hg5).trans c3; have h9 := h8.size; have S5 := Lib.hid h7; have H8 := Lib.hid (HB5.out.drew.trans (h8.mono HB5.out.size)); clear h7 h8)
              | (go_at_call 38; refine (HCL.out _ _ _ S5.out H8.out).mono ?_; rintro e w7 ⟨rfl, h10⟩; have e0 := (h10.cell (p := ⟨g, 0, none⟩) (Nat.lt_of_lt_of_le hg4 h9)).trans d0; have e1 := (h10.cell (p := ⟨g, 1, none⟩) (Nat.lt_of_lt_of_le hg4 h9)).trans d1; have e3 := (h10.cell (p := ⟨g + 1, 1, none⟩) (Nat.lt_of_lt_of_le hg5 h9)).trans d3; have H11 := Lib.hid (H8.out.trans (h10.mono H8.out.size)); clear h10))
          all_goals
            go_wp2
            go_ret
            exact ⟨rfl, H11.out⟩


end Go.Proofs.YtmkeigfckfkifaaDoor
