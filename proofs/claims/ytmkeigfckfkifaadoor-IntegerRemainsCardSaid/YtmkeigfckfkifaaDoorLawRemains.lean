/- IntegerRemains: for any two described integers of at most 30 digits the call returns true and leaves the descriptions as they were. Conditions: those of the given row alone. -/
import Derived.Test.YtmkeigfckfkifaaDoorLawBase
import Derived.Test.YtmkeigfckfkifaaDoorSub
import Derived.Test.YtmkeigfckfkifaaDoorDivMod2
import Derived.Test.YtmkeigfckfkifaaDoorMake
import Derived.Deep.RegionHeld3
import Derived.Deep.CutRange
namespace Go.Proofs.YtmkeigfckfkifaaDoor
open Go.RowKit

theorem first_rem {w W : World} (h : Below w.heap.size w W) : Below w.heap.size w W.drew := h.drew

theorem mulabs_below {x y : Int} {m n : Nat} (hx : x.natAbs < 10 ^ m) (hy : y.natAbs < 10 ^ n) : (x * y).natAbs < 10 ^ (m + n) := by
  rw [Int.natAbs_mul, Nat.pow_add]
  exact Nat.mul_lt_mul_of_lt_of_lt hx hy

theorem root_any (z : Int) (hz : 0 ≤ z) (w : World) (ht : Pow10 w) (hsz : (canon z).size ≤ 10000) :
    Calls Tryd.prog 22 #[.string (canon z)] w fun e w' => (∃ r, IsRoot z.natAbs r ∧ e = .returned (.tuple #[.string (canon (r : Int)), .int .i64 0])) ∧ Below w.heap.size w w' := by
  obtain ⟨n, rfl⟩ := Int.eq_ofNat_of_zero_le hz
  rcases Nat.eq_zero_or_pos n with h | h
  · subst h
    exact (root_zero w).mono fun e w' h => ⟨⟨0, ⟨by simp, by simp⟩, h.1⟩, h.2⟩
  · exact root_pos n w h ht hsz

theorem root_le {n r : Nat} (h : IsRoot n r) : r ≤ n := Nat.le_trans (Nat.le_mul_self r) h.1

theorem root_under {z : Int} {r : Nat} (hz : 0 ≤ z) (h : IsRoot z.natAbs r) : ((r : Int) * (r : Int) - z).sign ≤ 0 := by
  have h1 := h.1
  have h2 : ((r * r : Nat) : Int) = (r : Int) * (r : Int) := Int.natCast_mul r r
  rw [← h2]
  rcases Int.lt_trichotomy (((r * r : Nat) : Int) - z) 0 with h3 | h3 | h3
  · rw [Int.sign_eq_neg_one_of_neg h3]; omega
  · rw [h3]; exact Int.le_refl _
  · omega

theorem root_over {z : Int} {r : Nat} (hz : 0 ≤ z) (h : IsRoot z.natAbs r) : (((r : Int) + 1) * ((r : Int) + 1) - z).sign = 1 := by
  have h1 := h.2
  have h2 : (((r + 1) * (r + 1) : Nat) : Int) = ((r : Int) + 1) * ((r : Int) + 1) := by rw [Int.natCast_mul]; rfl
  rw [← h2]
  exact Int.sign_eq_one_of_pos (by omega)

theorem sign_nonneg_of {z : Int} (h : 0 ≤ z) : 0 ≤ z.sign := by
  rcases Int.lt_trichotomy z 0 with h3 | h3 | h3
  · omega
  · rw [h3]; exact Int.le_refl _
  · rw [Int.sign_eq_one_of_pos h3]; omega

set_option maxRecDepth 100000 in
set_option maxHeartbeats 8000000 in
theorem remains_walk (m1 m2 : Bool) (A1 A2 : Option Addr) (p1 p2 : Nat) (d1 d2 : List Int) (w : World) (h1 : Sl w .u8 A1 p1 d1) (h2 : Sl w .u8 A2 p2 d2) (r1 : ∀ x ∈ d1, 0 ≤ x ∧ x < 256) (r2 : ∀ x ∈ d2, 0 ≤ x ∧ x < 256) (ht : Pow10 w) :
    Calls Tryd.prog 7 #[.agg #[.bool m1, .slice A1 d1.length p1], .agg #[.bool m2, .slice A2 d2.length p2]] w fun e w' => e = .returned (.bool true) ∧ Below w.heap.size w w' := by
  have hk := fun W (hW : Below w.heap.size w W) => known_any W (ht.below hW)
  have k1 := fun W (hW : Below w.heap.size w W) => make_any m1 A1 p1 d1 30 W (h1.below hW) r1 (by omega) (by omega)
  have k2 := fun W (hW : Below w.heap.size w W) => make_any m2 A2 p2 d2 30 W (h2.below hW) r2 (by omega) (by omega)
  have HK := Lib.hid hk
  have K1 := Lib.hid k1
  have K2 := Lib.hid k2
  have HT := Lib.hid ht
  have z1 : (w.alloc (Obj.cells #[Value.bool m1, Value.slice A1 d1.length p1] 30)).heap.size = w.heap.size + 1 := World.size_alloc ..
  have z2 : ((w.alloc (Obj.cells #[Value.bool m1, Value.slice A1 d1.length p1] 30)).alloc (Obj.cells #[Value.bool m2, Value.slice A2 d2.length p2] 30)).heap.size = w.heap.size + 2 := by rw [World.size_alloc, z1]
  have b0 : Below w.heap.size w ((w.alloc (Obj.cells #[Value.bool m1, Value.slice A1 d1.length p1] 30)).alloc (Obj.cells #[Value.bool m2, Value.slice A2 d2.length p2] 30)) := ((Below.refl _ _).alloc (Nat.le_refl _) _).alloc (by rw [z1]; omega) _
  have x1 := heap_more (heap_alloc_new w (Obj.cells #[Value.bool m1, Value.slice A1 d1.length p1] 30)) (Obj.cells #[Value.bool m2, Value.slice A2 d2.length p2] 30)
  have x2 := heap_alloc_new (w.alloc (Obj.cells #[Value.bool m1, Value.slice A1 d1.length p1] 30)) (Obj.cells #[Value.bool m2, Value.slice A2 d2.length p2] 30)
  rw [z1] at x2
  have B0 := Lib.hid b0
  have X1 := Lib.hid x1
  have X2 := Lib.hid x2
  have Z2 := Lib.hid z2
  clear hk k1 k2 ht b0 x1 x2 h1 h2 r1 r2 z1 z2
  go_enter Tryd.func7, Tryd.ntmps7
  go_upto_region 3 with (go_at_call 9; refine (HK.out _ B0.out).mono ?_; rintro e w1 ⟨rfl, b1⟩; have B1 := Lib.hid b1; clear b1)
  have y1 := (B1.out.block w.heap.size (by rw [Z2.out]; omega)).trans X1.out
  have y2 := (B1.out.block (w.heap.size + 1) (by rw [Z2.out]; omega)).trans X2.out
  have bw1 := B0.out.trans (B1.out.mono B0.out.size)
  have c0 : w1.cell? ⟨w.heap.size, 0, none⟩ = some (.bool m1) := by rw [Lib.cell_of_heap y1]; rfl
  have c1 : w1.cell? ⟨w.heap.size, 1, none⟩ = some (.slice A1 d1.length p1) := by rw [Lib.cell_of_heap y1]; rfl
  have c2 : w1.cell? ⟨w.heap.size + 1, 0, none⟩ = some (.bool m2) := by rw [Lib.cell_of_heap y2]; rfl
  have c3 : w1.cell? ⟨w.heap.size + 1, 1, none⟩ = some (.slice A2 d2.length p2) := by rw [Lib.cell_of_heap y2]; rfl
  have hs1 : w.heap.size < w1.heap.size := (Array.getElem?_eq_some_iff.1 y1).1
  have hs2 : w.heap.size + 1 < w1.heap.size := (Array.getElem?_eq_some_iff.1 y2).1
  have BW1 := Lib.hid bw1
  clear y1 y2 bw1 B0 B1 X1 X2 Z2
  go_cut [5, 6] from 15 to 18 (fun e1 e2 wx => ∃ z1 z2 : Int, e1 = .string (canon z1) ∧ e2 = .string (canon z2) ∧ z1.natAbs < 10 ^ 30 ∧ z2.natAbs < 10 ^ 30 ∧ Below w.heap.size w wx)
  case first =>
    clear HT
    go_region_held3 (fun w' => w'.cell? ⟨w.heap.size, 0, none⟩ = some (.bool m1) ∧ w'.cell? ⟨w.heap.size, 1, none⟩ = some (.slice A1 d1.length p1) ∧ w'.cell? ⟨w.heap.size + 1, 0, none⟩ = some (.bool m2) ∧ w'.cell? ⟨w.heap.size + 1, 1, none⟩ = some (.slice A2 d2.length p2))
      (first | exact ⟨c0, c1, c2, c3⟩ | exact ⟨e0, e1, e2, e3⟩ | exact ⟨f0, f1, f2, f3⟩)
      (first
        | (go_at_call_of 12 (Value.slice A1 d1.length p1); refine (K1.out _ ?_).mono ?_; (first | exact BW1.out | exact BW1.out.drew); rintro e w2 ⟨⟨z1, hz1, rfl⟩, b⟩; have e0 := (b.cell (p := ⟨w.heap.size, 0, none⟩) hs1).trans c0; have e1 := (b.cell (p := ⟨w.heap.size, 1, none⟩) hs1).trans c1; have e2 := (b.cell (p := ⟨w.heap.size + 1, 0, none⟩) hs2).trans c2; have e3 := (b.cell (p := ⟨w.heap.size + 1, 1, none⟩) hs2).trans c3; have q2 := b.size; have HZ1 := Lib.hid hz1; have B2 := Lib.hid (Below.trans (first_rem BW1.out) (b.mono BW1.out.size)); clear hz1 b)
        | (go_at_call_of 12 (Value.slice A2 d2.length p2); refine (K2.out _ B2.out).mono ?_; rintro e w3 ⟨⟨z2, hz2, rfl⟩, b⟩; have f0 := (b.cell (p := ⟨w.heap.size, 0, none⟩) (Nat.lt_of_lt_of_le hs1 q2)).trans e0; have f1 := (b.cell (p := ⟨w.heap.size, 1, none⟩) (Nat.lt_of_lt_of_le hs1 q2)).trans e1; have f2 := (b.cell (p := ⟨w.heap.size + 1, 0, none⟩) (Nat.lt_of_lt_of_le hs2 q2)).trans e2; have f3 := (b.cell (p := ⟨w.heap.size + 1, 1, none⟩) (Nat.lt_of_lt_of_le hs2 q2)).trans e3; have HZ2 := Lib.hid hz2; have B3 := Lib.hid (B2.out.trans (b.mono B2.out.size)); clear hz2 b))
    all_goals
      go_wp2_with fail
      go_meet
      exact ⟨z1, z2, rfl, rfl, HZ1.out, HZ2.out, B3.out⟩
  case rest =>
    obtain ⟨z1, z2, rfl, rfl, hz1, hz2, b4⟩ := hcut
    have B4 := Lib.hid b4
    clear b4 K1 K2 BW1 c0 c1 c2 c3 hs1 hs2
    have v1 := canon_size_lt z1 30 hz1 (by omega)
    have v2 := canon_size_lt z2 30 hz2 (by omega)
    have ls := fun W => sign_any z1 W
    obtain ⟨s, hs⟩ : ∃ s, z1.sign = s := ⟨_, rfl⟩
    rw [hs] at ls
    have LS := Lib.hid ls
    clear ls
    have hz2b := canon_beq0 z2
    have HQ : Hid (z2 ≠ 0 → (∀ W (hW : Below w.heap.size w W), Calls Tryd.prog 25 #[.string (canon z1), .string (canon z2)] W fun e w' => e = .returned (.tuple #[.string (canon (z1 / z2)), .string (canon (z1 % z2)), .int .i64 0]) ∧ Below W.heap.size W w')
      ∧ (∀ W (hW : Below w.heap.size w W), Calls Tryd.prog 13 #[.string (canon (z1 / z2)), .string (canon z2)] W fun e w' => e = .returned (.string (canon (z1 / z2 * z2))) ∧ Below W.heap.size W w')
      ∧ (∀ W (hW : Below w.heap.size w W), Calls Tryd.prog 23 #[.string (canon (z1 / z2 * z2)), .string (canon (z1 % z2))] W fun e w' => e = .returned (.string (canon z1)) ∧ Below W.heap.size W w')
      ∧ (∀ W, Calls Tryd.prog 21 #[.string (canon (z1 % z2))] W fun e w' => e = .returned (.int .i64 (z1 % z2).sign) ∧ W = w')
      ∧ 0 ≤ (z1 % z2).sign
      ∧ (∀ W, Calls Tryd.prog 26 #[.string (canon z2)] W fun e w' => e = .returned (.string (canon (z2.natAbs : Int))) ∧ Below W.heap.size W w')
      ∧ (∀ W, Calls Tryd.prog 24 #[.string (canon (z1 % z2)), .string (canon (z2.natAbs : Int))] W fun e w' => e = .returned (.int .i64 (-1)) ∧ W = w')) := by
      refine Lib.hid fun h0 => ?_
      have hq : (z1 / z2).natAbs < 10 ^ 30 := Nat.lt_of_le_of_lt (Int.natAbs_ediv_le_natAbs z1 z2) hz1
      have hr0 := Int.emod_nonneg z1 h0
      have hr1 : z1 % z2 < (z2.natAbs : Int) := Int.emod_lt z1 h0
      have hr : (z1 % z2).natAbs < 10 ^ 30 := by omega
      have vq := canon_size_lt (z1 / z2) 30 hq (by omega)
      have vr := canon_size_lt (z1 % z2) 30 hr (by omega)
      have vp := canon_size_lt (z1 / z2 * z2) 60 (mulabs_below hq hz2) (by omega)
      have e1 : z1 / z2 * z2 + z1 % z2 = z1 := by rw [Int.mul_comm]; exact Int.mul_ediv_add_emod z1 z2
      have e2 : (z1 % z2 - (z2.natAbs : Int)).sign = -1 := Int.sign_eq_neg_one_of_neg (by omega)
      refine ⟨fun W hW => divmod_any z1 z2 W (HT.out.below hW) (by omega) (by omega) h0, fun W hW => mul_any (z1 / z2) z2 W (HT.out.below hW) (by omega) (by omega), fun W hW => ?_, fun W => sign_any _ W, sign_nonneg_of hr0, fun W => abs_any z2 W, fun W => ?_⟩
      · have h := add_any (z1 / z2 * z2) (z1 % z2) W (HT.out.below hW) (by omega) (by omega)
        rw [e1] at h
        exact h
      · have h := compare_any (z1 % z2) (z2.natAbs : Int) W
        rw [e2] at h
        exact h
    have HZ2 := Lib.hid hz2b
    clear hz2b
    by_cases hz : z1 < 0
    · rw [Int.sign_eq_neg_one_of_neg hz] at hs
      subst hs
      clear hz hz1 hz2 v1 v2
      by_cases h0 : z2 = 0
      · have hd : ((canon z2).toList == [48]) = true := by rw [HZ2.out]; exact decide_eq_true h0
        clear HQ HZ2 h0
        go_wp2_with (first
          | (go_at_call_of 21 (Value.string (canon z1)); (with_reducible refine (LS.out _).mono ?_); rintro e w9 ⟨rfl, rfl⟩))
        go_ret
        exact ⟨rfl, B4.out⟩
      · have hd : ((canon z2).toList == [48]) = false := by rw [HZ2.out]; exact decide_eq_false h0
        obtain ⟨q1, q2, q3, q4, q5, q6, q7⟩ := HQ.out h0
        have Q1 := Lib.hid q1
        have Q2 := Lib.hid q2
        have Q3 := Lib.hid q3
        have Q4 := Lib.hid q4
        have Q6 := Lib.hid q6
        have Q7 := Lib.hid q7
        generalize (z1 % z2).sign = sm at *
        clear HQ HZ2 h0 q1 q2 q3 q4 q6 q7
        go_wp2_with (first
          | (go_at_call_of 21 (Value.string (canon z1)); (with_reducible refine (LS.out _).mono ?_); rintro e w9 ⟨rfl, rfl⟩)
          | (go_at_call_of 25 (Value.string (canon z2)); (with_reducible refine (Q1.out _ B4.out).mono ?_); rintro e w14 ⟨rfl, b⟩; have B5 := Lib.hid (B4.out.trans (b.mono B4.out.size)); clear b)
          | (go_at_call_of 13 (Value.string (canon z2)); (with_reducible refine (Q2.out _ B5.out).mono ?_); rintro e w15 ⟨rfl, b⟩; have B6 := Lib.hid (B5.out.trans (b.mono B5.out.size)); clear b)
          | (go_at_call_of 23 (Value.string (canon (z1 % z2))); (with_reducible refine (Q3.out _ B6.out).mono ?_); rintro e w16 ⟨rfl, b⟩; have B7 := Lib.hid (B6.out.trans (b.mono B6.out.size)); clear b)
          | (go_at_call_of 21 (Value.string (canon (z1 % z2))); (with_reducible refine (Q4.out _).mono ?_); rintro e w90 ⟨rfl, rfl⟩)
          | (go_at_call_of 26 (Value.string (canon z2)); (with_reducible refine (Q6.out _).mono ?_); rintro e w91 ⟨rfl, b⟩; have B8 := Lib.hid (B7.out.trans (b.mono B7.out.size)); clear b)
          | (go_at_call_of 24 (Value.string (canon (z1 % z2))); (with_reducible refine (Q7.out _).mono ?_); rintro e w92 ⟨rfl, rfl⟩))
        go_ret
        exact ⟨rfl, B8.out⟩
    · have hz0 : 0 ≤ z1 := by omega
      have hs0 : 0 ≤ s := by rw [← hs]; exact sign_nonneg_of hz0
      have ro := fun W (hW : Below w.heap.size w W) => root_any z1 hz0 W (HT.out.below hW) (by omega)
      have RO := Lib.hid ro
      have k1 := k_1
      have HU : Hid (∀ r, IsRoot z1.natAbs r → (∀ W (hW : Below w.heap.size w W), Calls Tryd.prog 23 #[.string (canon (r : Int)), .string ⟨#[49]⟩] W fun e w' => e = .returned (.string (canon ((r : Int) + 1))) ∧ Below W.heap.size W w')
        ∧ (∀ W (hW : Below w.heap.size w W), Calls Tryd.prog 13 #[.string (canon (r : Int)), .string (canon (r : Int))] W fun e w' => e = .returned (.string (canon ((r : Int) * (r : Int)))) ∧ Below W.heap.size W w')
        ∧ (∀ W, Calls Tryd.prog 24 #[.string (canon ((r : Int) * (r : Int))), .string (canon z1)] W fun e w' => e = .returned (.int .i64 ((r : Int) * (r : Int) - z1).sign) ∧ W = w')
        ∧ decide (0 < ((r : Int) * (r : Int) - z1).sign) = false
        ∧ (∀ W (hW : Below w.heap.size w W), Calls Tryd.prog 13 #[.string (canon ((r : Int) + 1)), .string (canon ((r : Int) + 1))] W fun e w' => e = .returned (.string (canon (((r : Int) + 1) * ((r : Int) + 1)))) ∧ Below W.heap.size W w')
        ∧ (∀ W, Calls Tryd.prog 24 #[.string (canon (((r : Int) + 1) * ((r : Int) + 1))), .string (canon z1)] W fun e w' => e = .returned (.int .i64 1) ∧ W = w')) := by
        refine Lib.hid fun r hr => ?_
        have hl := root_le hr
        have l1 : (r : Int).natAbs < 10 ^ 30 := by omega
        have l2 : ((r : Int) + 1).natAbs < 10 ^ 31 := by omega
        have vr := canon_size_lt (r : Int) 30 l1 (by omega)
        have vr1 := canon_size_lt ((r : Int) + 1) 31 l2 (by omega)
        have e1 := root_under hz0 hr
        have e2 := root_over hz0 hr
        refine ⟨fun W hW => ?_, fun W hW => mul_any _ _ W (HT.out.below hW) (by omega) (by omega), fun W => compare_any _ _ W, decide_eq_false (by omega), fun W hW => mul_any _ _ W (HT.out.below hW) (by omega) (by omega), fun W => ?_⟩
        · rw [← k1]
          exact add_any (r : Int) 1 W (HT.out.below hW) (by omega) (by rw [k1]; decide)
        · have h := compare_any (((r : Int) + 1) * ((r : Int) + 1)) z1 W
          rw [e2] at h
          exact h
      clear ro hs hz hz0 hz1 hz2 v1 v2 k1
      by_cases h0 : z2 = 0
      · have hd : ((canon z2).toList == [48]) = true := by rw [HZ2.out]; exact decide_eq_true h0
        clear HQ HZ2 h0
        go_wp2_with (first
          | (go_at_call_of 21 (Value.string (canon z1)); (with_reducible refine (LS.out _).mono ?_); rintro e w9 ⟨rfl, rfl⟩)
          | (go_at_call_of 22 (Value.string (canon z1)); (with_reducible refine (RO.out _ B4.out).mono ?_); rintro e w14 ⟨⟨r, hr, rfl⟩, b⟩; obtain ⟨u1, u2, u3, u4, u5, u6⟩ := HU.out r hr; generalize ((r : Int) * (r : Int) - z1).sign = sr at *; generalize ((r : Int) + 1) = t at *; generalize t * t = t2 at *; generalize (r : Int) = rz at *; generalize rz * rz = rz2 at *; have U1 := Lib.hid u1; have U2 := Lib.hid u2; have U3 := Lib.hid u3; have U5 := Lib.hid u5; have U6 := Lib.hid u6; have B5 := Lib.hid (B4.out.trans (b.mono B4.out.size)); clear b hr u1 u2 u3 u5 u6)
          | (go_at_call_of 23 (Value.string (canon rz)); (with_reducible refine (U1.out _ B5.out).mono ?_); rintro e w15 ⟨rfl, b⟩; have B6 := Lib.hid (B5.out.trans (b.mono B5.out.size)); clear b)
          | (go_at_call_of 13 (Value.string (canon rz)); (with_reducible refine (U2.out _ B6.out).mono ?_); rintro e w16 ⟨rfl, b⟩; have B7 := Lib.hid (B6.out.trans (b.mono B6.out.size)); clear b)
          | (go_at_call_of 24 (Value.string (canon rz2)); (with_reducible refine (U3.out _).mono ?_); rintro e w80 ⟨rfl, rfl⟩)
          | (go_at_call_of 13 (Value.string (canon t)); (with_reducible refine (U5.out _ B7.out).mono ?_); rintro e w17 ⟨rfl, b⟩; have B8 := Lib.hid (B7.out.trans (b.mono B7.out.size)); clear b)
          | (go_at_call_of 24 (Value.string (canon t2)); (with_reducible refine (U6.out _).mono ?_); rintro e w81 ⟨rfl, rfl⟩))
        go_ret
        exact ⟨rfl, B8.out⟩
      · have hd : ((canon z2).toList == [48]) = false := by rw [HZ2.out]; exact decide_eq_false h0
        obtain ⟨q1, q2, q3, q4, q5, q6, q7⟩ := HQ.out h0
        have Q1 := Lib.hid q1
        have Q2 := Lib.hid q2
        have Q3 := Lib.hid q3
        have Q4 := Lib.hid q4
        have Q6 := Lib.hid q6
        have Q7 := Lib.hid q7
        generalize (z1 % z2).sign = sm at *
        clear HQ HZ2 h0 q1 q2 q3 q4 q6 q7
        go_wp2_with (first
          | (go_at_call_of 21 (Value.string (canon z1)); (with_reducible refine (LS.out _).mono ?_); rintro e w9 ⟨rfl, rfl⟩)
          | (go_at_call_of 22 (Value.string (canon z1)); (with_reducible refine (RO.out _ B4.out).mono ?_); rintro e w14 ⟨⟨r, hr, rfl⟩, b⟩; obtain ⟨u1, u2, u3, u4, u5, u6⟩ := HU.out r hr; generalize ((r : Int) * (r : Int) - z1).sign = sr at *; generalize ((r : Int) + 1) = t at *; generalize t * t = t2 at *; generalize (r : Int) = rz at *; generalize rz * rz = rz2 at *; have U1 := Lib.hid u1; have U2 := Lib.hid u2; have U3 := Lib.hid u3; have U5 := Lib.hid u5; have U6 := Lib.hid u6; have B5 := Lib.hid (B4.out.trans (b.mono B4.out.size)); clear b hr u1 u2 u3 u5 u6)
          | (go_at_call_of 23 (Value.string (canon rz)); (with_reducible refine (U1.out _ B5.out).mono ?_); rintro e w15 ⟨rfl, b⟩; have B6 := Lib.hid (B5.out.trans (b.mono B5.out.size)); clear b)
          | (go_at_call_of 13 (Value.string (canon rz)); (with_reducible refine (U2.out _ B6.out).mono ?_); rintro e w16 ⟨rfl, b⟩; have B7 := Lib.hid (B6.out.trans (b.mono B6.out.size)); clear b)
          | (go_at_call_of 24 (Value.string (canon rz2)); (with_reducible refine (U3.out _).mono ?_); rintro e w80 ⟨rfl, rfl⟩)
          | (go_at_call_of 13 (Value.string (canon t)); (with_reducible refine (U5.out _ B7.out).mono ?_); rintro e w17 ⟨rfl, b⟩; have B8 := Lib.hid (B7.out.trans (b.mono B7.out.size)); clear b)
          | (go_at_call_of 24 (Value.string (canon t2)); (with_reducible refine (U6.out _).mono ?_); rintro e w81 ⟨rfl, rfl⟩)
          | (go_at_call_of 25 (Value.string (canon z2)); (with_reducible refine (Q1.out _ B8.out).mono ?_); rintro e w18 ⟨rfl, b⟩; have B9 := Lib.hid (B8.out.trans (b.mono B8.out.size)); clear b)
          | (go_at_call_of 13 (Value.string (canon z2)); (with_reducible refine (Q2.out _ B9.out).mono ?_); rintro e w19 ⟨rfl, b⟩; have B10 := Lib.hid (B9.out.trans (b.mono B9.out.size)); clear b)
          | (go_at_call_of 23 (Value.string (canon (z1 % z2))); (with_reducible refine (Q3.out _ B10.out).mono ?_); rintro e w20 ⟨rfl, b⟩; have B11 := Lib.hid (B10.out.trans (b.mono B10.out.size)); clear b)
          | (go_at_call_of 21 (Value.string (canon (z1 % z2))); (with_reducible refine (Q4.out _).mono ?_); rintro e w90 ⟨rfl, rfl⟩)
          | (go_at_call_of 26 (Value.string (canon z2)); (with_reducible refine (Q6.out _).mono ?_); rintro e w91 ⟨rfl, b⟩; have B12 := Lib.hid (B11.out.trans (b.mono B11.out.size)); clear b)
          | (go_at_call_of 24 (Value.string (canon (z1 % z2))); (with_reducible refine (Q7.out _).mono ?_); rintro e w92 ⟨rfl, rfl⟩))
        go_ret
        exact ⟨rfl, B12.out⟩

end Go.Proofs.YtmkeigfckfkifaaDoor
