/- IntegerRoots: for any described integer of at most 40 digits, and a square near it: the walk: the call returns true and leaves the description as it was. Conditions: those of the given row alone. -/
import Derived.Test.YtmkeigfckfkifaaGreatDoorGLaw
import Derived.Test.YtmkeigfckfkifaaGreatDoorGRefB
import Derived.Deep.RegionHeld3
import Derived.Deep.CutRange
namespace Go.Proofs.YtmkeigfckfkifaaGreatDoor
open Go.RowKit

theorem first_root {w W : World} (h : Below w.heap.size w W) : Below w.heap.size w W.drew := h.drew

theorem root_there (n : Nat) : ∃ r, IsRoot n r := by
  induction n with
  | zero => exact ⟨0, by simp, by simp⟩
  | succ n ih =>
    obtain ⟨r, h1, h2⟩ := ih
    by_cases h : (r + 1) * (r + 1) ≤ n + 1
    · refine ⟨r + 1, h, ?_⟩
      have h3 : (r + 1 + 1) * (r + 1 + 1) = (r + 1) * (r + 1) + 2 * r + 3 := by grind
      omega
    · exact ⟨r, by omega, by omega⟩

theorem roots_at (z : Int) (hz : 0 ≤ z) (w : World) (ht : Pow10 w) (hs : (canon z).size ≤ 200) : ∃ r : Nat,
    (∀ W, Below w.heap.size w W → Calls Tryz.prog 18 #[.string (canon z)] W fun e w' => e = .returned (.tuple #[.string (canon (r : Int)), .int .i64 0]) ∧ Below W.heap.size W w') ∧
    (∀ W, Below w.heap.size w W → Calls Tryz.prog 20 #[.string (canon z)] W fun e w' => e = .returned (.string (canon (r : Int))) ∧ Below W.heap.size W w') := by
  obtain ⟨n, rfl⟩ := Int.eq_ofNat_of_zero_le hz
  rcases Nat.eq_zero_or_pos n with h | h
  · subst h
    exact ⟨0, fun W _ => root_zero W, fun W _ => (rootR_zero W).mono fun e w' ⟨h1, h2⟩ => ⟨h1, by subst h2; exact Below.refl _ _⟩⟩
  · obtain ⟨r, hr⟩ := root_there n
    refine ⟨r, fun W hW => (root_pos n W h (ht.below hW) (by have : (canon (n : Int)).size ≤ 200 := hs; omega)).mono fun e w' ⟨⟨r2, h2, h3⟩, h4⟩ => ⟨by rw [isRoot_unique hr h2]; exact h3, h4⟩,
      fun W hW => (rootR_pos n W h (ht.below hW) hs).mono fun e w' ⟨⟨r2, h2, h3⟩, h4⟩ => ⟨by rw [isRoot_unique hr h2]; exact h3, h4⟩⟩

set_option maxRecDepth 100000 in
set_option maxHeartbeats 8000000 in
theorem roots_walk (m1 : Bool) (A1 : Option Addr) (p1 : Nat) (d1 : List Int) (near : Int) (w : World) (h1 : Sl w .u8 A1 p1 d1) (r1 : ∀ x ∈ d1, 0 ≤ x ∧ x < 256) (hn0 : -128 ≤ near) (hn1 : near ≤ 127) (ht : Pow10 w) :
    Calls Tryz.prog 5 #[.agg #[.bool m1, .slice A1 d1.length p1], .int .i8 near] w fun e w' => e = .returned (.bool true) ∧ Below w.heap.size w w' := by
  have hk := fun W (hW : Below w.heap.size w W) => known_any W (ht.below hW)
  have k1 := fun W (hW : Below w.heap.size w W) => make_any m1 A1 p1 d1 40 W (h1.below hW) r1 (by omega) (by omega)
  have k2 := fun W (hW : Below w.heap.size w W) => make_any m1 A1 p1 d1 20 W (h1.below hW) r1 (by omega) (by omega)
  have mu := fun (x y : Int) (hx : x.natAbs < 10 ^ 20) (hy : y.natAbs < 10 ^ 20) W (hW : Below w.heap.size w W) => mulR_any x y W (ht.below hW) (by have := canon_size_lt x 20 hx (by omega); omega) (by have := canon_size_lt y 20 hy (by omega); omega)
  have hxy : ∀ x y : Int, x.natAbs < 10 ^ 20 → y.natAbs < 10 ^ 20 → (canon (x * y)).size ≤ 41 := fun x y hx hy => by
    refine canon_size_lt (x * y) 40 ?_ (by omega)
    rw [Int.natAbs_mul, show (40 : Nat) = 20 + 20 from rfl, Nat.pow_add]
    exact Nat.mul_lt_mul_of_lt_of_lt hx hy
  have hnear : (canon near).size ≤ 4 := canon_size_lt near 3 (by omega) (by omega)
  have ad := fun (x y : Int) (hx : x.natAbs < 10 ^ 20) (hy : y.natAbs < 10 ^ 20) W (hW : Below w.heap.size w W) => addR_any (x * y) near W (ht.below hW) (by have := hxy x y hx hy; omega) (by omega)
  have of := fun W (hW : Below w.heap.size w W) => ofR_any near (by omega) (by omega) W (ht.below hW)
  have hsum : ∀ x y : Int, x.natAbs < 10 ^ 20 → y.natAbs < 10 ^ 20 → (canon (x * y + near)).size ≤ 100 := fun x y hx hy => by
    have h3 : (x * y).natAbs < 10 ^ 40 := by
      rw [Int.natAbs_mul, show (40 : Nat) = 20 + 20 from rfl, Nat.pow_add]
      exact Nat.mul_lt_mul_of_lt_of_lt hx hy
    have := canon_size_lt (x * y + near) 41 (by omega) (by omega)
    omega
  have HWR : Hid (IntKind.i64.wrap near = near) := by
    show IntKind.i64.wrap near = near
    simp [IntKind.wrap, IntKind.bits, IntKind.signed]
    omega
  have HK := Lib.hid hk
  have K1 := Lib.hid k1
  have K2 := Lib.hid k2
  have MU := Lib.hid mu
  have AD := Lib.hid ad
  have OF := Lib.hid of
  have HT := Lib.hid ht
  have HSUM := Lib.hid hsum
  have b0 : Below w.heap.size w (w.alloc (.cells #[.bool m1, .slice A1 d1.length p1] 24)) := (Below.refl _ _).alloc (Nat.le_refl _) _
  have x1 := heap_alloc_new w (Obj.cells #[Value.bool m1, Value.slice A1 d1.length p1] 24)
  have z0 : (w.alloc (Obj.cells #[Value.bool m1, Value.slice A1 d1.length p1] 24)).heap.size = w.heap.size + 1 := World.size_alloc ..
  have B0 := Lib.hid b0
  have X1 := Lib.hid x1
  have Z0 := Lib.hid z0
  clear hk k1 k2 mu ad of hxy hsum hnear ht b0 x1 h1 r1 z0
  go_enter Tryz.func5, Tryz.ntmps5
  go_upto_region 3 with (go_at_call 9; refine (HK.out _ B0.out).mono ?_; rintro e w1 ⟨rfl, b1⟩; have B1 := Lib.hid b1; clear b1)
  have y1 := (B1.out.block w.heap.size (by rw [Z0.out]; omega)).trans X1.out
  have bw1 := B0.out.trans (B1.out.mono B0.out.size)
  have c0 : w1.cell? ⟨w.heap.size, 0, none⟩ = some (.bool m1) := by rw [Lib.cell_of_heap y1]; rfl
  have c1 : w1.cell? ⟨w.heap.size, 1, none⟩ = some (.slice A1 d1.length p1) := by rw [Lib.cell_of_heap y1]; rfl
  have hs1 : w.heap.size < w1.heap.size := (Array.getElem?_eq_some_iff.1 y1).1
  have BW1 := Lib.hid bw1
  clear y1 bw1 B0 B1 X1 Z0
  go_upto_region 4 with (go_at_call 10; (with_reducible refine (K1.out _ BW1.out).mono ?_); rintro e w2 ⟨⟨z, hz, rfl⟩, b⟩; have HZ := Lib.hid (show z.natAbs < 10 ^ 40 from hz); have d0 := (b.cell (p := ⟨w.heap.size, 0, none⟩) hs1).trans c0; have d1' := (b.cell (p := ⟨w.heap.size, 1, none⟩) hs1).trans c1; have q0 := b.size; have B2 := Lib.hid (BW1.out.trans (b.mono BW1.out.size)); clear hz b)
  have hs3 : w.heap.size < w2.heap.size := Nat.lt_of_lt_of_le hs1 q0
  have v1 := canon_size_lt z 40 HZ.out (by omega)
  clear c0 c1 hs1 q0 HK K1 BW1 HZ
  have tok1 : True := trivial
  go_cut [24, 25, 26] from 14 to 26 (fun sl nn ii wx => ∃ (z2 : Int) (g : Nat), sl = .slice (some ⟨g, 0, none⟩) 2 2 ∧ nn = .int .i64 2 ∧ ii = .int .i64 0 ∧ (canon z2).size ≤ 100 ∧ wx.cell? ⟨g, 0, none⟩ = some (.string (canon z)) ∧ wx.cell? ⟨g, 1, none⟩ = some (.string (canon z2)) ∧ g < wx.heap.size ∧ Below w.heap.size w wx)
  case first =>
    clear HT
    go_region_held3 (fun w' => w'.cell? ⟨w.heap.size, 0, none⟩ = some (.bool m1) ∧ w'.cell? ⟨w.heap.size, 1, none⟩ = some (.slice A1 d1.length p1))
      (first | exact ⟨d0, d1'⟩ | exact ⟨e0, e1⟩ | exact ⟨f0, f1⟩ | exact ⟨g0, g1⟩ | exact ⟨i0, i1⟩ | exact ⟨j0, j1⟩ | exact ⟨(((Below.refl _ _).alloc (Nat.le_refl _) _).cell (p := ⟨w.heap.size, 0, none⟩) hs13).trans j0, (((Below.refl _ _).alloc (Nat.le_refl _) _).cell (p := ⟨w.heap.size, 1, none⟩) hs13).trans j1⟩)
      (first
        | (go_at_call_of 10 (Value.slice A1 d1.length p1); have _t := tok1; refine (K2.out _ ?_).mono ?_; (first | exact B2.out | exact B2.out.drew); rintro e w3 ⟨⟨y1, hy1, rfl⟩, b⟩; have e0 := (b.cell (p := ⟨w.heap.size, 0, none⟩) hs3).trans d0; have e1 := (b.cell (p := ⟨w.heap.size, 1, none⟩) hs3).trans d1'; have hs5 := Nat.lt_of_lt_of_le hs3 b.size; have HY1 := Lib.hid (show y1.natAbs < 10 ^ 20 from hy1); have B3 := Lib.hid (Below.trans (first_root B2.out) (b.mono B2.out.size)); clear hy1 b tok1 _t)
        | (go_at_call_of 10 (Value.slice A1 d1.length p1); refine (K2.out _ B3.out).mono ?_; rintro e w4 ⟨⟨y2, hy2, rfl⟩, b⟩; have f0 := (b.cell (p := ⟨w.heap.size, 0, none⟩) hs5).trans e0; have f1 := (b.cell (p := ⟨w.heap.size, 1, none⟩) hs5).trans e1; have hs7 := Nat.lt_of_lt_of_le hs5 b.size; have HY2 := Lib.hid (show y2.natAbs < 10 ^ 20 from hy2); have B4 := Lib.hid (B3.out.trans (b.mono B3.out.size)); clear hy2 b)
        | (go_at_call 13; (with_reducible refine (MU.out y1 y2 HY1.out HY2.out _ B4.out).mono ?_); rintro e w5 ⟨rfl, b⟩; have g0 := (b.cell (p := ⟨w.heap.size, 0, none⟩) hs7).trans f0; have g1 := (b.cell (p := ⟨w.heap.size, 1, none⟩) hs7).trans f1; have hs9 := Nat.lt_of_lt_of_le hs7 b.size; have B5 := Lib.hid (B4.out.trans (b.mono B4.out.size)); clear b)
        | (go_at_call 17; rw [HWR.out]; (with_reducible refine (OF.out _ B5.out).mono ?_); rintro e w6 ⟨rfl, b⟩; have i0 := (b.cell (p := ⟨w.heap.size, 0, none⟩) hs9).trans g0; have i1 := (b.cell (p := ⟨w.heap.size, 1, none⟩) hs9).trans g1; have hs11 := Nat.lt_of_lt_of_le hs9 b.size; have B6 := Lib.hid (B5.out.trans (b.mono B5.out.size)); clear b)
        | (go_at_call 16; (with_reducible refine (AD.out y1 y2 HY1.out HY2.out _ B6.out).mono ?_); rintro e w7 ⟨rfl, b⟩; have j0 := (b.cell (p := ⟨w.heap.size, 0, none⟩) hs11).trans i0; have j1 := (b.cell (p := ⟨w.heap.size, 1, none⟩) hs11).trans i1; have hs13 := Nat.lt_of_lt_of_le hs11 b.size; have B7 := Lib.hid (B6.out.trans (b.mono B6.out.size)); clear b)
        | fail "arm")
    all_goals
      go_wp2_with fail
      go_meet
      exact ⟨y1 * y2 + near, w7.heap.size, rfl, rfl, rfl, HSUM.out y1 y2 HY1.out HY2.out, by rw [Lib.cell_of_heap (heap_alloc_new w7 _)]; rfl, by rw [Lib.cell_of_heap (heap_alloc_new w7 _)]; rfl, by rw [World.size_alloc]; omega, B7.out.alloc B7.out.size _⟩
  case rest =>
    obtain ⟨z2, g, rfl, rfl, rfl, hz2, k0, k1, hg, b8⟩ := hcut
    have B8 := Lib.hid b8
    have C0 := Lib.hid k0
    have C1 := Lib.hid k1
    clear b8 k0 k1 K2 MU AD OF HSUM HWR B2 d0 d1' hs3 tok1
    go_wp2
    go_loopw [26] (fun iv wr => ∃ k : Nat, k ≤ 2 ∧ iv = .int .i64 k ∧ g < wr.heap.size ∧ wr.cell? ⟨g, 0, none⟩ = some (.string (canon z)) ∧ wr.cell? ⟨g, 1, none⟩ = some (.string (canon z2)) ∧ Below w.heap.size w wr) (fun iv _ => 2 - (intOf iv).toNat)
    case atStart => exact ⟨0, by omega, rfl, hg, C0.out, C1.out, B8.out⟩
    case round =>
      clear C0 C1 B8 hg
      obtain ⟨k, hk, rfl, hg, k0, k1, hbl⟩ := hrel
      have HB := Lib.hid hbl
      have C0 := Lib.hid k0
      have C1 := Lib.hid k1
      have hbs := hbl.size
      by_cases hlt : k < 2
      · obtain ⟨y, hy, hcy⟩ : ∃ y : Int, (canon y).size ≤ 100 ∧ wr.cell? ⟨g, k, none⟩ = some (.string (canon y)) := by
          rcases Nat.lt_or_ge k 1 with h | h
          · obtain rfl : k = 0 := by omega
            exact ⟨z, by omega, k0⟩
          · obtain rfl : k = 1 := by omega
            exact ⟨z2, hz2, k1⟩
        clear k0 k1 hbl
        have si := fun W => signR_any y W (by omega)
        have hback := fun (W : World) (hW : Below wr.heap.size wr W) => (⟨Nat.lt_of_lt_of_le hg hW.size, (hW.cell (p := ⟨g, 0, none⟩) hg).trans C0.out, (hW.cell (p := ⟨g, 1, none⟩) hg).trans C1.out, HB.out.trans (hW.mono hbs)⟩ : g < W.heap.size ∧ W.cell? ⟨g, 0, none⟩ = some (.string (canon z)) ∧ W.cell? ⟨g, 1, none⟩ = some (.string (canon z2)) ∧ Below w.heap.size w W)
        have HK := Lib.hid hback
        by_cases hneg : y < 0
        · have rn := fun W => root_neg y W hneg
          rw [Int.sign_eq_neg_one_of_neg hneg] at si
          have SI := Lib.hid si
          have RN := Lib.hid rn
          clear si rn hback hneg HT
          go_wp2_with (first
            | (go_at_call 18; (with_reducible refine (RN.out _).mono ?_); rintro e x1 ⟨rfl, q⟩; have Q1 := Lib.hid q; clear q)
            | (go_at_call 19; (with_reducible refine (SI.out _).mono ?_); rintro e x2 ⟨rfl, q⟩; have Q2 := Lib.hid (Q1.out.trans (q.mono Q1.out.size)); clear q)
            | fail "arm")
          go_roundw
          case rel => exact ⟨k + 1, by omega, by go_num, HK.out _ Q2.out⟩
          case measure => simp [intOf]; omega
        · obtain ⟨r, ra, rb⟩ := roots_at y (by omega) w HT.out (by omega)
          have hs0 : 0 ≤ y.sign := by
            rcases Int.lt_or_eq_of_le (show 0 ≤ y by omega) with h | h
            · rw [Int.sign_eq_one_of_pos h]; omega
            · rw [← h]; exact Int.le_refl _
          obtain ⟨sg, hsg⟩ : ∃ s, y.sign = s := ⟨_, rfl⟩
          rw [hsg] at si hs0
          have SI := Lib.hid si
          have RA := Lib.hid ra
          have RB := Lib.hid rb
          have dsg : decide (sg < 0) = false := decide_eq_false (by omega)
          have hrr : ((canon (r : Int)).toList != (canon (r : Int)).toList) = false := by simp
          clear si ra rb hback hneg hsg HT
          go_wp2_with (first
            | (go_at_call 18; (with_reducible refine (RA.out _ HB.out).mono ?_); rintro e x1 ⟨rfl, q⟩; have Q1 := Lib.hid q; clear q)
            | (go_at_call 19; (with_reducible refine (SI.out _).mono ?_); rintro e x2 ⟨rfl, q⟩; have Q2 := Lib.hid (Q1.out.trans (q.mono Q1.out.size)); clear q)
            | (go_at_call 20; (with_reducible refine (RB.out _ (HB.out.trans (Q2.out.mono hbs))).mono ?_); rintro e x3 ⟨rfl, q⟩; have Q3 := Lib.hid (Q2.out.trans (q.mono Q2.out.size)); clear q)
            | fail "arm")
          go_roundw
          case rel => exact ⟨k + 1, by omega, by go_num, HK.out _ Q3.out⟩
          case measure => simp [intOf]; omega
      · obtain rfl : k = 2 := by omega
        clear k0 k1 hbl
        go_wp2
        go_ret
        exact ⟨rfl, HB.out⟩

end Go.Proofs.YtmkeigfckfkifaaGreatDoor
