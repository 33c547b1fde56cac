/- RationalNews: for any two texts of integers and any two ints: the walk: the call returns true. Conditions: those of the given row alone. -/
import Derived.Test.YtjkbgjjfchhpfaaGreatDoorRfI
import Derived.Test.YtjkbgjjfchhpfaaGreatDoorRatG
import Derived.Deep.RegionHeld3
import Derived.Deep.CutRange
namespace Go.Proofs.YtjkbgjjfchhpfaaGreatDoor
open Go.RowKit

theorem first_news {w W : World} {n : Nat} (h : Below n w W) : Below n w W.drew := h.drew

theorem right_drew (T : ByteArray) (w : World) (hs : T.size ≤ 1000000) :
    Calls Tryz.prog 29 #[.string T] w fun e w' => e = .returned (.bool (rightS T.data.toList)) ∧ Below w.heap.size w w' :=
  (right_any T w hs).mono fun _ _ ⟨h1, h2⟩ => ⟨h1, h2.below _⟩

set_option maxRecDepth 100000 in
set_option maxHeartbeats 16000000 in
theorem news_walk (X Y : ByteArray) (n0 n1 : Int) (a0 : -9223372036854775808 ≤ n0) (a1 : n0 ≤ 9223372036854775807) (b0 : -9223372036854775808 ≤ n1) (b1 : n1 ≤ 9223372036854775807) (w : World) (he : Env w) :
    Calls Tryz.prog 6 #[.string X, .string Y, .agg #[.int .i64 n0, .int .i64 n1]] w fun e w' => e = .returned (.bool true) ∧ Below w.heap.size w w' := by
  have bx := below_alloc w (Obj.cells #[.int .i64 n0, .int .i64 n1] 44)
  have x1 := heap_alloc_new w (Obj.cells #[.int .i64 n0, .int .i64 n1] 44)
  have hz : (w.alloc (Obj.cells #[.int .i64 n0, .int .i64 n1] 44)).heap.size = w.heap.size + 1 := World.size_alloc ..
  have c0 : (w.alloc (Obj.cells #[.int .i64 n0, .int .i64 n1] 44)).cell? ⟨w.heap.size, 0, none⟩ = some (.int .i64 n0) := by rw [Lib.cell_of_heap x1]; rfl
  have c1 : (w.alloc (Obj.cells #[.int .i64 n0, .int .i64 n1] 44)).cell? ⟨w.heap.size, 1, none⟩ = some (.int .i64 n1) := by rw [Lib.cell_of_heap x1]; rfl
  have ht : w.heap.size < (w.alloc (Obj.cells #[.int .i64 n0, .int .i64 n1] 44)).heap.size := by omega
  have kn := fun W (hW : Below w.heap.size w W) => rknown_any W (he.below hW)
  have KN := Lib.hid kn
  have B := Lib.hid bx
  clear kn bx x1 hz
  by_cases hX : X.size ≤ 60
  case neg =>
    have t1 : decide ((X.size : Int) > 60) = true := decide_eq_true (by omega)
    clear he a0 a1 b0 b1 hX
    go_enter Tryz.func6, Tryz.ntmps6
    go_wp2_with (first
      | (go_at_call 13; (with_reducible refine (KN.out _ B.out).mono ?_); rintro e wx ⟨rfl, q⟩; replace c0 := (q.cell (p := ⟨w.heap.size, 0, none⟩) ht).trans c0; replace c1 := (q.cell (p := ⟨w.heap.size, 1, none⟩) ht).trans c1; replace ht := Nat.lt_of_lt_of_le ht q.size; replace B := Lib.hid (B.out.trans (q.mono B.out.size)); clear q)
      | fail "arm")
    go_ret
    exact ⟨rfl, B.out⟩
  have tx : decide ((X.size : Int) > 60) = false := decide_eq_false (by omega)
  by_cases hY : Y.size ≤ 60
  case neg =>
    have t1 : decide ((Y.size : Int) > 60) = true := decide_eq_true (by omega)
    clear he a0 a1 b0 b1 hX hY
    go_enter Tryz.func6, Tryz.ntmps6
    go_wp2_with (first
      | (go_at_call 13; (with_reducible refine (KN.out _ B.out).mono ?_); rintro e wx ⟨rfl, q⟩; replace c0 := (q.cell (p := ⟨w.heap.size, 0, none⟩) ht).trans c0; replace c1 := (q.cell (p := ⟨w.heap.size, 1, none⟩) ht).trans c1; replace ht := Nat.lt_of_lt_of_le ht q.size; replace B := Lib.hid (B.out.trans (q.mono B.out.size)); clear q)
      | fail "arm")
    go_ret
    exact ⟨rfl, B.out⟩
  have ty : decide ((Y.size : Int) > 60) = false := decide_eq_false (by omega)
  have rx := fun W (_ : Below w.heap.size w W) => right_drew X W (by omega)
  have ry := fun W (_ : Below w.heap.size w W) => right_drew Y W (by omega)
  cases hrx : rightS X.data.toList with
  | false =>
    rw [hrx] at rx
    have RX := Lib.hid rx
    clear he a0 a1 b0 b1 hX hY rx ry hrx
    go_enter Tryz.func6, Tryz.ntmps6
    go_wp2_with (first
      | (go_at_call 13; (with_reducible refine (KN.out _ B.out).mono ?_); rintro e wx ⟨rfl, q⟩; replace c0 := (q.cell (p := ⟨w.heap.size, 0, none⟩) ht).trans c0; replace c1 := (q.cell (p := ⟨w.heap.size, 1, none⟩) ht).trans c1; replace ht := Nat.lt_of_lt_of_le ht q.size; replace B := Lib.hid (B.out.trans (q.mono B.out.size)); clear q)
      | (go_at_call 29; (with_reducible refine (RX.out _ B.out).mono ?_); rintro e wx ⟨rfl, q⟩; replace c0 := (q.cell (p := ⟨w.heap.size, 0, none⟩) ht).trans c0; replace c1 := (q.cell (p := ⟨w.heap.size, 1, none⟩) ht).trans c1; replace ht := Nat.lt_of_lt_of_le ht q.size; replace B := Lib.hid (B.out.trans (q.mono B.out.size)); clear q)
      | fail "arm")
    go_ret
    exact ⟨rfl, B.out⟩
  | true =>
    rw [hrx] at rx
    have RX := Lib.hid rx
    cases hry : rightS Y.data.toList with
    | false =>
      rw [hry] at ry
      have RY := Lib.hid ry
      clear he a0 a1 b0 b1 hX hY rx ry hrx hry
      go_enter Tryz.func6, Tryz.ntmps6
      go_wp2_with (first
      | (go_at_call 13; (with_reducible refine (KN.out _ B.out).mono ?_); rintro e wx ⟨rfl, q⟩; replace c0 := (q.cell (p := ⟨w.heap.size, 0, none⟩) ht).trans c0; replace c1 := (q.cell (p := ⟨w.heap.size, 1, none⟩) ht).trans c1; replace ht := Nat.lt_of_lt_of_le ht q.size; replace B := Lib.hid (B.out.trans (q.mono B.out.size)); clear q)
      | (go_at_call 29; (with_reducible refine (RX.out _ B.out).mono ?_); rintro e wx ⟨rfl, q⟩; replace c0 := (q.cell (p := ⟨w.heap.size, 0, none⟩) ht).trans c0; replace c1 := (q.cell (p := ⟨w.heap.size, 1, none⟩) ht).trans c1; replace ht := Nat.lt_of_lt_of_le ht q.size; replace B := Lib.hid (B.out.trans (q.mono B.out.size)); clear q)
      | (go_at_call 29; (with_reducible refine (RY.out _ B.out).mono ?_); rintro e wx ⟨rfl, q⟩; replace c0 := (q.cell (p := ⟨w.heap.size, 0, none⟩) ht).trans c0; replace c1 := (q.cell (p := ⟨w.heap.size, 1, none⟩) ht).trans c1; replace ht := Nat.lt_of_lt_of_le ht q.size; replace B := Lib.hid (B.out.trans (q.mono B.out.size)); clear q)
        | fail "arm")
      go_ret
      exact ⟨rfl, B.out⟩
    | true =>
      rw [hry] at ry
      have RY := Lib.hid ry
      obtain ⟨x, ex, _⟩ := (rightS_iff _).1 hrx
      obtain ⟨y, ey, _⟩ := (rightS_iff _).1 hry
      obtain rfl : X = canon x := ba_of_list _ _ ex
      obtain rfl : Y = canon y := ba_of_list _ _ ey
      have wh := fun W (hW : Below w.heap.size w W) => rwhole_any n0 a0 a1 W (he.below hW).1
      have o1 := fun W (hW : Below w.heap.size w W) => ofR_any n0 a0 a1 W (he.below hW).1
      have hy0 := canon_beq0 y
      have WH := Lib.hid wh
      have O1 := Lib.hid o1
      clear rx ry hrx hry ex ey wh o1
      by_cases hn : n1 = 0
      · subst hn
        have of_ := fun W (hW : Below w.heap.size w W) => rof_zero n0 a0 a1 W (he.below hW).1
        have OF := Lib.hid of_
        clear of_
        by_cases hy : y = 0
        · subst hy
          have tz : ((canon 0).toList == [48]) = true := hy0
          have nw := fun W (_ : Below w.heap.size w W) => rnew_zeroB x W
          have NW := Lib.hid nw
          clear nw he a0 a1 b0 b1 hX hY hy0
          generalize canon x = CX at *
          generalize canon 0 = CY at *
          generalize canon n0 = C0 at *
          go_enter Tryz.func6, Tryz.ntmps6
          go_upto_region 5 with (first
            | (go_at_call 13; (with_reducible refine (KN.out _ B.out).mono ?_); rintro e wx ⟨rfl, q⟩; replace c0 := (q.cell (p := ⟨w.heap.size, 0, none⟩) ht).trans c0; replace c1 := (q.cell (p := ⟨w.heap.size, 1, none⟩) ht).trans c1; replace ht := Nat.lt_of_lt_of_le ht q.size; replace B := Lib.hid (B.out.trans (q.mono B.out.size)); clear q)
            | (go_at_call 29; (with_reducible refine (RX.out _ B.out).mono ?_); rintro e wx ⟨rfl, q⟩; replace c0 := (q.cell (p := ⟨w.heap.size, 0, none⟩) ht).trans c0; replace c1 := (q.cell (p := ⟨w.heap.size, 1, none⟩) ht).trans c1; replace ht := Nat.lt_of_lt_of_le ht q.size; replace B := Lib.hid (B.out.trans (q.mono B.out.size)); clear q)
            | (go_at_call 29; (with_reducible refine (RY.out _ B.out).mono ?_); rintro e wx ⟨rfl, q⟩; replace c0 := (q.cell (p := ⟨w.heap.size, 0, none⟩) ht).trans c0; replace c1 := (q.cell (p := ⟨w.heap.size, 1, none⟩) ht).trans c1; replace ht := Nat.lt_of_lt_of_le ht q.size; replace B := Lib.hid (B.out.trans (q.mono B.out.size)); clear q)
            | (go_at_call 30; (with_reducible refine (NW.out _ B.out).mono ?_); rintro e wx ⟨rfl, q⟩; replace c0 := (q.cell (p := ⟨w.heap.size, 0, none⟩) ht).trans c0; replace c1 := (q.cell (p := ⟨w.heap.size, 1, none⟩) ht).trans c1; replace ht := Nat.lt_of_lt_of_le ht q.size; replace B := Lib.hid (B.out.trans (q.mono B.out.size)); clear q)
            | (go_at_call 31; (with_reducible refine (OF.out _ B.out).mono ?_); rintro e wx ⟨rfl, q⟩; replace c0 := (q.cell (p := ⟨w.heap.size, 0, none⟩) ht).trans c0; replace c1 := (q.cell (p := ⟨w.heap.size, 1, none⟩) ht).trans c1; replace ht := Nat.lt_of_lt_of_le ht q.size; replace B := Lib.hid (B.out.trans (q.mono B.out.size)); clear q)
            | fail "arm")
          go_region_held3 (fun w' => w'.cell? ⟨w.heap.size, 0, none⟩ = some (.int .i64 n0) ∧ w'.cell? ⟨w.heap.size, 1, none⟩ = some (.int .i64 0))
            (exact ⟨c0, c1⟩)
            (first
              | (go_at_call 32; (with_reducible refine (WH.out _ ?_).mono ?_); (first | exact B.out | exact B.out.drew); rintro e wx ⟨rfl, q⟩; replace c0 := (q.cell (p := ⟨w.heap.size, 0, none⟩) ht).trans c0; replace c1 := (q.cell (p := ⟨w.heap.size, 1, none⟩) ht).trans c1; replace ht := Nat.lt_of_lt_of_le ht q.size; replace B := Lib.hid (Below.trans (first_news B.out) (q.mono B.out.size)); clear q)
              | (go_at_call 25; (with_reducible refine (O1.out _ B.out).mono ?_); rintro e wx ⟨rfl, q⟩; replace c0 := (q.cell (p := ⟨w.heap.size, 0, none⟩) ht).trans c0; replace c1 := (q.cell (p := ⟨w.heap.size, 1, none⟩) ht).trans c1; replace ht := Nat.lt_of_lt_of_le ht q.size; replace B := Lib.hid (B.out.trans (q.mono B.out.size)); clear q)
              | fail "arm")
          all_goals
            go_wp2_with (first
              | fail "arm")
            go_ret
            exact ⟨rfl, B.out⟩
        · have tz : ((canon y).toList == [48]) = false := by rw [hy0]; exact decide_eq_false hy
          have nw := fun W (hW : Below w.heap.size w W) => rnew_int x y hy W (he.below hW).1 (by omega) (by omega)
          have fr := fun W (hW : Below w.heap.size w W) => fraction_int x y hy W (he.below hW).1 (by omega) (by omega)
          have NW := Lib.hid nw
          have FR := Lib.hid fr
          clear nw fr he a0 a1 b0 b1 hX hY hy0
          generalize canonR (rdiv2 x y) = TN at *
          generalize canon x = CX at *
          generalize canon y = CY at *
          generalize canon n0 = C0 at *
          go_enter Tryz.func6, Tryz.ntmps6
          go_upto_region 5 with (first
            | (go_at_call 13; (with_reducible refine (KN.out _ B.out).mono ?_); rintro e wx ⟨rfl, q⟩; replace c0 := (q.cell (p := ⟨w.heap.size, 0, none⟩) ht).trans c0; replace c1 := (q.cell (p := ⟨w.heap.size, 1, none⟩) ht).trans c1; replace ht := Nat.lt_of_lt_of_le ht q.size; replace B := Lib.hid (B.out.trans (q.mono B.out.size)); clear q)
            | (go_at_call 29; (with_reducible refine (RX.out _ B.out).mono ?_); rintro e wx ⟨rfl, q⟩; replace c0 := (q.cell (p := ⟨w.heap.size, 0, none⟩) ht).trans c0; replace c1 := (q.cell (p := ⟨w.heap.size, 1, none⟩) ht).trans c1; replace ht := Nat.lt_of_lt_of_le ht q.size; replace B := Lib.hid (B.out.trans (q.mono B.out.size)); clear q)
            | (go_at_call 29; (with_reducible refine (RY.out _ B.out).mono ?_); rintro e wx ⟨rfl, q⟩; replace c0 := (q.cell (p := ⟨w.heap.size, 0, none⟩) ht).trans c0; replace c1 := (q.cell (p := ⟨w.heap.size, 1, none⟩) ht).trans c1; replace ht := Nat.lt_of_lt_of_le ht q.size; replace B := Lib.hid (B.out.trans (q.mono B.out.size)); clear q)
            | (go_at_call 30; (with_reducible refine (NW.out _ B.out).mono ?_); rintro e wx ⟨rfl, q⟩; replace c0 := (q.cell (p := ⟨w.heap.size, 0, none⟩) ht).trans c0; replace c1 := (q.cell (p := ⟨w.heap.size, 1, none⟩) ht).trans c1; replace ht := Nat.lt_of_lt_of_le ht q.size; replace B := Lib.hid (B.out.trans (q.mono B.out.size)); clear q)
            | (go_at_call 31; (with_reducible refine (OF.out _ B.out).mono ?_); rintro e wx ⟨rfl, q⟩; replace c0 := (q.cell (p := ⟨w.heap.size, 0, none⟩) ht).trans c0; replace c1 := (q.cell (p := ⟨w.heap.size, 1, none⟩) ht).trans c1; replace ht := Nat.lt_of_lt_of_le ht q.size; replace B := Lib.hid (B.out.trans (q.mono B.out.size)); clear q)
            | fail "arm")
          go_region_held3 (fun w' => w'.cell? ⟨w.heap.size, 0, none⟩ = some (.int .i64 n0) ∧ w'.cell? ⟨w.heap.size, 1, none⟩ = some (.int .i64 0))
            (exact ⟨c0, c1⟩)
            (first
              | (go_at_call 32; (with_reducible refine (WH.out _ ?_).mono ?_); (first | exact B.out | exact B.out.drew); rintro e wx ⟨rfl, q⟩; replace c0 := (q.cell (p := ⟨w.heap.size, 0, none⟩) ht).trans c0; replace c1 := (q.cell (p := ⟨w.heap.size, 1, none⟩) ht).trans c1; replace ht := Nat.lt_of_lt_of_le ht q.size; replace B := Lib.hid (Below.trans (first_news B.out) (q.mono B.out.size)); clear q)
              | (go_at_call 25; (with_reducible refine (O1.out _ B.out).mono ?_); rintro e wx ⟨rfl, q⟩; replace c0 := (q.cell (p := ⟨w.heap.size, 0, none⟩) ht).trans c0; replace c1 := (q.cell (p := ⟨w.heap.size, 1, none⟩) ht).trans c1; replace ht := Nat.lt_of_lt_of_le ht q.size; replace B := Lib.hid (B.out.trans (q.mono B.out.size)); clear q)
              | fail "arm")
          all_goals
            go_wp2_with (first
              | (go_at_call 21; (with_reducible refine (FR.out _ B.out).mono ?_); rintro e wx ⟨rfl, q⟩; replace c0 := (q.cell (p := ⟨w.heap.size, 0, none⟩) ht).trans c0; replace c1 := (q.cell (p := ⟨w.heap.size, 1, none⟩) ht).trans c1; replace ht := Nat.lt_of_lt_of_le ht q.size; replace B := Lib.hid (B.out.trans (q.mono B.out.size)); clear q)
              | fail "arm")
            go_ret
            exact ⟨rfl, B.out⟩
      · have tn : (n1 == 0) = false := beq_eq_false_iff_ne.2 hn
        have of_ := fun W (hW : Below w.heap.size w W) => rof_int n0 n1 hn a0 a1 b0 b1 W (he.below hW).1
        have ro := fun W (hW : Below w.heap.size w W) => refof_int n0 n1 hn a0 a1 b0 b1 W (he.below hW).1
        have OF := Lib.hid of_
        have RO := Lib.hid ro
        clear of_ ro
        generalize canonR (rdiv2 n0 n1) = TO at *
        by_cases hy : y = 0
        · subst hy
          have tz : ((canon 0).toList == [48]) = true := hy0
          have nw := fun W (_ : Below w.heap.size w W) => rnew_zeroB x W
          have NW := Lib.hid nw
          clear nw he a0 a1 b0 b1 hX hY hy0
          generalize canon x = CX at *
          generalize canon 0 = CY at *
          generalize canon n0 = C0 at *
          go_enter Tryz.func6, Tryz.ntmps6
          go_upto_region 5 with (first
            | (go_at_call 13; (with_reducible refine (KN.out _ B.out).mono ?_); rintro e wx ⟨rfl, q⟩; replace c0 := (q.cell (p := ⟨w.heap.size, 0, none⟩) ht).trans c0; replace c1 := (q.cell (p := ⟨w.heap.size, 1, none⟩) ht).trans c1; replace ht := Nat.lt_of_lt_of_le ht q.size; replace B := Lib.hid (B.out.trans (q.mono B.out.size)); clear q)
            | (go_at_call 29; (with_reducible refine (RX.out _ B.out).mono ?_); rintro e wx ⟨rfl, q⟩; replace c0 := (q.cell (p := ⟨w.heap.size, 0, none⟩) ht).trans c0; replace c1 := (q.cell (p := ⟨w.heap.size, 1, none⟩) ht).trans c1; replace ht := Nat.lt_of_lt_of_le ht q.size; replace B := Lib.hid (B.out.trans (q.mono B.out.size)); clear q)
            | (go_at_call 29; (with_reducible refine (RY.out _ B.out).mono ?_); rintro e wx ⟨rfl, q⟩; replace c0 := (q.cell (p := ⟨w.heap.size, 0, none⟩) ht).trans c0; replace c1 := (q.cell (p := ⟨w.heap.size, 1, none⟩) ht).trans c1; replace ht := Nat.lt_of_lt_of_le ht q.size; replace B := Lib.hid (B.out.trans (q.mono B.out.size)); clear q)
            | (go_at_call 30; (with_reducible refine (NW.out _ B.out).mono ?_); rintro e wx ⟨rfl, q⟩; replace c0 := (q.cell (p := ⟨w.heap.size, 0, none⟩) ht).trans c0; replace c1 := (q.cell (p := ⟨w.heap.size, 1, none⟩) ht).trans c1; replace ht := Nat.lt_of_lt_of_le ht q.size; replace B := Lib.hid (B.out.trans (q.mono B.out.size)); clear q)
            | (go_at_call 31; (with_reducible refine (OF.out _ B.out).mono ?_); rintro e wx ⟨rfl, q⟩; replace c0 := (q.cell (p := ⟨w.heap.size, 0, none⟩) ht).trans c0; replace c1 := (q.cell (p := ⟨w.heap.size, 1, none⟩) ht).trans c1; replace ht := Nat.lt_of_lt_of_le ht q.size; replace B := Lib.hid (B.out.trans (q.mono B.out.size)); clear q)
            | fail "arm")
          go_region_held3 (fun w' => w'.cell? ⟨w.heap.size, 0, none⟩ = some (.int .i64 n0) ∧ w'.cell? ⟨w.heap.size, 1, none⟩ = some (.int .i64 n1))
            (exact ⟨c0, c1⟩)
            (first
              | (go_at_call 32; (with_reducible refine (WH.out _ ?_).mono ?_); (first | exact B.out | exact B.out.drew); rintro e wx ⟨rfl, q⟩; replace c0 := (q.cell (p := ⟨w.heap.size, 0, none⟩) ht).trans c0; replace c1 := (q.cell (p := ⟨w.heap.size, 1, none⟩) ht).trans c1; replace ht := Nat.lt_of_lt_of_le ht q.size; replace B := Lib.hid (Below.trans (first_news B.out) (q.mono B.out.size)); clear q)
              | (go_at_call 25; (with_reducible refine (O1.out _ B.out).mono ?_); rintro e wx ⟨rfl, q⟩; replace c0 := (q.cell (p := ⟨w.heap.size, 0, none⟩) ht).trans c0; replace c1 := (q.cell (p := ⟨w.heap.size, 1, none⟩) ht).trans c1; replace ht := Nat.lt_of_lt_of_le ht q.size; replace B := Lib.hid (B.out.trans (q.mono B.out.size)); clear q)
              | fail "arm")
          all_goals
            go_wp2_with (first
              | (go_at_call 24; (with_reducible refine (RO.out _ B.out).mono ?_); rintro e wx ⟨rfl, q⟩; replace c0 := (q.cell (p := ⟨w.heap.size, 0, none⟩) ht).trans c0; replace c1 := (q.cell (p := ⟨w.heap.size, 1, none⟩) ht).trans c1; replace ht := Nat.lt_of_lt_of_le ht q.size; replace B := Lib.hid (B.out.trans (q.mono B.out.size)); clear q)
              | fail "arm")
            go_ret
            exact ⟨rfl, B.out⟩
        · have tz : ((canon y).toList == [48]) = false := by rw [hy0]; exact decide_eq_false hy
          have nw := fun W (hW : Below w.heap.size w W) => rnew_int x y hy W (he.below hW).1 (by omega) (by omega)
          have fr := fun W (hW : Below w.heap.size w W) => fraction_int x y hy W (he.below hW).1 (by omega) (by omega)
          have NW := Lib.hid nw
          have FR := Lib.hid fr
          clear nw fr he a0 a1 b0 b1 hX hY hy0
          generalize canonR (rdiv2 x y) = TN at *
          generalize canon x = CX at *
          generalize canon y = CY at *
          generalize canon n0 = C0 at *
          go_enter Tryz.func6, Tryz.ntmps6
          go_upto_region 5 with (first
            | (go_at_call 13; (with_reducible refine (KN.out _ B.out).mono ?_); rintro e wx ⟨rfl, q⟩; replace c0 := (q.cell (p := ⟨w.heap.size, 0, none⟩) ht).trans c0; replace c1 := (q.cell (p := ⟨w.heap.size, 1, none⟩) ht).trans c1; replace ht := Nat.lt_of_lt_of_le ht q.size; replace B := Lib.hid (B.out.trans (q.mono B.out.size)); clear q)
            | (go_at_call 29; (with_reducible refine (RX.out _ B.out).mono ?_); rintro e wx ⟨rfl, q⟩; replace c0 := (q.cell (p := ⟨w.heap.size, 0, none⟩) ht).trans c0; replace c1 := (q.cell (p := ⟨w.heap.size, 1, none⟩) ht).trans c1; replace ht := Nat.lt_of_lt_of_le ht q.size; replace B := Lib.hid (B.out.trans (q.mono B.out.size)); clear q)
            | (go_at_call 29; (with_reducible refine (RY.out _ B.out).mono ?_); rintro e wx ⟨rfl, q⟩; replace c0 := (q.cell (p := ⟨w.heap.size, 0, none⟩) ht).trans c0; replace c1 := (q.cell (p := ⟨w.heap.size, 1, none⟩) ht).trans c1; replace ht := Nat.lt_of_lt_of_le ht q.size; replace B := Lib.hid (B.out.trans (q.mono B.out.size)); clear q)
            | (go_at_call 30; (with_reducible refine (NW.out _ B.out).mono ?_); rintro e wx ⟨rfl, q⟩; replace c0 := (q.cell (p := ⟨w.heap.size, 0, none⟩) ht).trans c0; replace c1 := (q.cell (p := ⟨w.heap.size, 1, none⟩) ht).trans c1; replace ht := Nat.lt_of_lt_of_le ht q.size; replace B := Lib.hid (B.out.trans (q.mono B.out.size)); clear q)
            | (go_at_call 31; (with_reducible refine (OF.out _ B.out).mono ?_); rintro e wx ⟨rfl, q⟩; replace c0 := (q.cell (p := ⟨w.heap.size, 0, none⟩) ht).trans c0; replace c1 := (q.cell (p := ⟨w.heap.size, 1, none⟩) ht).trans c1; replace ht := Nat.lt_of_lt_of_le ht q.size; replace B := Lib.hid (B.out.trans (q.mono B.out.size)); clear q)
            | fail "arm")
          go_region_held3 (fun w' => w'.cell? ⟨w.heap.size, 0, none⟩ = some (.int .i64 n0) ∧ w'.cell? ⟨w.heap.size, 1, none⟩ = some (.int .i64 n1))
            (exact ⟨c0, c1⟩)
            (first
              | (go_at_call 32; (with_reducible refine (WH.out _ ?_).mono ?_); (first | exact B.out | exact B.out.drew); rintro e wx ⟨rfl, q⟩; replace c0 := (q.cell (p := ⟨w.heap.size, 0, none⟩) ht).trans c0; replace c1 := (q.cell (p := ⟨w.heap.size, 1, none⟩) ht).trans c1; replace ht := Nat.lt_of_lt_of_le ht q.size; replace B := Lib.hid (Below.trans (first_news B.out) (q.mono B.out.size)); clear q)
              | (go_at_call 25; (with_reducible refine (O1.out _ B.out).mono ?_); rintro e wx ⟨rfl, q⟩; replace c0 := (q.cell (p := ⟨w.heap.size, 0, none⟩) ht).trans c0; replace c1 := (q.cell (p := ⟨w.heap.size, 1, none⟩) ht).trans c1; replace ht := Nat.lt_of_lt_of_le ht q.size; replace B := Lib.hid (B.out.trans (q.mono B.out.size)); clear q)
              | fail "arm")
          all_goals
            go_wp2_with (first
              | (go_at_call 24; (with_reducible refine (RO.out _ B.out).mono ?_); rintro e wx ⟨rfl, q⟩; replace c0 := (q.cell (p := ⟨w.heap.size, 0, none⟩) ht).trans c0; replace c1 := (q.cell (p := ⟨w.heap.size, 1, none⟩) ht).trans c1; replace ht := Nat.lt_of_lt_of_le ht q.size; replace B := Lib.hid (B.out.trans (q.mono B.out.size)); clear q)
              | (go_at_call 21; (with_reducible refine (FR.out _ B.out).mono ?_); rintro e wx ⟨rfl, q⟩; replace c0 := (q.cell (p := ⟨w.heap.size, 0, none⟩) ht).trans c0; replace c1 := (q.cell (p := ⟨w.heap.size, 1, none⟩) ht).trans c1; replace ht := Nat.lt_of_lt_of_le ht q.size; replace B := Lib.hid (B.out.trans (q.mono B.out.size)); clear q)
              | fail "arm")
            go_ret
            exact ⟨rfl, B.out⟩

end Go.Proofs.YtjkbgjjfchhpfaaGreatDoor
