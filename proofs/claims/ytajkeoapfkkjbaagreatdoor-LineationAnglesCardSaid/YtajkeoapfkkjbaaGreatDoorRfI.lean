/- Quotients of two integers of whatever sign: the walks of rational.New and Of, and of klipperef02.Fraction and Of. -/
import Derived.Test.YtajkeoapfkkjbaaGreatDoorRfH
namespace Go.Proofs.YtajkeoapfkkjbaaGreatDoor
set_option linter.all false
open Go.RowKit

/-- The quotient of two integers, for a divisor other than 0. -/
def rdiv2 (x y : Int) : Rat := mkRat (if y < 0 then -x else x) y.natAbs

theorem rdiv2_args (x y : Int) (hy : y ≠ 0) : ∃ (neg : Bool) (n : Int) (D : Nat), 0 < D ∧ (if neg then -n else n) = x ∧ (if neg then -(D : Int) else (D : Int)) = y ∧ mkRat n D = rdiv2 x y ∧ n.natAbs = x.natAbs ∧ D = y.natAbs := by
  unfold rdiv2
  by_cases h : y < 0
  · exact ⟨true, -x, y.natAbs, by omega, by simp, by simp; omega, by rw [if_pos h], by simp, rfl⟩
  · exact ⟨false, x, y.natAbs, by omega, by simp, by simp; omega, by rw [if_neg h], rfl, rfl⟩

theorem canon_abs_size {a b : Int} {N : Nat} (h : a.natAbs = b.natAbs) (hs : (canon b).size ≤ N) (h0 : 0 < N) : (canon a).size ≤ N + 1 :=
  canon_size_lt _ N (by rw [h]; exact itoa_len_small (z := b) (k := N) hs) h0

theorem rnew_int (x y : Int) (hy : y ≠ 0) (w : World) (ht : Pow10 w) (hx : (canon x).size ≤ 7000) (hd : (canon y).size ≤ 7000) :
    Calls Tryz.prog 67 #[.string (canon x), .string (canon y)] w fun e w' => e = .returned (.tuple #[.string (canonR (rdiv2 x y)), .int .i64 0]) ∧ Below w.heap.size w w' := by
  obtain ⟨neg, n, D, h1, h2, h3, h4, h5, h6⟩ := rdiv2_args x y hy
  have := rnew_any neg n D w ht h1 (by have := canon_abs_size h5 hx (by omega); omega) (by have := canon_abs_size (a := (D : Int)) (b := y) (by rw [Int.natAbs_natCast]; exact h6) hd (by omega); omega)
  rw [h2, h3, h4] at this
  exact this

theorem rnew_zero (x : Int) (w : World) :
    Calls Tryz.prog 67 #[.string (canon x), .string (canon 0)] w fun e w' => e = .returned (.tuple #[.string ⟨#[]⟩, .int .i64 17]) ∧ w = w' := by
  have h1 := fun W => sign_any 0 W
  rw [show Int.sign 0 = 0 from rfl] at h1
  generalize canon 0 = C at *
  generalize canon x = X at *
  have H1 := Lib.hid h1
  clear h1
  go_enter Tryz.func67, Tryz.ntmps67
  go_wp2_with (first
    | (go_at_call 74; (with_reducible refine (H1.out _).mono ?_); rintro e w1 ⟨rfl, rfl⟩)
    | fail "arm")
  go_ret2
  exact ⟨rfl, rfl⟩

theorem rnew_zeroB (x : Int) (w : World) :
    Calls Tryz.prog 67 #[.string (canon x), .string (canon 0)] w fun e w' => e = .returned (.tuple #[.string ⟨#[]⟩, .int .i64 17]) ∧ Below w.heap.size w w' :=
  (rnew_zero x w).mono fun e w' ⟨h1, h2⟩ => ⟨h1, by subst h2; exact Below.refl _ _⟩

theorem i64_size (n : Int) (h0 : -9223372036854775808 ≤ n) (h1 : n ≤ 9223372036854775807) : (canon n).size ≤ 21 := by
  have := canon_size_lt n 20 (by omega) (by omega)
  omega

theorem rof_int (n m : Int) (hm : m ≠ 0) (n0 : -9223372036854775808 ≤ n) (n1 : n ≤ 9223372036854775807) (m0 : -9223372036854775808 ≤ m) (m1 : m ≤ 9223372036854775807) (w : World) (ht : Pow10 w) :
    Calls Tryz.prog 45 #[.int .i64 n, .int .i64 m] w fun e w' => e = .returned (.tuple #[.string (canonR (rdiv2 n m)), .int .i64 0]) ∧ Below w.heap.size w w' := by
  have h1 := fun W (hW : Below w.heap.size w W) => of_any n n0 n1 W (ht.below hW)
  have h2 := fun W (hW : Below w.heap.size w W) => of_any m m0 m1 W (ht.below hW)
  have h3 := fun W (hW : Below w.heap.size w W) => rnew_int n m hm W (ht.below hW) (by have := i64_size n n0 n1; omega) (by have := i64_size m m0 m1; omega)
  generalize canonR (rdiv2 n m) = R at *
  have H1 := Lib.hid h1
  have H2 := Lib.hid h2
  have H3 := Lib.hid h3
  clear h1 h2 h3 ht hm n0 n1 m0 m1
  go_enter Tryz.func45, Tryz.ntmps45
  go_wp2_with (first
    | (go_at_call_of 68 (Value.int .i64 n); (with_reducible refine (H1.out _ (Below.refl _ _)).mono ?_); rintro e w1 ⟨rfl, q⟩; have B1 := Lib.hid q; clear q)
    | (go_at_call 68; (with_reducible refine (H2.out _ B1.out).mono ?_); rintro e w2 ⟨rfl, q⟩; have B2 := Lib.hid (B1.out.trans (q.mono B1.out.size)); clear q)
    | (go_at_call 67; (with_reducible refine (H3.out _ B2.out).mono ?_); rintro e w3 ⟨rfl, q⟩; have B3 := Lib.hid (B2.out.trans (q.mono B2.out.size)); clear q)
    | fail "arm")
  go_ret2
  exact ⟨rfl, B3.out⟩

theorem rof_zero (n : Int) (n0 : -9223372036854775808 ≤ n) (n1 : n ≤ 9223372036854775807) (w : World) (ht : Pow10 w) :
    Calls Tryz.prog 45 #[.int .i64 n, .int .i64 0] w fun e w' => e = .returned (.tuple #[.string ⟨#[]⟩, .int .i64 17]) ∧ Below w.heap.size w w' := by
  have h1 := fun W (hW : Below w.heap.size w W) => of_any n n0 n1 W (ht.below hW)
  have h2 := fun W (hW : Below w.heap.size w W) => of_any 0 (by omega) (by omega) W (ht.below hW)
  have h3 := fun W => rnew_zero n W
  have H1 := Lib.hid h1
  have H2 := Lib.hid h2
  have H3 := Lib.hid h3
  clear h1 h2 h3 ht n0 n1
  go_enter Tryz.func45, Tryz.ntmps45
  go_wp2_with (first
    | (go_at_call 68; (with_reducible refine (H1.out _ (Below.refl _ _)).mono ?_); rintro e w1 ⟨rfl, q⟩; have B1 := Lib.hid q; clear q)
    | (go_at_call 68; (with_reducible refine (H2.out _ B1.out).mono ?_); rintro e w2 ⟨rfl, q⟩; have B2 := Lib.hid (B1.out.trans (q.mono B1.out.size)); clear q)
    | (go_at_call 67; (with_reducible refine (H3.out _).mono ?_); rintro e w3 ⟨rfl, rfl⟩)
    | fail "arm")
  go_ret2
  exact ⟨rfl, B2.out⟩

end Go.Proofs.YtajkeoapfkkjbaaGreatDoor
