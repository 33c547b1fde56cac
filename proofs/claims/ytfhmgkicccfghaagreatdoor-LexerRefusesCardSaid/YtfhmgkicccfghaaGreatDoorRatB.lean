/- The walks of rational.Add and Mul. -/
import Derived.Test.YtfhmgkicccfghaaGreatDoorRatA
import Derived.Test.YtfhmgkicccfghaaGreatDoorRatQ
import Derived.Test.YtfhmgkicccfghaaGreatDoorRat
import Derived.Test.YtfhmgkicccfghaaGreatDoorGInt
import Derived.BigQuiet
import Derived.Outline
namespace Go.Proofs.YtfhmgkicccfghaaGreatDoor
set_option linter.all false
open Go.RowKit

def Sz (q : Rat) (N : Nat) : Prop := q.num.natAbs < 10 ^ N ∧ q.den < 10 ^ N

theorem Sz.mono {q : Rat} {N M : Nat} (h : Sz q N) (hNM : N ≤ M) : Sz q M := by
 have h1 : (10 : Nat) ^ N ≤ 10 ^ M := Nat.pow_le_pow_right (by omega) hNM
 exact ⟨Nat.lt_of_lt_of_le h.1 h1, Nat.lt_of_lt_of_le h.2 h1⟩

theorem Sz.num {q : Rat} {N : Nat} (h : Sz q N) (h0 : 0 < N) : (canon q.num).size ≤ N + 1 := canon_size_lt _ N h.1 h0
theorem Sz.den {q : Rat} {N : Nat} (h : Sz q N) (h0 : 0 < N) : (canon (q.den : Int)).size ≤ N + 1 := canon_size_lt _ N (by rw [Int.natAbs_natCast]; exact h.2) h0

theorem ratT_size (n : Int) (d : Nat) : (ratT n d).size ≤ (canon n).size + 1 + (canon (d : Int)).size := by
 show (ratL n d).length ≤ (Lib.itoa n).length + 1 + (Lib.itoa (d : Int)).length
 unfold ratL
 rw [itoa_of_nat]
 split
 ·omega
 ·rw [List.length_append, List.length_cons]; omega

theorem Sz.text {q : Rat} {N : Nat} (h : Sz q N) (h0 : 0 < N) : (canonR q).size ≤ 2 * N + 3 := by
 have h1 := ratT_size q.num q.den
 have h2 := h.num h0
 have h3 := h.den h0
 have h4 : (canonR q).size = (ratT q.num q.den).size := rfl
 omega

theorem mk_bounds (n : Int) (d : Nat) (hd : d ≠ 0) : (mkRat n d).num.natAbs ≤ n.natAbs ∧ (mkRat n d).den ≤ d := by
 rw [Rat.mkRat_def, dif_neg hd, Rat.normalize_eq]
 exact ⟨Int.natAbs_ediv_le_natAbs _ _, Nat.div_le_self _ _⟩

theorem radd_eq (a b : Rat) : a + b = mkRat (a.num * (b.den : Int) + b.num * (a.den : Int)) (a.den * b.den) := by
 rw [Rat.add_def, Rat.normalize_eq_mkRat]
theorem den_mul_ne (a b : Rat) : a.den * b.den ≠ 0 := Nat.mul_ne_zero a.den_nz b.den_nz
theorem nat_mul_pow {x y N M : Nat} (hx : x < 10 ^ N) (hy : y < 10 ^ M) : x * y < 10 ^ (N + M) := by
 rw [Nat.pow_add]
 exact Nat.mul_lt_mul'' hx hy

theorem add_abs_lt {x y : Int} {N : Nat} (hx : x.natAbs < 10 ^ N) (hy : y.natAbs < 10 ^ N) : (x + y).natAbs < 10 ^ (N + 1) := by
 rw [Nat.pow_succ]
 generalize (10 : Nat) ^ N = s at *
 omega

theorem cross_lt {a b : Rat} {N : Nat} (ha : Sz a N) (hb : Sz b N) : (a.num * (b.den : Int)).natAbs < 10 ^ (N + N) := by
 rw [Int.natAbs_mul, Int.natAbs_natCast]
 exact nat_mul_pow ha.1 hb.2
theorem dens_lt {a b : Rat} {N : Nat} (ha : Sz a N) (hb : Sz b N) : a.den * b.den < 10 ^ (N + N) := nat_mul_pow ha.2 hb.2

theorem Sz.add {a b : Rat} {N : Nat} (ha : Sz a N) (hb : Sz b N) : Sz (a + b) (N + N + 1) := by
 obtain ⟨h1, h2⟩ := mk_bounds (a.num * (b.den : Int) + b.num * (a.den : Int)) (a.den * b.den) (den_mul_ne a b)
 rw [← radd_eq] at h1 h2
 have h3 := add_abs_lt (cross_lt ha hb) (cross_lt hb ha)
 have h4 := dens_lt ha hb
 have h5 : (10 : Nat) ^ (N + N) ≤ 10 ^ (N + N + 1) := Nat.pow_le_pow_right (by omega) (by omega)
 exact ⟨Nat.lt_of_le_of_lt h1 h3, by omega⟩

theorem rlowest_any (n : Int) (D : Nat) (w : World) (ht : Pow10 w) (hD : 0 < D) (hn : (canon n).size ≤ 9000) (hd : (canon (D : Int)).size ≤ 9000) :
  Calls Tryz.prog 68 #[.string (canon n), .string (canon (D : Int))] w fun e w' => e = .returned (.string (canonR (mkRat n D))) ∧ Below w.heap.size w w' := by
 have h := lowest_any false n D w ht hD hn hd
 rw [if_neg (by simp), if_neg (by simp)] at h
 exact h

end Go.Proofs.YtfhmgkicccfghaaGreatDoor
