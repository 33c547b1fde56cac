/- The walks of klipperef02.Neg, Sign, Sub, Compare, Abs, Floor, Nearest, Div and Round, and of rational.Abs, Min, Max, Whole and Round. -/
import Derived.Test.YtajkeoapfkkjbaaGreatDoorRfC
import Derived.Test.YtajkeoapfkkjbaaGreatDoorRatH
import Derived.Test.YtajkeoapfkkjbaaGreatDoorRatD
namespace Go.Proofs.YtajkeoapfkkjbaaGreatDoor
set_option linter.all false
open Go.RowKit

/-- The magnitude of a number. -/
def absQ (q : Rat) : Rat := if q.num < 0 then -q else q

/-- The number rounded to a grid: its numerator. -/
def roundN (x : Rat) (g : Nat) : Int := (x * (g : Rat) + half).num / ((x * (g : Rat) + half).den : Int)

theorem nat_rat_num (g : Nat) : ((g : Rat)).num = (g : Int) ∧ ((g : Rat)).den = 1 := ⟨rfl, rfl⟩
theorem canonR_nat (g : Nat) : canonR (g : Rat) = canon (g : Int) := rfl
theorem mkRat_nat (g : Nat) : mkRat (g : Int) 1 = (g : Rat) := (Rat.mkRat_one _).trans rfl

theorem grid_sz (g N : Nat) (h : g < 10 ^ N) (h0 : 0 < N) : Sz (g : Rat) N := by
  refine ⟨?_, ?_⟩
  · show ((g : Int)).natAbs < 10 ^ N
    rw [Int.natAbs_natCast]; exact h
  · show 1 < 10 ^ N
    exact Nat.one_lt_pow (by omega) (by omega)

theorem round_sz {x : Rat} {g N : Nat} (hx : Sz x N) (hg : g < 10 ^ N) (h0 : 0 < N) : Sz (x * (g : Rat)) (N + N) ∧ (canon (roundN x g)).size ≤ N + N + (N + N) + 2 := by
  have h1 := hx.mul (grid_sz g N hg h0)
  have h2 := h1.add (half_sz (N + N) (by omega))
  refine ⟨h1, ?_⟩
  have h3 := canon_size_lt (roundN x g) (N + N + (N + N) + 1) (Nat.lt_of_le_of_lt (Int.natAbs_ediv_le_natAbs _ _) h2.1) (by omega)
  omega

theorem rwhole_any (n : Int) (h0 : -9223372036854775808 ≤ n) (h1 : n ≤ 9223372036854775807) (w : World) (ht : Pow10 w) :
    Calls Tryz.prog 65 #[.int .i64 n] w fun e w' => e = .returned (.string (canon n)) ∧ Below w.heap.size w w' := by
  have h2 := of_any n h0 h1 w ht
  generalize canon n = CN at *
  have H1 := Lib.hid h2
  clear h0 h1 h2 ht
  go_enter Tryz.func65, Tryz.ntmps65
  go_wp2_with (first
    | (go_at_call 68; (with_reducible refine H1.out.mono ?_); rintro e w1 ⟨rfl, q⟩; have B1 := Lib.hid q; clear q)
    | fail "arm")
  go_ret
  exact ⟨rfl, B1.out⟩

end Go.Proofs.YtajkeoapfkkjbaaGreatDoor
