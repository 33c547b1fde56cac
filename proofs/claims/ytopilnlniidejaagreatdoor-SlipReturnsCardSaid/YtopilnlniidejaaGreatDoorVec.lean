/- Vectors of rational numbers: bounds of their digits, and the sum of three numbers. -/
import Derived.Test.YtopilnlniidejaaGreatDoorRatD
import Derived.Test.YtopilnlniidejaaGreatDoorRatC
import Derived.Test.YtopilnlniidejaaGreatDoorGLinP
import Derived.Test.YtopilnlniidejaaGreatDoorBox
import Derived.Test.YtopilnlniidejaaGreatDoorRfF
namespace Go.Proofs.YtopilnlniidejaaGreatDoor
set_option linter.all false
open Go.RowKit

theorem Sz.sub {a b : Rat} {N : Nat} (ha : Sz a N) (hb : Sz b N) : Sz (a - b) (N + N + 1) := by
 rw [Rat.sub_eq_add_neg]
 exact ha.add hb.neg
theorem Sz.div {a b : Rat} {N : Nat} (ha : Sz a N) (hb : Sz b N) (h0 : b ≠ 0) : Sz (a / b) (N + N) := by
 rw [Rat.div_def]
 exact ha.mul (hb.inv h0)
theorem Sz.neg1 (N : Nat) (h : 0 < N) : Sz (-1) N := ⟨by show 1 < 10 ^ N; exact Nat.one_lt_pow (by omega) (by omega), by show 1 < 10 ^ N; exact Nat.one_lt_pow (by omega) (by omega)⟩
theorem Sz.int (n : Int) (N : Nat) (h : n.natAbs < 10 ^ N) (h0 : 0 < N) : Sz (n : Rat) N := ⟨h, by show 1 < 10 ^ N; exact Nat.one_lt_pow (by omega) (by omega)⟩

def Sz3 (v : V3) (N : Nat) : Prop := Sz v.x N ∧ Sz v.y N ∧ Sz v.z N
theorem Sz3.mono {v : V3} {N M : Nat} (h : Sz3 v N) (hNM : N ≤ M) : Sz3 v M := ⟨h.1.mono hNM, h.2.1.mono hNM, h.2.2.mono hNM⟩
theorem Sz3.scale {v : V3} {N : Nat} {k : Rat} (h : Sz3 v N) (hk : Sz k N) : Sz3 (v.scale k) (N + N) := ⟨h.1.mul hk, h.2.1.mul hk, h.2.2.mul hk⟩
theorem Sz3.dot {u v : V3} {N : Nat} (hu : Sz3 u N) (hv : Sz3 v N) : Sz (dotR u v) (8 * N + 3) :=
 (((hu.1.mul hv.1).add (hu.2.1.mul hv.2.1)).add ((hu.2.2.mul hv.2.2).mono (by omega))).mono (by omega)
theorem Sz.minor {a b c d : Rat} {N : Nat} (ha : Sz a N) (hb : Sz b N) (hc : Sz c N) (hd : Sz d N) : Sz (a * b - c * d) (4 * N + 1) :=
 ((ha.mul hb).sub (hc.mul hd)).mono (by omega)
theorem Sz3.cross {u v : V3} {N : Nat} (hu : Sz3 u N) (hv : Sz3 v N) : Sz3 (crossR u v) (4 * N + 1) :=
 ⟨hu.2.1.minor hv.2.2 hu.2.2 hv.2.1, hu.2.2.minor hv.1 hu.1 hv.2.2, hu.1.minor hv.2.1 hu.2.1 hv.1⟩

theorem right_of_sz {q : Rat} {N : Nat} (h : Sz q N) (h0 : 0 < N) (hN : N ≤ 200) : rightQ (canonR q) = true :=
 rightQ_true ⟨q, rfl, Nat.le_trans (decDigits_len_le N _ h.1 h0) hN, Nat.le_trans (decDigits_len_le N _ h.2 h0) hN⟩

end Go.Proofs.YtopilnlniidejaaGreatDoor
