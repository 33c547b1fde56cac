/- Rational numbers as texts: numerator, a slash and the denominator, if this is not 1. No program in sight. -/
import Derived.Test.YtfhmgkicccfghaaGreatDoorGText
import Derived.Lib.IndexMore
namespace Go.Proofs.YtfhmgkicccfghaaGreatDoor
set_option linter.all false
def ratL (n : Int) (d : Nat) : List UInt8 := if d = 1 then Lib.itoa n else Lib.itoa n ++ (47 :: Lib.decDigits d)
def ratT (n : Int) (d : Nat) : ByteArray := ⟨(ratL n d).toArray⟩
def canonR (q : Rat) : ByteArray := ratT q.num q.den

theorem canon_one_list : (canon 1).toList = [49] := by rw [k_1, ByteArray.toList_eq]
theorem ratT_one (n : Int) : ratT n 1 = canon n := rfl
theorem ratT_frac (n : Int) (d : Nat) (h : d ≠ 1) : ratT n d = canon n ++ (⟨#[47]⟩ : ByteArray) ++ canon (d : Int) := by
 have e : ratL n d = Lib.itoa n ++ (47 :: Lib.decDigits d) := by unfold ratL; rw [if_neg h]
 unfold ratT canon
 rw [e, itoa_of_nat]
 apply ByteArray.ext
 simp [ByteArray.data_append]

theorem canonR_normalize (n : Int) (d : Nat) (h : d ≠ 0) : canonR (Rat.normalize n d h) = ratT (n / ((n.natAbs.gcd d : Nat) : Int)) (d / n.natAbs.gcd d) := by
 rw [Rat.normalize_eq]
 rfl

theorem canonR_mk (n : Int) (d : Nat) (h : d ≠ 0) : canonR (mkRat n d) = ratT (n / ((n.natAbs.gcd d : Nat) : Int)) (d / n.natAbs.gcd d) := by
 rw [Rat.mkRat_def, dif_neg h]
 exact canonR_normalize n d h

end Go.Proofs.YtfhmgkicccfghaaGreatDoor
