/- Plain facts about rational numbers: the order's sign under sums, products and halves. No program in sight. -/
import Derived.Test.YthhkmihjnnfpgaaGreatDoorRatC
namespace Go.Proofs.YthhkmihjnnfpgaaGreatDoor
set_option linter.all false
theorem num_mk_sign (n:Int) (d:Nat) (hd:d ≠ 0):(mkRat n d).num.sign=n.sign:=by
 rw [Rat.mkRat_def,dif_neg hd,Rat.normalize_eq]
 show (n / ((n.natAbs.gcd d:Nat):Int)).sign=n.sign
 have hg:0 < n.natAbs.gcd d:=Nat.gcd_pos_of_pos_right _ (Nat.pos_of_ne_zero hd)
 have hdv:((n.natAbs.gcd d:Nat):Int) ∣ n:=Int.ofNat_dvd_left.2 (Nat.gcd_dvd_left _ _)
 generalize n.natAbs.gcd d=g at *
 obtain ⟨k,rfl⟩:=hdv
 rw [Int.mul_ediv_cancel_left _ (by omega),Int.sign_mul,Int.sign_eq_one_of_pos (show 0 < (g:Int) by omega),Int.one_mul]

def cmpR (a b:Rat):Int:=(a.num * (b.den:Int) - b.num * (a.den:Int)).sign

theorem cmpR_sub (a b:Rat):cmpR a b=(a - b).num.sign:=by
 have e:a - b=mkRat (a.num * (b.den:Int) - b.num * (a.den:Int)) (a.den * b.den):=by
  rw [Rat.sub_def,Rat.normalize_eq_mkRat]
 rw [e,num_mk_sign _ _ (den_mul_ne a b)]
 rfl

end Go.Proofs.YthhkmihjnnfpgaaGreatDoor
