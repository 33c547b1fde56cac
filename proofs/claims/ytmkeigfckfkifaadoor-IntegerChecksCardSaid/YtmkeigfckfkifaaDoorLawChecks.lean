/- IntegerChecks: the walk: for every text and every int the call returns true, where strconv.ErrRange's variable stands as it was laid. -/
import Derived.Test.YtmkeigfckfkifaaDoorLawBase
import Derived.Test.YtmkeigfckfkifaaDoorRefW
import Derived.Test.YtmkeigfckfkifaaDoorSmallP
import Derived.Test.YtmkeigfckfkifaaDoorRefMul
import Derived.Test.YtmkeigfckfkifaaDoorMake
import Derived.WalkSmall
namespace Go.Proofs.YtmkeigfckfkifaaDoor
open Go.ChangeShapes Go.WideShapes Go.ChangeAt Go.RowKit

set_option maxRecDepth 100000 in
set_option maxHeartbeats 4000000 in
theorem checks_walk (s : ByteArray) (n : Int) (w : World) (hs : s.size ≤ maxLen) (hn0 : -9223372036854775808 ≤ n) (hn1 : n ≤ 9223372036854775807) (ht : Pow10 w) (tp : TypeId) (pv : Value) (gr : Nat) (hgr : Tryd.prog.globalNamed "strconv.ErrRange" = some gr) (hgs : gr < w.heap.size) (hv : w.var? Tryd.prog "strconv.ErrRange" = some #[.iface tp pv]) :
    Calls Tryd.prog 6 #[.string s, .int .i64 n] w fun e w' => e = .returned (.bool true) ∧ Below w.heap.size w w' := by
  unfold maxLen at hs
  have hk := fun W (hW : Below w.heap.size w W) => known_any W (ht.below hW)
  have HK := Lib.hid hk
  clear hk
  rcases Nat.lt_or_ge 220 s.size with h | h
  · have h1 : decide ((220 : Int) < (s.size : Int)) = true := by simp; omega
    clear h hn0 hn1 ht hgr hgs hv
    go_enter Tryd.func6, Tryd.ntmps6
    obtain ⟨W0, hW0⟩ : ∃ W0, W0 = w := ⟨_, rfl⟩
    have tok1 : True := trivial
    go_wp2_with (first
      | (go_at_call 9; have _t := tok1; refine (HK.out _ (Below.refl _ _)).mono ?_; rintro e w1 ⟨rfl, b1⟩; have B1 := Lib.hid b1; clear b1 tok1 _t)
      | (go_at_call 9; refine (HK.out _ B1.out).mono ?_; rintro e w2 ⟨rfl, b2⟩; have B2 := Lib.hid (B1.out.trans (b2.mono B1.out.size)); clear b2))
    go_ret
    exact ⟨rfl, B2.out⟩
  · have h1 : decide ((220 : Int) < (s.size : Int)) = false := by simp; omega
    have r1 := fun W => right_any s W (by omega)
    have c1 := fun W => check_any s W (by omega)
    have o1 := fun W (hW : Below w.heap.size w W) => of_any n hn0 hn1 W (ht.below hW)
    have o2 := fun W (hW : Below w.heap.size w W) => ofR_any n hn0 hn1 W (ht.below hW)
    have hsz : (canon n).size ≤ 1000 := by
      have := canon_size_lt n 19 (by omega) (by omega)
      omega
    have s1 := fun W (hW : Below w.heap.size w W) => small_int n W tp pv (var?_below hW hgr hgs hv) hsz
    rw [show smallV n = n from if_pos ⟨hn0, by omega⟩, show smallB n = true from decide_eq_true ⟨hn0, by omega⟩] at s1
    obtain ⟨r, hr⟩ : ∃ r, rightS s.data.toList = r := ⟨_, rfl⟩
    rw [hr] at r1 c1
    obtain ⟨cn, hcn⟩ : ∃ c, canon n = c := ⟨_, rfl⟩
    rw [hcn] at o1 o2 s1
    have R1 := Lib.hid r1
    have O1 := Lib.hid o1
    have O2 := Lib.hid o2
    have S1 := Lib.hid s1
    clear r1 o1 o2 s1 h hr hcn hsz ht hgr hgs hv hn0 hn1
    cases r with
    | true =>
      rw [if_pos rfl] at c1
      have C1 := Lib.hid c1
      clear c1
      go_enter Tryd.func6, Tryd.ntmps6
      have tok1 : True := trivial
      go_wp2_with (first
        | (go_at_call 9; (with_reducible refine (HK.out _ (Below.refl _ _)).mono ?_); rintro e w1 ⟨rfl, b⟩; have B1 := Lib.hid b; clear b)
        | (go_at_call 17; (with_reducible refine (R1.out _).mono ?_); rintro e w2 ⟨rfl, b⟩; have B2 := Lib.hid (B1.out.trans (b.below _)); clear b)
        | (go_at_call 18; have _t := tok1; (with_reducible refine (O1.out _ B2.out).mono ?_); rintro e w3 ⟨rfl, b⟩; have B3 := Lib.hid (B2.out.trans (b.mono B2.out.size)); clear b tok1 _t)
        | (go_at_call 15; (with_reducible refine (S1.out _ B3.out).mono ?_); rintro e w4 ⟨rfl, b⟩; have B4 := Lib.hid (B3.out.trans (b.mono B3.out.size)); clear b)
        | (go_at_call 19; (with_reducible refine (C1.out _).mono ?_); rintro e w5 ⟨rfl, rfl⟩)
        | (go_at_call 18; (with_reducible refine (O1.out _ B4.out).mono ?_); rintro e w6 ⟨rfl, b⟩; have B6 := Lib.hid (B4.out.trans (b.mono B4.out.size)); clear b)
        | (go_at_call 20; (with_reducible refine (O2.out _ B6.out).mono ?_); rintro e w7 ⟨rfl, b⟩; have B7 := Lib.hid (B6.out.trans (b.mono B6.out.size)); clear b))
      go_ret
      exact ⟨by simp, B7.out⟩
    | false =>
      rw [if_neg (by simp)] at c1
      have C1 := Lib.hid c1
      clear c1
      go_enter Tryd.func6, Tryd.ntmps6
      have tok1 : True := trivial
      go_wp2_with (first
        | (go_at_call 9; (with_reducible refine (HK.out _ (Below.refl _ _)).mono ?_); rintro e w1 ⟨rfl, b⟩; have B1 := Lib.hid b; clear b)
        | (go_at_call 17; (with_reducible refine (R1.out _).mono ?_); rintro e w2 ⟨rfl, b⟩; have B2 := Lib.hid (B1.out.trans (b.below _)); clear b)
        | (go_at_call 18; have _t := tok1; (with_reducible refine (O1.out _ B2.out).mono ?_); rintro e w3 ⟨rfl, b⟩; have B3 := Lib.hid (B2.out.trans (b.mono B2.out.size)); clear b tok1 _t)
        | (go_at_call 15; (with_reducible refine (S1.out _ B3.out).mono ?_); rintro e w4 ⟨rfl, b⟩; have B4 := Lib.hid (B3.out.trans (b.mono B3.out.size)); clear b)
        | (go_at_call 19; (with_reducible refine (C1.out _).mono ?_); rintro e w5 ⟨rfl, rfl⟩)
        | (go_at_call 18; (with_reducible refine (O1.out _ B4.out).mono ?_); rintro e w6 ⟨rfl, b⟩; have B6 := Lib.hid (B4.out.trans (b.mono B4.out.size)); clear b)
        | (go_at_call 20; (with_reducible refine (O2.out _ B6.out).mono ?_); rintro e w7 ⟨rfl, b⟩; have B7 := Lib.hid (B6.out.trans (b.mono B6.out.size)); clear b))
      go_ret
      exact ⟨by simp, B7.out⟩

end Go.Proofs.YtmkeigfckfkifaaDoor
