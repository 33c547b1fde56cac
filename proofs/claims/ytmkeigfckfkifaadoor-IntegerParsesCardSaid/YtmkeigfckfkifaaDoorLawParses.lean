/- IntegerParses: for every text the call returns true and leaves the text as it was. Conditions: those of the given row alone (the listed tables and errors of the library stand as the program's text lays them). -/
import Derived.Test.YtmkeigfckfkifaaDoorLawBase
import Derived.Test.YtmkeigfckfkifaaDoorRefP
namespace Go.Proofs.YtmkeigfckfkifaaDoor
open Go.ChangeShapes Go.WideShapes Go.ChangeAt Go.RowKit

set_option maxRecDepth 100000 in
set_option maxHeartbeats 2000000 in
theorem parses_walk (s : ByteArray) (w : World) (hs : s.size ≤ maxLen) (ht : Pow10 w) :
    Calls Tryd.prog 3 #[.string s] w fun e w' => e = .returned (.bool true) ∧ Below w.heap.size w w' := by
  unfold maxLen at hs
  have hk := fun W (hW : Below w.heap.size w W) => known_any W (ht.below hW)
  have HK := Lib.hid hk
  clear hk ht
  rcases Nat.lt_or_ge 220 s.size with h | h
  · have h1 : decide ((220 : Int) < (s.size : Int)) = true := by simp; omega
    clear h
    go_enter Tryd.func3, Tryd.ntmps3
    obtain ⟨W0, hW0⟩ : ∃ W0, W0 = w := ⟨_, rfl⟩
    have tok1 : True := trivial
    go_wp2_with (first
      | (go_at_call 9; have _t := tok1; refine (HK.out _ (Below.refl _ _)).mono ?_; rintro e w1 ⟨rfl, b1⟩; have B1 := Lib.hid b1; clear b1 tok1 _t)
      | (go_at_call 9; refine (HK.out _ B1.out).mono ?_; rintro e w2 ⟨rfl, b2⟩; have B2 := Lib.hid (B1.out.trans (b2.mono B1.out.size)); clear b2))
    go_ret
    exact ⟨rfl, B2.out⟩
  · have h1 : decide ((220 : Int) < (s.size : Int)) = false := by simp; omega
    have p1 := fun W => parse_any s W (by omega)
    have p2 := fun W => parseR_any s W (by omega)
    generalize parseSpec s.data.toList = r at *
    have P1 := Lib.hid p1
    have P2 := Lib.hid p2
    clear p1 p2 h
    go_enter Tryd.func3, Tryd.ntmps3
    go_wp2_with (first
      | (go_at_call 9; refine (HK.out _ (Below.refl _ _)).mono ?_; rintro e w1 ⟨rfl, b1⟩; have B1 := Lib.hid b1; clear b1)
      | (go_at_call 10; refine (P1.out _).mono ?_; rintro e w2 ⟨rfl, b2⟩; have B2 := Lib.hid (B1.out.trans (b2.mono B1.out.size)); clear b2)
      | (go_at_call 11; refine (P2.out _).mono ?_; rintro e w3 ⟨rfl, b3⟩; have B3 := Lib.hid (B2.out.trans (b3.mono B2.out.size)); clear b3))
    go_ret
    exact ⟨rfl, B3.out⟩

end Go.Proofs.YtmkeigfckfkifaaDoor
