/- The questions of plans. -/
import Derived.Test.YthhkmihjnnfpgaaGreatDoorCorX
import Derived.Test.YthhkmihjnnfpgaaGreatDoorPar7
namespace Go.Proofs.YthhkmihjnnfpgaaGreatDoor
set_option linter.all false
open Go.RowKit

attribute [local go_sem] Oper.semAt_some

set_option maxRecDepth 100000 in
set_option maxHeartbeats 8000000 in
theorem half_any (n : Nat) (hn : n < 256) (w : World) (he : Env w) : Ret Tryz.prog w 46 #[.int .u8 n] (.string (qT (2 * ((n % 6 : Nat) : Int)))) := by
 intro W hW
 have B := Lib.hid (Below.refl W.heap.size W)
 have hm : ((n : Int) % 6) = ((n % 6 : Nat) : Int) := by omega
 have h6 : n % 6 < 6 := Nat.mod_lt _ (by omega)
 have HO := Lib.hid (rOfQ ((n % 6 : Nat) : Int) (by omega) W (he.below hW))
 have w1 : IntKind.u8.wrap ((n % 6 : Nat) : Int) = ((n % 6 : Nat) : Int) := (show ∀ m : Nat, m < 6 → IntKind.u8.wrap (m : Int) = (m : Int) by decide) _ h6
 have w2 : IntKind.i64.wrap ((n % 6 : Nat) : Int) = ((n % 6 : Nat) : Int) := IntWalk.i64_in _ (by omega)
 clear he h6
 generalize n % 6 = m at *
 generalize qT (2 * (m : Int)) = tm at *
 go_enter Tryz.func46, Tryz.ntmps46
 go_wp2_with (first
  | (go_at_call 37; with_reducible refine (HO.out _ B.out).mono ?_; rintro e wx ⟨rfl, q⟩; replace B := Lib.hid (B.out.trans (q.mono B.out.size)); clear q)
  | fail "arm")
 go_ret
 exact ⟨rfl, B.out⟩
structure PL where
 l : List Bt
 r : List Bt
 c0 : Nat
 c1 : Nat
 c2 : Nat
 c3 : Nat
structure PL.ok (p : PL) : Prop where
 l : ∀ b ∈ p.l, b.ok
 r : ∀ b ∈ p.r, b.ok
 c : p.c0 < 256 ∧ p.c1 < 256 ∧ p.c2 < 256 ∧ p.c3 < 256
def logP (l : List Bt) : List IV := mkL (l.take 5) (l.take 5).length
def PL.q (p : PL) : CQ := ⟨logP p.l, logP p.r, ((p.c0 % 6 : Nat) : Int), ((p.c1 % 6 : Nat) : Int), ((p.c2 % 6 : Nat) : Int), ((p.c3 % 6 : Nat) : Int)⟩
theorem logP_len (l : List Bt) : (logP l).length = min 5 l.length := by unfold logP; rw [mkL_len, List.length_take]
theorem logP_ok (l : List Bt) : OkLog (logP l) := mkL_ok _ _ (Nat.le_refl _) (by rw [List.length_take]; omega)
theorem PL.qok (p : PL) : OkQ p.q := by
 have h : ∀ n : Nat, 0 ≤ ((n % 6 : Nat) : Int) ∧ ((n % 6 : Nat) : Int) ≤ 20 := fun n => by omega
 exact ⟨by show (logP p.l).length ≤ 6; rw [logP_len]; omega, by show (logP p.r).length ≤ 6; rw [logP_len]; omega, logP_ok _, logP_ok _, h _, h _, h _, h _⟩
structure BAt (W : World) (v : Value) (l : List Bt) : Prop where
 at_ : SAt Bt.cells 3 W v l
 cap : ∃ a c, v = .slice a l.length c ∧ l.length ≤ c
theorem BAt.below {W W' : World} {v : Value} {l : List Bt} (h : BAt W v l) (k : Below W.heap.size W W') : BAt W' v l := ⟨h.at_.below k, h.cap⟩
theorem bits_take {W : World} {a : Option Addr} {c : Nat} {l : List Bt} (h : SAt Bt.cells 3 W (.slice a l.length c) l) (m : Nat) (hm : m ≤ l.length) : SAt Bt.cells 3 W (.slice a m c) (l.take m) := by
 obtain ⟨a', c', e, h2⟩ := h
 injection e with e1 _ e3
 subst e1 e3
 refine ⟨a, c, by rw [List.length_take, Nat.min_eq_left hm], fun i t ht => h2 i t ?_⟩
 rw [List.getElem?_take] at ht
 split at ht
 ·exact ht
 ·cases ht
theorem lmake_nil (w : World) (he : Env w) : Ret Tryz.prog w 47 #[.slice none 0 0] (.slice none 0 0) := fun W hW => by
 have h := lmake_any [] (by simp) (by simp) (.slice none 0 0) W (he.below hW) ⟨none, 0, rfl, fun i t h => by simp at h⟩
 refine h.mono ?_
 rintro e w' ⟨v', rfl, r, q⟩
 rcases r with ⟨_, rfl⟩ | ⟨_, _, _, _, _, h3, _⟩
 ·exact ⟨rfl, q⟩
 ·exact absurd rfl h3

end Go.Proofs.YthhkmihjnnfpgaaGreatDoor
