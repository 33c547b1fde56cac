/- The model's equal, same, and Same. -/
import Derived.Test.YtfhmgkicccfghaaGreatDoorGLexX
import Derived.Deep.QuietTactic
import Derived.BigQuiet
namespace Go.Proofs.YtfhmgkicccfghaaGreatDoor
set_option linter.all false
open Go.RowKit

theorem TokAt.cell {w : World} {v : Value} {ts : List Tok} (h : TokAt w v ts) (i : Nat) (hi : i < ts.length) : ∃ d o c, v = .slice (some ⟨d, o, none⟩) ts.length c ∧ ∀ j u, (ts[i].cells)[j]? = some u → w.cell? ⟨d, o + i * 5 + j, none⟩ = some u := by
 obtain ⟨a, c, rfl, h2⟩ := h
 obtain ⟨d, o, rfl, hd, hc⟩ := h2 i ts[i] (List.getElem?_eq_getElem hi)
 exact ⟨d, o, c, rfl, hc⟩

set_option maxRecDepth 100000 in
set_option maxHeartbeats 4000000 in
theorem equal_true (v u : Value) (ts : List Tok) (w : World) (hv : TokAt w v ts) (hu : TokAt w u ts) (hl : ts.length ≤ 5000) :
  Calls Tryz.prog 15 #[v, u] w fun e w' => e = .returned (.bool true) ∧ Below w.heap.size w w' := by
 have HV := Lib.hid hv
 have HU := Lib.hid hu
 obtain ⟨a, c, rfl, _⟩ := hv
 obtain ⟨a', c', rfl, _⟩ := hu
 go_enter Tryz.func15, Tryz.ntmps15
 go_wp2
 go_loopw [5] (fun i wr => ∃ k : Nat, k ≤ ts.length ∧ i = .int .i64 k ∧ Below w.heap.size w wr) (fun i _ => ts.length - (intOf i).toNat)
 case atStart => exact ⟨0, Nat.zero_le _, rfl, Below.refl _ _⟩
 case round =>
  obtain ⟨k, hk, rfl, hB⟩ := hrel
  have B := Lib.hid hB
  clear hB
  by_cases hlt : k < ts.length
  ·obtain ⟨d, o, c1, e1, q1⟩ := (HV.out.below B.out).cell k hlt
   obtain ⟨d', o', c2, e2, q2⟩ := (HU.out.below B.out).cell k hlt
   injection e1 with e1 _ _
   injection e2 with e2 _ _
   subst e1 e2
   generalize ts[k] = t at q1 q2
   have x0 : wr.cell? ⟨d, o + k * 5, none⟩ = _ := q1 0 _ rfl
   have x1 := q1 1 _ rfl
   have x2 := q1 2 _ rfl
   have x3 := q1 3 _ rfl
   have x4 := q1 4 _ rfl
   have y0 : wr.cell? ⟨d', o' + k * 5, none⟩ = _ := q2 0 _ rfl
   have y1 := q2 1 _ rfl
   have y2 := q2 2 _ rfl
   have y3 := q2 3 _ rfl
   have y4 := q2 4 _ rfl
   clear q1 q2
   have hi : (k : Int) < (ts.length : Int) := by omega
   go_upto_region 6 with (fail)
   go_quiet (fail)
   go_wp2
   go_round
   case rel => exact ⟨k + 1, by omega, by go_num, B.out.trans ((Drew.of _ _).below _)⟩
   case measure => simp [intOf]; omega
  ·obtain rfl : k = ts.length := by omega
   go_wp2
   go_ret
   exact ⟨rfl, B.out⟩

end Go.Proofs.YtfhmgkicccfghaaGreatDoor
