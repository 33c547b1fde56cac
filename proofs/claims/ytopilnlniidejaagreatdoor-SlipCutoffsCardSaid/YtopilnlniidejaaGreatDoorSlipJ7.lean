/- Cutoffs, Separation, Explains of the faults that plans describe. -/
import Derived.Test.YtopilnlniidejaaGreatDoorSlipJ1
namespace Go.Proofs.YtopilnlniidejaaGreatDoor
set_option linter.all false
open Go.RowKit

theorem firstZ (e : Int) : firstE [e, 0] = e := by
 unfold firstE
 by_cases h : e = 0
 ·subst h
  rfl
 ·rw [List.find?_cons]
  rw [show (e != 0) = true by simp [h]]
  rfl
theorem right_s3 {v : V3} {a b : Nat} (h : S2 v.x a b ∧ S2 v.y a b ∧ S2 v.z a b) (ha : a ≤ 200) (hb : b ≤ 200) : v.t.right = true ∧ v.t.small := by
 obtain ⟨x, y, z⟩ := h
 refine ⟨?_, x.brief ha hb, y.brief ha hb, z.brief ha hb⟩
 unfold T3.right
 rw [show rightQ v.t.x = true from x.right ha hb, show rightQ v.t.y = true from y.right ha hb, show rightQ v.t.z = true from z.right ha hb]
 rfl
section
variable {n s : V3} {q : Rat} (h : FaultOk n s q)
include h
theorem FaultOk.rights : (n.t.right && rightQ (canonR q)) = true ∧ s.t.right = true := by
 rw [h.hn.right (by omega) (by omega), h.hs.right (by omega) (by omega), h.hq.right (by omega) (by omega)]
 exact ⟨rfl, rfl⟩
theorem FaultOk.plane (w : World) (he : Env w) : ∀ W, Below w.heap.size w W → Calls Tryz.prog 50 #[.agg #[.string n.t.x, .string n.t.y, .string n.t.z, .string (canonR q)]] W fun e w' => e = .returned (.int .i64 (e2 true)) ∧ Below W.heap.size W w' := fun W hW => by
 have := splaneT W n.t (canonR q) (h.hn.small (by omega) (by omega)) (h.hq.brief (by omega) (by omega)) (he.below hW)
 rw [h.rights.1] at this
 exact this
theorem FaultOk.slipV (w : World) (he : Env w) : ∀ W b, Blk W b #[.string s.t.x, .string s.t.y, .string s.t.z] 24 → Below w.heap.size w W → Calls Tryz.prog 62 #[.slice (some ⟨b, 0, none⟩) 1 1] W fun e w' => e = .returned (.int .i64 (e2 true)) ∧ Below W.heap.size W w' := fun W b hb hW => by
 have := svec1 s.t (h.hs.small (by omega) (by omega)) W b (he.below hW) hb
 rw [h.rights.2] at this
 exact this
theorem FaultOk.form (w : World) (he : Env w) : ∀ W, Below w.heap.size w W → Calls Tryz.prog 75 #[.agg #[.string n.t.x, .string n.t.y, .string n.t.z, .string (canonR q), .string s.t.x, .string s.t.y, .string s.t.z]] W fun e w' => e = .returned (.int .i64 0) ∧ Below W.heap.size W w' := fun W hW => by
 have := sformR n s q (h.hn.sz' 60 60 (by omega) (by omega)) (h.hs.sz' 60 60 (by omega) (by omega)) h.q60 W (he.below hW)
 rw [if_pos h.dot] at this
 exact this
theorem FaultOk.n20 : R3 n 20 18 := h.hn.sz' 20 18 (by omega) (by omega)

end

end Go.Proofs.YtopilnlniidejaaGreatDoor
