/- Check of slip and of klippelaw42 over texts, and what the other functions answer where it is no OK. -/
import Derived.Test.YtopilnlniidejaaGreatDoorGSlipZ
import Derived.Test.YtopilnlniidejaaGreatDoorSlip9B
import Derived.Test.YtopilnlniidejaaGreatDoorSlipD
namespace Go.Proofs.YtopilnlniidejaaGreatDoor
set_option linter.all false
open Go.RowKit

section
variable (A S : T3) (A0 : ByteArray)
theorem check_num (ha : A.small) (hs : S.small) (h0 : A0.size ≤ 1000000) (hb : ((A.right && rightQ A0) && S.right) = false) (w : World) (he : Env w) :
  Calls Tryz.prog 32 #[.agg #[.string A.x, .string A.y, .string A.z, .string A0, .string S.x, .string S.y, .string S.z]] w fun e w' => e = .returned (.int .i64 2) ∧ Below w.heap.size w w' :=
 scheck_err _ _ _ _ _ _ _ _ _ w (fun W hW => splaneT W A A0 ha h0 (he.below hW)) (fun W b hb' hW => svec1 S hs W b (he.below hW) hb')
  (fun W b hb' _ => by have := sfirst2 _ _ W b hb'; rw [hb] at this; exact this)
theorem lcheck_num (ha : A.small) (hs : S.small) (h0 : A0.size ≤ 1000000) (hb : ((A.right && rightQ A0) && S.right) = false) (w : World) (he : Env w) :
  Calls Tryz.prog 31 #[.agg #[.string A.x, .string A.y, .string A.z, .string A0, .string S.x, .string S.y, .string S.z]] w fun e w' => e = .returned (.int .i64 2) ∧ Below w.heap.size w w' := by
 have hnu := fun W b c (hb : Blk W b #[.string A.x, .string A.y, .string A.z, .string S.x, .string S.y, .string S.z] 24) (hc : Blk W c #[.string A0] 22) (hW : Below w.heap.size w W) =>
  lnumbers_any [A, S] [A0] (fun v hv => by simp at hv; rcases hv with rfl | rfl; exact ha; exact hs) (fun t ht => by simp at ht; subst ht; exact h0) (by simp) (by simp) W b c hb hc (he.below hW)
 have e : ([A0].all rightQ && [A, S].all T3.right) = false := by
  simp only [List.all_cons, List.all_nil, Bool.and_true]
  revert hb
  cases A.right <;> cases S.right <;> cases rightQ A0 <;> decide
 rw [e] at hnu
 exact lcheck_of (R := ⟨#[]⟩) (td := true) w (r1 := fun _ => rfl) (h_nu := hnu) (h_za := fun W _ => rzero_any A W)
end
theorem chkF_zero {n s : V3} (h : n.t.zero = true) : chkF n s = 17 := by
 unfold chkF errZ
 rw [List.any_cons, h]
 rfl
theorem chkF_form {n s : V3} (h : n.t.zero = false) : chkF n s = if dotR n s = 0 then 0 else 7 := by
 unfold chkF errZ
 rw [List.any_cons, h]
 show firstE [0, _] = _
 by_cases hd : dotR n s = 0
 ·rw [if_pos hd]
  rfl
 ·rw [if_neg hd]
  rfl
section
variable (n s : V3) (q : Rat) (hn : R3 n 60 60) (hs : R3 s 60 60) (hq : S2 q 60 60)
include hn hs hq
theorem lcheckR (w : World) (he : Env w) : Calls Tryz.prog 31 #[.agg #[.string n.t.x, .string n.t.y, .string n.t.z, .string (canonR q), .string s.t.x, .string s.t.y, .string s.t.z]] w fun e w' => e = .returned (.int .i64 (chkF n s)) ∧ Below w.heap.size w w' := by
 have hnu := fun W b c (hb : Blk W b #[.string n.t.x, .string n.t.y, .string n.t.z, .string s.t.x, .string s.t.y, .string s.t.z] 24) (hc : Blk W c #[.string (canonR q)] 22) (hW : Below w.heap.size w W) =>
  lnumbers_any [n.t, s.t] [canonR q] (fun v hv => by simp at hv; rcases hv with rfl | rfl; exact hn.small (by omega) (by omega); exact hs.small (by omega) (by omega)) (fun t ht => by simp at ht; subst ht; exact hq.brief (by omega) (by omega)) (by simp) (by simp) W b c hb hc (he.below hW)
 have e : ([canonR q].all rightQ && [n.t, s.t].all T3.right) = true := by
  simp only [List.all_cons, List.all_nil, Bool.and_true, hn.right (by omega : 60 ≤ 200) (by omega), hs.right (by omega : 60 ≤ 200) (by omega), hq.right (by omega : 60 ≤ 200) (by omega)]
 rw [e] at hnu
 have hd := fun W (hW : Below w.heap.size w W) => ldotR n s 60 (by omega) (by omega) (hn.sz (by omega) (by omega)) (hs.sz (by omega) (by omega)) W (he.below hW)
 have hz := fun W (_ : Below w.heap.size w W) => rzero_any n.t W
 cases hc : n.t.zero with
 | true =>
  rw [hc] at hz
  exact lcheck_of (R := canonR (dotR n s)) (td := true) w (r2 := fun _ _ => by rw [chkF_zero hc]) (h_nu := hnu) (h_za := hz) (h_do := fun _ => hd)
 | false =>
  rw [hc] at hz
  by_cases h : dotR n s = 0
  ·exact lcheck_of (td := true) w (h1 := fun _ _ _ => by rw [canonR_beq0]; exact decide_eq_true h) (r3 := fun _ _ _ => by rw [chkF_form hc, if_pos h]) (h_nu := hnu) (h_za := hz) (h_do := fun _ => hd)
  ·exact lcheck_of (td := false) w (h2 := fun _ _ _ => by rw [canonR_beq0]; exact decide_eq_false h) (r4 := fun _ _ _ => by rw [chkF_form hc, if_neg h]) (h_nu := hnu) (h_za := hz) (h_do := fun _ => hd)
end
section
variable (A1 A2 A3 A0 S1 S2 S3 : ByteArray) (ec : Int) (hne : ¬ ec = 0) (w : World) (hc : ∀ W, Below w.heap.size w W → Calls Tryz.prog 32 #[.agg #[.string A1, .string A2, .string A3, .string A0, .string S1, .string S2, .string S3]] W fun e w' => e = .returned (.int .i64 ec) ∧ Below W.heap.size W w')
include hne hc
theorem sparts_err : Calls Tryz.prog 33 #[.agg #[.string A1, .string A2, .string A3, .string A0, .string S1, .string S2, .string S3]] w fun e w' => e = .returned (.tuple #[.string ⟨#[]⟩, .string ⟨#[]⟩, .int .i64 ec]) ∧ Below w.heap.size w w' :=
 sparts_of _ _ _ _ _ _ _ ⟨#[]⟩ ⟨#[]⟩ ⟨#[]⟩ ⟨#[]⟩ ⟨#[]⟩ ⟨#[]⟩ ⟨#[]⟩ ⟨#[]⟩ ⟨#[]⟩ ⟨#[]⟩ ec _ w (fun _ => rfl) (fun h => absurd h hne) (fun h => absurd h hne) hc (fun h => absurd h.1 hne) (fun h => absurd h.1 hne) (fun h => absurd h.1 hne) (fun h => absurd h.1 hne) (fun h => absurd h.1 hne) (fun h => absurd h.1 hne) (fun h => absurd h.1 hne) (fun h => absurd h.1 hne) (fun h => absurd h.1 hne)
theorem skind_err : Calls Tryz.prog 34 #[.agg #[.string A1, .string A2, .string A3, .string A0, .string S1, .string S2, .string S3]] w fun e w' => e = .returned (.tuple #[.int .i64 0, .int .i64 ec]) ∧ Below w.heap.size w w' :=
 skind_of _ _ _ _ _ _ _ ec 0 0 0 false _ _ _ w rfl rfl (fun _ => rfl) (fun h => absurd h hne) (fun h => absurd h hne) (fun h => absurd h hne) (fun h => absurd h hne) (fun h => absurd h hne) (fun h => absurd h hne) hc (fun h => absurd h hne) (fun h => absurd h.1 hne) (fun h => absurd h.1 hne) (fun h => absurd h hne)
end

end Go.Proofs.YtopilnlniidejaaGreatDoor
