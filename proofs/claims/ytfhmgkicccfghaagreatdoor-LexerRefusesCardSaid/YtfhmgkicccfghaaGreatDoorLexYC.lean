/- The model's scan: the closure that adds a token. -/
import Derived.Test.YtfhmgkicccfghaaGreatDoorLexYB
import Derived.Test.YtfhmgkicccfghaaGreatDoorGLexX
namespace Go.Proofs.YtfhmgkicccfghaaGreatDoor
set_option linter.all false
open Go.RowKit

set_option maxRecDepth 100000 in
set_option maxHeartbeats 4000000 in
theorem add_full (T1 : Array Value) (P1 : Array Value) (O : Nat) (v : Value) (us : List Tok) (base : Nat) (W : World) (hk : Blk W O #[v] 25) (tr : TokRow W base v us) (hl : us.length = 5000) (h1 : T1.size = 5) (h2 : P1.size = 2) :
  Calls Tryz.prog 34 #[.agg T1, .agg P1, .pointer (some ⟨O, 0, none⟩)] W fun e w' => e = .returned (.int .i64 4) ∧ Below W.heap.size W w' := by
 rcases T1 with ⟨⟨⟩ | ⟨x0, ⟨⟩ | ⟨x1, ⟨⟩ | ⟨x2, ⟨⟩ | ⟨x3, ⟨⟩ | ⟨x4, ⟨⟩ | ⟨x5, T1⟩⟩⟩⟩⟩⟩⟩ <;> first | (simp at h1; done) | skip
 rcases P1 with ⟨⟨⟩ | ⟨y0, ⟨⟩ | ⟨y1, ⟨⟩ | ⟨y2, P1⟩⟩⟩⟩ <;> first | (simp at h2; done) | skip
 obtain ⟨a, c, rfl⟩ := tr.len_eval
 have c0 := hk.at_ 0 _ rfl
 have b0 := ((Below.refl W.heap.size W).alloc (Nat.le_refl _) (.cells #[x0, x1, x2, x3, x4] 38))
 have b1 := b0.alloc b0.size (.cells #[y0, y1] 27)
 have o0 := (b1.cell (p := ⟨O, 0, none⟩) hk.lt).trans c0
 have B := Lib.hid b1
 have e5 : ((us.length : Int) == 5000) = true := by rw [hl]; rfl
 clear hk tr b0 b1 c0 h1 h2 hl
 go_enter Tryz.func34, Tryz.ntmps34
 go_upto_region 1 with (fail)
 generalize ((W.alloc (Obj.cells #[x0, x1, x2, x3, x4] 38)).alloc (Obj.cells #[y0, y1] 27)) = W1 at *
 go_wp2
 go_ret
 exact ⟨rfl, B.out⟩

set_option maxRecDepth 100000 in
set_option maxHeartbeats 4000000 in
theorem add_tok (t : Tok) (O : Nat) (v : Value) (us : List Tok) (base : Nat) (W : World) (hO : O < base) (hb : base ≤ W.heap.size) (hk : Blk W O #[v] 25) (tr : TokRow W base v us) (hl : us.length < 5000) :
  Calls Tryz.prog 34 #[.agg #[.int .i64 t.kind, .string ⟨t.text.toArray⟩, .string ⟨t.value.toArray⟩, .int .i64 0, .int .i64 0], .agg #[.int .i64 t.line, .int .i64 t.col], .pointer (some ⟨O, 0, none⟩)] W fun e w' =>
   e = .returned (.int .i64 0) ∧ (∃ v', Blk w' O #[v'] 25 ∧ TokRow w' base v' (us ++ [t])) ∧ (∀ b cs T, b < base → b ≠ O → Blk W b cs T → Blk w' b cs T) ∧ Below O W w' := by
 obtain ⟨a, c, rfl⟩ := tr.len_eval
 have k0 := Blk.fresh W #[.int .i64 t.kind, .string ⟨t.text.toArray⟩, .string ⟨t.value.toArray⟩, .int .i64 0, .int .i64 0] 38
 have q0 := below_new W (.cells #[.int .i64 t.kind, .string ⟨t.text.toArray⟩, .string ⟨t.value.toArray⟩, .int .i64 0, .int .i64 0] 38)
 have hz : (W.alloc (.cells #[.int .i64 t.kind, .string ⟨t.text.toArray⟩, .string ⟨t.value.toArray⟩, .int .i64 0, .int .i64 0] 38)).heap.size = W.heap.size + 1 := by simp
 have k1 := Blk.fresh (W.alloc (.cells #[.int .i64 t.kind, .string ⟨t.text.toArray⟩, .string ⟨t.value.toArray⟩, .int .i64 0, .int .i64 0] 38)) #[.int .i64 t.line, .int .i64 t.col] 27
 have q1 := q0.alloc q0.size (.cells #[.int .i64 t.line, .int .i64 t.col] 27)
 replace k0 := k0.alloc (.cells #[.int .i64 t.line, .int .i64 t.col] 27)
 rw [hz] at k1
 have hlt := hk.lt
 have hk2 := hk.below q1
 have K0 := Lib.hid k0
 have K1 := Lib.hid k1
 have HK := Lib.hid hk2
 have HK0 := Lib.hid hk
 have TR0 := Lib.hid tr
 have Q := Lib.hid q1
 have e5 : ((us.length : Int) == 5000) = false := by rw [beq_eq_false_iff_ne]; omega
 clear k0 q0 hz k1 q1 hk tr hk2
 go_enter Tryz.func34, Tryz.ntmps34
 go_upto_region 1 with (fail)
 generalize ((W.alloc (Obj.cells #[.int .i64 t.kind, .string ⟨t.text.toArray⟩, .string ⟨t.value.toArray⟩, .int .i64 0, .int .i64 0] 38)).alloc (Obj.cells #[.int .i64 t.line, .int .i64 t.col] 27)) = W1 at *
 have o0 := HK.out.at_ 0 _ rfl
 go_upto_region 3 with (fail)
 have p0 := K1.out.at_ 0 _ rfl
 have p1 := K1.out.at_ 1 _ rfl
 have y3 := K0.out.at_ 3 _ rfl
 have y4 := K0.out.at_ 4 _ rfl
 have z3 := K0.out.free 3
 have z4 := K0.out.free 4
 go_upto_region 4 with (fail)
 have K2 : Hid (Blk _ W.heap.size #[.int .i64 t.kind, .string ⟨t.text.toArray⟩, .string ⟨t.value.toArray⟩, .int .i64 t.line, .int .i64 t.col] 38) := Lib.hid ((K0.out.set 3 (.int .i64 t.line)).set 4 (.int .i64 t.col))
 have Q2 := Lib.hid ((Q.out.setCell (p := ⟨W.heap.size, 3, none⟩) (Nat.le_refl _) (.int .i64 t.line)).setCell (p := ⟨W.heap.size, 4, none⟩) (Nat.le_refl _) (.int .i64 t.col))
 clear p0 p1 y3 y4 z3 z4 o0 K0 K1 Q HK
 generalize ((W1.setCell ⟨W.heap.size, 3, none⟩ (.int .i64 t.line)).setCell ⟨W.heap.size, 4, none⟩ (.int .i64 t.col)) = W2 at *
 have HK2 := Lib.hid (HK0.out.below Q2.out)
 have TR2 := Lib.hid (TR0.out.below Q2.out)
 have o0 := HK2.out.at_ 0 _ rfl
 have y0 := K2.out.at_ 0 _ rfl
 have y1 := K2.out.at_ 1 _ rfl
 have y2 := K2.out.at_ 2 _ rfl
 have y3 := K2.out.at_ 3 _ rfl
 have y4 := K2.out.at_ 4 _ rfl
 have hsz := Q2.out.size
 go_upto_region 5 with (at_builtin; refine app_tok rfl (.tmp 11) (.tmp 13) rfl W2 base (by omega) _ us TR2.out rfl (by omega) t rfl ?_; intro v5 W5 r1 r2 r3; obtain ⟨va, vc, rfl⟩ := r1.len_eval; have hk5 := r2 _ _ _ hO HK2.out; have o5 := hk5.at_ 0 _ rfl; have z5 := hk5.free 0)
 go_wp2
 go_ret
 rw [show (us ++ [t]).length = us.length + 1 by simp] at r1
 refine ⟨rfl, ⟨_, hk5.set 0 _, r1.set ⟨O, 0, none⟩ hO _⟩, fun b cs T h1 h2 h3 => (r2 _ _ _ h1 (h3.below Q2.out)).else1 ⟨O, 0, none⟩ (Ne.symm h2) _, ?_⟩
 have h1 : Below O W W2 := Q2.out.mono (by omega)
 have h2 : Below O W2 W5 := r3.mono (by omega)
 exact (h1.trans h2).setCell (p := ⟨O, 0, none⟩) (Nat.le_refl _) _

end Go.Proofs.YtfhmgkicccfghaaGreatDoor
