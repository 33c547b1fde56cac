/- What the joins of klippelaw16 share: the model on described directions. -/
import Derived.Test.YtajkeoapfkkjbaaGreatDoorGLinT
import Derived.Test.YtajkeoapfkkjbaaGreatDoorKnown16
namespace Go.Proofs.YtajkeoapfkkjbaaGreatDoor
set_option linter.all false
open Go.RowKit

/-- The bounds of a description. -/
def Sm (x y z b : Int) : Prop := (-128 ≤ x ∧ x ≤ 127) ∧ (-128 ≤ y ∧ y ≤ 127) ∧ (-128 ≤ z ∧ z ≤ 127) ∧ (0 ≤ b ∧ b ≤ 255)

theorem jints {x y z b : Int} (h : Sm x y z b) (w : World) :
    Calls Tryz.prog 14 #[.agg #[.int .i8 x, .int .i8 y, .int .i8 z, .int .u8 b]] w fun e w' => e = .returned (.agg #[.int .i64 (smI x y z).x, .int .i64 (smI x y z).y, .int .i64 (smI x y z).z]) ∧ Below w.heap.size w w' :=
  mints x y z b h.1.1 h.1.2 h.2.1.1 h.2.1.2 h.2.2.1.1 h.2.2.1.2 h.2.2.2.1 h.2.2.2.2 w

theorem jmake {x y z b : Int} (h : Sm x y z b) (w : World) (he : Env w) :
    Calls Tryz.prog 16 #[.agg #[.int .i8 x, .int .i8 y, .int .i8 z, .int .u8 b]] w fun e w' => e = .returned (.agg #[.string (canonR (ofI (smI x y z) (smD b)).x), .string (canonR (ofI (smI x y z) (smD b)).y), .string (canonR (ofI (smI x y z) (smD b)).z)]) ∧ Below w.heap.size w w' :=
  mmake x y z b h.1.1 h.1.2 h.2.1.1 h.2.1.2 h.2.2.1.1 h.2.2.1.2 h.2.2.2.1 h.2.2.2.2 w he

theorem jzero (v : I3) {r : Bool} (h : zeroB v = r) (w : World) :
    Calls Tryz.prog 13 #[.agg #[.int .i64 v.x, .int .i64 v.y, .int .i64 v.z]] w fun e w' => e = .returned (.bool r) ∧ Below w.heap.size w w' := by
  rw [← h]
  exact mzero v w

theorem jdown {a : I3} {d : Nat} (h : Desc a d) (w : World) :
    Calls Tryz.prog 21 #[.agg #[.int .i64 a.x, .int .i64 a.y, .int .i64 a.z]] w fun e w' => e = .returned (.agg #[.int .i64 (downI a).x, .int .i64 (downI a).y, .int .i64 (downI a).z]) ∧ Below w.heap.size w w' :=
  mdown a (h.bd.mono (by omega)) h.nz w

theorem jof {a : I3} {d : Nat} (h : Desc a d) (w : World) (he : Env w) :
    Calls Tryz.prog 20 #[.agg #[.int .i64 (downI a).x, .int .i64 (downI a).y, .int .i64 (downI a).z]] w fun e w' => e = .returned (.agg #[.string (canonR (downI a).rat.x), .string (canonR (downI a).rat.y), .string (canonR (downI a).rat.z)]) ∧ Below w.heap.size w w' :=
  mof (downI a) ((down_bd h.bd h.nz).mono (by omega)) w he

theorem jdot {a b : I3} {d e : Nat} (ha : Desc a d) (hb : Desc b e) (w : World) :
    Calls Tryz.prog 17 #[.agg #[.int .i64 a.x, .int .i64 a.y, .int .i64 a.z], .agg #[.int .i64 b.x, .int .i64 b.y, .int .i64 b.z]] w fun e w' => e = .returned (.int .i64 (dotI a b)) ∧ Below w.heap.size w w' :=
  mdot a b (ha.bd.mono (by omega)) (hb.bd.mono (by omega)) w

theorem jcross {a b : I3} {d e : Nat} (ha : Desc a d) (hb : Desc b e) (w : World) :
    Calls Tryz.prog 25 #[.agg #[.int .i64 a.x, .int .i64 a.y, .int .i64 a.z], .agg #[.int .i64 b.x, .int .i64 b.y, .int .i64 b.z]] w fun e w' => e = .returned (.agg #[.int .i64 (crossI a b).x, .int .i64 (crossI a b).y, .int .i64 (crossI a b).z]) ∧ Below w.heap.size w w' :=
  mcross a b (ha.bd.mono (by omega)) (hb.bd.mono (by omega)) w

theorem jwrap {x : Int} (h : -1000000000000 ≤ x ∧ x ≤ 1000000000000) : IntKind.i64.wrap x = x := IntWalk.i64_in _ (by omega)

theorem rdiv2_in (x y : Int) (N : Nat) (hy : y ≠ 0) (h1 : x.natAbs < 10 ^ N) (h2 : y.natAbs < 10 ^ N) : Sz (rdiv2 x y) N := by
  unfold rdiv2
  have hb := mk_bounds (if y < 0 then -x else x) y.natAbs (by omega)
  have e : (if y < 0 then -x else x).natAbs = x.natAbs := by split <;> omega
  rw [e] at hb
  exact ⟨Nat.lt_of_le_of_lt hb.1 h1, Nat.lt_of_le_of_lt hb.2 h2⟩

theorem class_cases (d m : Int) : (decide (d > 0) = true ∧ decide (4 * d * d > m) = true ∧ classI d m = 1) ∨ (decide (d > 0) = true ∧ decide (4 * d * d > m) = false ∧ classI d m = 2) ∨
      (decide (d > 0) = false ∧ decide (4 * d * d < m) = true ∧ classI d m = 3) ∨ (decide (d > 0) = false ∧ decide (4 * d * d < m) = false ∧ decide (4 * d * d < 3 * m) = true ∧ classI d m = 4) ∨
      (decide (d > 0) = false ∧ decide (4 * d * d < m) = false ∧ decide (4 * d * d < 3 * m) = false ∧ classI d m = 5) := by
  unfold classI
  generalize 4 * d * d = f
  simp only [decide_eq_true_eq, decide_eq_false_iff_not]
  repeat' split
  all_goals omega

theorem sign_cases (d : Int) : (decide (d < 0) = true ∧ d.sign = -1) ∨ (decide (d < 0) = false ∧ decide (d > 0) = true ∧ d.sign = 1) ∨ (decide (d < 0) = false ∧ decide (d > 0) = false ∧ d.sign = 0) := by
  simp only [decide_eq_true_eq, decide_eq_false_iff_not]
  rcases Int.lt_trichotomy d 0 with h | h | h
  · exact .inl ⟨h, Int.sign_eq_neg_one_of_neg h⟩
  · subst h
    exact .inr (.inr ⟨by omega, by omega, rfl⟩)
  · exact .inr (.inl ⟨by omega, h, Int.sign_eq_one_of_pos h⟩)

theorem trend_cases (n m d : Int) : (decide (n < m) = true ∧ cmpT n m d.sign = -1) ∨ (decide (n < m) = false ∧ (n == m) = false ∧ decide (n > m) = true ∧ cmpT n m d.sign = 1) ∨
      (decide (n < m) = false ∧ (n == m) = true ∧ decide (n > m) = false ∧ decide (d < 0) = true ∧ cmpT n m d.sign = -1) ∨
      (decide (n < m) = false ∧ (n == m) = true ∧ decide (n > m) = false ∧ decide (d < 0) = false ∧ decide (d > 0) = true ∧ cmpT n m d.sign = 1) ∨
      (decide (n < m) = false ∧ (n == m) = true ∧ decide (n > m) = false ∧ decide (d < 0) = false ∧ decide (d > 0) = false ∧ cmpT n m d.sign = 0) := by
  have hs := sign_cases d
  unfold cmpT
  simp only [decide_eq_true_eq, decide_eq_false_iff_not, beq_iff_eq, beq_eq_false_iff_ne] at hs ⊢
  repeat' split
  all_goals omega

theorem noB_cases {v : I3} (h : noB v = false) : ((v.x == 0) = false) ∨ ((v.x == 0) = true ∧ (v.y == 0) = false) := by
  unfold noB at h
  simp only [Bool.and_eq_false_iff, beq_iff_eq, beq_eq_false_iff_ne] at h ⊢
  by_cases hx : v.x = 0
  · exact .inr ⟨hx, h.resolve_left (fun f => f hx)⟩
  · exact .inl hx

theorem noB_true {v : I3} (h : noB v = true) : v = ⟨0, 0, v.z⟩ := by
  obtain ⟨a, b, c⟩ := v
  unfold noB at h
  simp only [Bool.and_eq_true, beq_iff_eq] at h
  obtain ⟨rfl, rfl⟩ := h
  rfl

theorem sq_bd {x : Int} (h : -20 ≤ x ∧ x ≤ 20) : 0 ≤ x * x ∧ x * x ≤ 400 := by
  have := mul_in2 h h (by omega) (by omega)
  have hp : 0 ≤ x * x := by rcases Int.le_total 0 x with h | h; exact Int.mul_nonneg h h; exact Int.mul_nonneg_of_nonpos_of_nonpos h h
  omega

theorem dd_bd {a : I3} (h : Bd a 20) : 0 ≤ dotI a a ∧ dotI a a ≤ 1200 := by
  have h1 := sq_bd h.1
  have h2 := sq_bd h.2.1
  have h3 := sq_bd h.2.2
  unfold dotI
  omega

theorem mul_pp {x y N M : Int} (hx : 0 ≤ x ∧ x ≤ N) (hy : 0 ≤ y ∧ y ≤ M) : 0 ≤ x * y ∧ x * y ≤ N * M :=
  ⟨Int.mul_nonneg hx.1 hy.1, Int.mul_le_mul hx.2 hy.2 hy.1 (Int.le_trans hx.1 hx.2)⟩

end Go.Proofs.YtajkeoapfkkjbaaGreatDoor
