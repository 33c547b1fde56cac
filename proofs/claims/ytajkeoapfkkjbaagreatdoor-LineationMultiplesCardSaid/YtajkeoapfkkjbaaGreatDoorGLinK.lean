/- The functions of lineation on vectors of rational numbers. -/
import Derived.Test.YtajkeoapfkkjbaaGreatDoorVec
import Derived.Test.YtajkeoapfkkjbaaGreatDoorLinR
import Derived.Test.YtajkeoapfkkjbaaGreatDoorLinZ
import Derived.Test.YtajkeoapfkkjbaaGreatDoorLinO
import Derived.Test.YtajkeoapfkkjbaaGreatDoorGLinD
import Derived.Test.YtajkeoapfkkjbaaGreatDoorRfI
/- The functions of lineation on vectors of rational numbers: what they compute. -/
namespace Go.Proofs.YtajkeoapfkkjbaaGreatDoor
set_option linter.all false
open Go.RowKit

theorem k_m1' : canonR (-1) = ⟨#[45, 49]⟩ := by
  show canon (-1) = _
  have := canon_negnat 1 (by omega)
  rw [show (-((1 : Nat) : Int)) = -1 from rfl] at this
  rw [this]
  have h1 : canon 1 = ⟨(Lib.decDigits 1).toArray⟩ := canon_nat 1
  rw [k_1] at h1
  have h2 : Lib.decDigits 1 = [49] := by
    have := congrArg (fun b : ByteArray => b.data.toList) h1
    simpa using this.symm
  rw [h2]

theorem eq0 (q : Rat) : ((canonR q).toList == [48]) = decide (q = 0) := canonR_beq0 q
theorem eq0_t {q : Rat} (h : q = 0) : ((canonR q).toList == [48]) = true := by rw [eq0]; exact decide_eq_true h
theorem eq0_f {q : Rat} (h : q ≠ 0) : ((canonR q).toList == [48]) = false := by rw [eq0]; exact decide_eq_false h

section
variable (u v : V3) (N : Nat) (hN0 : 0 < N)
include hN0

theorem lscale_any (k : Rat) (hN : N ≤ 1000) (hv : Sz3 v N) (hk : Sz k N) (w : World) (he : Env w) :
    Calls Tryz.prog 71 #[.agg #[.string (canonR v.x), .string (canonR v.y), .string (canonR v.z)], .string (canonR k)] w fun e w' => e = .returned (.agg #[.string (canonR (v.scale k).x), .string (canonR (v.scale k).y), .string (canonR (v.scale k).z)]) ∧ Below w.heap.size w w' :=
  lscale_of _ _ _ _ _ _ _ w (fun W hW => rmul_any v.x k N hN0 hN hv.1 hk W (he.below hW)) (fun W hW => rmul_any v.y k N hN0 hN hv.2.1 hk W (he.below hW)) (fun W hW => rmul_any v.z k N hN0 hN hv.2.2 hk W (he.below hW))

theorem lless_any (a b c d : Rat) (hN : N ≤ 400) (ha : Sz a N) (hb : Sz b N) (hc : Sz c N) (hd : Sz d N) (w : World) (he : Env w) :
    Calls Tryz.prog 58 #[.string (canonR a), .string (canonR b), .string (canonR c), .string (canonR d)] w fun e w' => e = .returned (.string (canonR (a * b - c * d))) ∧ Below w.heap.size w w' :=
  lless_of _ _ _ _ _ _ _ w (fun W hW => rmul_any a b N hN0 (by omega) ha hb W (he.below hW)) (fun W hW => rmul_any c d N hN0 (by omega) hc hd W (he.below hW)) (fun W hW => rsub_any (a * b) (c * d) (N + N) (by omega) (by omega) (ha.mul hb) (hc.mul hd) W (he.below hW))

theorem ldot_any (hN : N ≤ 100) (hu : Sz3 u N) (hv : Sz3 v N) (w : World) (he : Env w) :
    Calls Tryz.prog 44 #[.agg #[.string (canonR u.x), .string (canonR u.y), .string (canonR u.z)], .agg #[.string (canonR v.x), .string (canonR v.y), .string (canonR v.z)]] w fun e w' => e = .returned (.string (canonR (dotR u v))) ∧ Below w.heap.size w w' :=
  ldot_of _ _ _ _ _ _ _ _ _ _ w (fun W hW => rmul_any u.x v.x N hN0 (by omega) hu.1 hv.1 W (he.below hW)) (fun W hW => rmul_any u.y v.y N hN0 (by omega) hu.2.1 hv.2.1 W (he.below hW)) (fun W hW => rmul_any u.z v.z N hN0 (by omega) hu.2.2 hv.2.2 W (he.below hW))
    (fun W hW => rsum3N (u.x * v.x) (u.y * v.y) (u.z * v.z) (N + N) (by omega) (by omega) (hu.1.mul hv.1) (hu.2.1.mul hv.2.1) (hu.2.2.mul hv.2.2) W (he.below hW))

theorem lcross_any (hN : N ≤ 400) (hu : Sz3 u N) (hv : Sz3 v N) (w : World) (he : Env w) :
    Calls Tryz.prog 49 #[.agg #[.string (canonR u.x), .string (canonR u.y), .string (canonR u.z)], .agg #[.string (canonR v.x), .string (canonR v.y), .string (canonR v.z)]] w fun e w' => e = .returned (.agg #[.string (canonR (crossR u v).x), .string (canonR (crossR u v).y), .string (canonR (crossR u v).z)]) ∧ Below w.heap.size w w' :=
  lcross_of _ _ _ _ _ _ _ _ _ w (fun W hW => lless_any N hN0 u.y v.z u.z v.y hN hu.2.1 hv.2.2 hu.2.2 hv.2.1 W (he.below hW)) (fun W hW => lless_any N hN0 u.z v.x u.x v.z hN hu.2.2 hv.1 hu.1 hv.2.2 W (he.below hW)) (fun W hW => lless_any N hN0 u.x v.y u.y v.x hN hu.1 hv.2.1 hu.2.1 hv.1 W (he.below hW))

theorem lflat_any (hN : N ≤ 400) (hv : Sz3 v N) (w : World) (he : Env w) :
    Calls Tryz.prog 61 #[.agg #[.string (canonR v.x), .string (canonR v.y), .string (canonR v.z)]] w fun e w' => e = .returned (.string (canonR (v.x * v.x + v.y * v.y))) ∧ Below w.heap.size w w' :=
  lflat_of _ _ _ _ _ _ w (fun W hW => rmul_any v.x v.x N hN0 (by omega) hv.1 hv.1 W (he.below hW)) (fun W hW => rmul_any v.y v.y N hN0 (by omega) hv.2.1 hv.2.1 W (he.below hW)) (fun W hW => radd_any (v.x * v.x) (v.y * v.y) (N + N) (by omega) (by omega) (hv.1.mul hv.1) (hv.2.1.mul hv.2.1) W (he.below hW))

theorem langle_any (hN : N ≤ 50) (hu : Sz3 u N) (hv : Sz3 v N) (hu0 : dotR u u ≠ 0) (hv0 : dotR v v ≠ 0) (w : World) (he : Env w) :
    Calls Tryz.prog 42 #[.agg #[.string (canonR u.x), .string (canonR u.y), .string (canonR u.z)], .agg #[.string (canonR v.x), .string (canonR v.y), .string (canonR v.z)]] w fun e w' => e = .returned (.string (canonR (angleR u v))) ∧ Below w.heap.size w w' := by
  have s1 := hu.dot hv
  have s2 := hu.dot hu
  have s3 := hv.dot hv
  have h0 : dotR u u * dotR v v ≠ 0 := fun e => by
    rcases Rat.mul_eq_zero.1 e with h | h
    · exact hu0 h
    · exact hv0 h
  exact langle_of _ _ _ _ _ _ _ _ _ _ _ _ w (fun W hW => ldot_any u v N hN0 (by omega) hu hv W (he.below hW)) (fun W hW => rmul_any (dotR u v) (dotR u v) (8 * N + 3) (by omega) (by omega) s1 s1 W (he.below hW)) (fun W hW => ldot_any u u N hN0 (by omega) hu hu W (he.below hW)) (fun W hW => ldot_any v v N hN0 (by omega) hv hv W (he.below hW))
    (fun W hW => rmul_any (dotR u u) (dotR v v) (8 * N + 3) (by omega) (by omega) s2 s3 W (he.below hW)) (fun W hW => rdiv_any (dotR u v * dotR u v) (dotR u u * dotR v v) (8 * N + 3 + (8 * N + 3)) (by omega) (by omega) (s1.mul s1) (s2.mul s3) h0 W (he.below hW))

theorem rsign_sz (q : Rat) (hN : N ≤ 10000) (hq : Sz q N) (W : World) :
    Calls Tryz.prog 43 #[.string (canonR q)] W fun e w' => e = .returned (.int .i64 q.num.sign) ∧ W = w' :=
  rsign_any q W (by have := hq.text hN0; omega)

theorem lup_any (hN : N ≤ 10000) (hv : Sz3 v N) (w : World) (_ : Env w) :
    Calls Tryz.prog 72 #[.agg #[.string (canonR v.x), .string (canonR v.y), .string (canonR v.z)]] w fun e w' => e = .returned (.bool (upR v)) ∧ Below w.heap.size w w' := by
  have pos : ∀ n : Int, decide (n.sign > 0) = decide (0 < n) := fun n => by simp
  have neg : ∀ n : Int, decide (n.sign < 0) = decide (n < 0) := fun n => by simp
  unfold upR
  by_cases hz : v.z = 0
  · rw [if_pos hz]
    by_cases hy : v.y = 0
    · rw [if_pos hy, ← neg]
      exact lup_x _ _ _ _ w (eq0_t hz) (eq0_t hy) (fun W => rsign_sz N hN0 v.x hN hv.1 W)
    · rw [if_neg hy, ← neg]
      exact lup_y _ _ _ _ w (eq0_t hz) (eq0_f hy) (fun W => rsign_sz N hN0 v.y hN hv.2.1 W)
  · rw [if_neg hz, ← pos]
    exact lup_z _ _ _ _ w (eq0_f hz) (fun W => rsign_sz N hN0 v.z hN hv.2.2 W)
end

end Go.Proofs.YtajkeoapfkkjbaaGreatDoor

/- The functions of lineation on vectors of rational numbers: bearings, checks, the downward form. -/
namespace Go.Proofs.YtajkeoapfkkjbaaGreatDoor
set_option linter.all false
open Go.RowKit

/-- The first error of a direction's texts. -/
noncomputable def chk1 (T : ByteArray) : Int := if rightQ T = true then 0 else 2
noncomputable def chk3 (X Y Z : ByteArray) : Int := err2 (chk1 X) (err2 (chk1 Y) (chk1 Z))
def is0 (T : ByteArray) : Bool := T.toList == [48]
noncomputable def chkL (X Y Z : ByteArray) : Int := if chk3 X Y Z = 0 then (if (is0 X && (is0 Y && is0 Z)) = true then 17 else 0) else chk3 X Y Z

theorem vcheck_any (X Y Z : ByteArray) (hx : X.size ≤ 1000000) (hy : Y.size ≤ 1000000) (hz : Z.size ≤ 1000000) (w : World) (he : Env w) :
    Calls Tryz.prog 64 #[.agg #[.string X, .string Y, .string Z]] w fun e w' => e = .returned (.int .i64 (chk3 X Y Z)) ∧ Below w.heap.size w w' :=
  vcheck_of X Y Z _ w (fun W hW => vnumbers_of X Y Z (chk1 X) (chk1 Y) (chk1 Z) W
    (fun V hV => rcheck_any X V ((he.below hW).below hV) hx) (fun V hV => rcheck_any Y V ((he.below hW).below hV) hy) (fun V hV => rcheck_any Z V ((he.below hW).below hV) hz))

theorem lzero_any (X Y Z : ByteArray) (w : World) :
    Calls Tryz.prog 48 #[.agg #[.string X, .string Y, .string Z]] w fun e w' => e = .returned (.bool (is0 X && (is0 Y && is0 Z))) ∧ Below w.heap.size w w' :=
  lzero_of X Y Z _ _ _ w rfl rfl rfl

theorem lcheck_any (X Y Z : ByteArray) (hx : X.size ≤ 1000000) (hy : Y.size ≤ 1000000) (hz : Z.size ≤ 1000000) (w : World) (he : Env w) :
    Calls Tryz.prog 39 #[.agg #[.string X, .string Y, .string Z]] w fun e w' => e = .returned (.int .i64 (chkL X Y Z)) ∧ Below w.heap.size w w' := by
  have h1 := fun W (hW : Below w.heap.size w W) => vcheck_any X Y Z hx hy hz W (he.below hW)
  have h2 := fun W (_ : Below w.heap.size w W) => lzero_any X Y Z W
  unfold chkL
  by_cases hk : chk3 X Y Z = 0
  · rw [if_pos hk]
    rw [hk] at h1
    cases hb : (is0 X && (is0 Y && is0 Z)) with
    | true =>
      rw [hb] at h2
      rw [if_pos rfl]
      exact lcheck_zero X Y Z w h1 h2
    | false =>
      rw [hb] at h2
      rw [if_neg Bool.false_ne_true]
      exact lcheck_ok X Y Z w h1 h2
  · rw [if_neg hk]
    exact lcheck_bad X Y Z _ w (by rw [bne_iff_ne]; exact hk) h1

theorem lboth_any (A C D F G H : ByteArray) (ha : A.size ≤ 1000000) (hc : C.size ≤ 1000000) (hd : D.size ≤ 1000000) (hf : F.size ≤ 1000000) (hg : G.size ≤ 1000000) (hh : H.size ≤ 1000000) (w : World) (he : Env w) :
    Calls Tryz.prog 41 #[.agg #[.string A, .string C, .string D], .agg #[.string F, .string G, .string H]] w fun e w' => e = .returned (.int .i64 (err2 (chkL A C D) (chkL F G H))) ∧ Below w.heap.size w w' := by
  have h1 := fun W (hW : Below w.heap.size w W) => lcheck_any A C D ha hc hd W (he.below hW)
  have h2 := fun W (hW : Below w.heap.size w W) => lcheck_any F G H hf hg hh W (he.below hW)
  unfold err2
  by_cases hk : chkL A C D = 0
  · rw [if_pos hk]
    rw [hk] at h1
    exact lboth_next A C D F G H _ w h1 h2
  · rw [if_neg hk]
    exact lboth_bad A C D F G H _ w (by rw [bne_iff_ne]; exact hk) h1

theorem chk1_ok {q : Rat} {N : Nat} (h : Sz q N) (h0 : 0 < N) (hN : N ≤ 200) : chk1 (canonR q) = 0 := by
  unfold chk1; rw [if_pos (right_of_sz h h0 hN)]
theorem chk3_ok {v : V3} {N : Nat} (h : Sz3 v N) (h0 : 0 < N) (hN : N ≤ 200) : chk3 (canonR v.x) (canonR v.y) (canonR v.z) = 0 := by
  unfold chk3 err2; rw [chk1_ok h.1 h0 hN, chk1_ok h.2.1 h0 hN, chk1_ok h.2.2 h0 hN]; rfl
theorem is0_q (q : Rat) : is0 (canonR q) = decide (q = 0) := eq0 q
theorem chkL_ok {v : V3} {N : Nat} (h : Sz3 v N) (h0 : 0 < N) (hN : N ≤ 200) (hz : ¬ v.zero) : chkL (canonR v.x) (canonR v.y) (canonR v.z) = 0 := by
  unfold chkL
  rw [if_pos (chk3_ok h h0 hN), is0_q, is0_q, is0_q, if_neg]
  simp only [Bool.and_eq_true, decide_eq_true_eq]
  exact hz

def octS (sx sy : Int) : Int := if sy < 0 then (if sx < 0 then 5 else if sx = 0 then 4 else 3) else if sy = 0 then (if sx < 0 then 6 else if sx = 0 then 0 else 2) else (if sx < 0 then 7 else if sx = 0 then 0 else 1)

theorem loctant_any (x y : Rat) (N : Nat) (hN0 : 0 < N) (hN : N ≤ 10000) (hx : Sz x N) (hy : Sz y N) (w : World) :
    Calls Tryz.prog 57 #[.string (canonR x), .string (canonR y)] w fun e w' => e = .returned (.int .i64 (octS x.num y.num)) ∧ Below w.heap.size w w' := by
  have s1 := fun W => (rsign_sz N hN0 y hN hy W).mono fun _ _ ⟨h1, h2⟩ => (⟨h1, h2.symm⟩ : _ ∧ _)
  have s2 := fun W => (rsign_sz N hN0 x hN hx W).mono fun _ _ ⟨h1, h2⟩ => (⟨h1, h2.symm⟩ : _ ∧ _)
  rcases Int.lt_trichotomy x.num 0 with h | h | h <;> rcases Int.lt_trichotomy y.num 0 with k | k | k
  · rw [Int.sign_eq_neg_one_of_neg k] at s1; rw [Int.sign_eq_neg_one_of_neg h] at s2
    have e : octS x.num y.num = 5 := by unfold octS; rw [if_pos k, if_pos h]
    rw [e]; exact loct_mm _ _ w s1 s2
  · rw [k] at s1; rw [Int.sign_eq_neg_one_of_neg h] at s2
    have e : octS x.num y.num = 6 := by unfold octS; rw [if_neg (by omega), if_pos k, if_pos h]
    rw [e]; exact loct_mz _ _ w s1 s2
  · rw [Int.sign_eq_one_of_pos k] at s1; rw [Int.sign_eq_neg_one_of_neg h] at s2
    have e : octS x.num y.num = 7 := by unfold octS; rw [if_neg (by omega), if_neg (by omega), if_pos h]
    rw [e]; exact loct_mp _ _ w s1 s2
  · rw [Int.sign_eq_neg_one_of_neg k] at s1; rw [h] at s2
    have e : octS x.num y.num = 4 := by unfold octS; rw [if_pos k, if_neg (by omega), if_pos h]
    rw [e]; exact loct_zm _ _ w s1 s2
  · rw [k] at s1; rw [h] at s2
    have e : octS x.num y.num = 0 := by unfold octS; rw [if_neg (by omega), if_pos k, if_neg (by omega), if_pos h]
    rw [e]; exact loct_zz _ _ w s1 s2
  · rw [Int.sign_eq_one_of_pos k] at s1; rw [h] at s2
    have e : octS x.num y.num = 0 := by unfold octS; rw [if_neg (by omega), if_neg (by omega), if_neg (by omega), if_pos h]
    rw [e]; exact loct_zp _ _ w s1 s2
  · rw [Int.sign_eq_neg_one_of_neg k] at s1; rw [Int.sign_eq_one_of_pos h] at s2
    have e : octS x.num y.num = 3 := by unfold octS; rw [if_pos k, if_neg (by omega), if_neg (by omega)]
    rw [e]; exact loct_pm _ _ w s1 s2
  · rw [k] at s1; rw [Int.sign_eq_one_of_pos h] at s2
    have e : octS x.num y.num = 2 := by unfold octS; rw [if_neg (by omega), if_pos k, if_neg (by omega), if_neg (by omega)]
    rw [e]; exact loct_pz _ _ w s1 s2
  · rw [Int.sign_eq_one_of_pos k] at s1; rw [Int.sign_eq_one_of_pos h] at s2
    have e : octS x.num y.num = 1 := by unfold octS; rw [if_neg (by omega), if_neg (by omega), if_neg (by omega), if_neg (by omega)]
    rw [e]; exact loct_pp _ _ w s1 s2

end Go.Proofs.YtajkeoapfkkjbaaGreatDoor

/- Lineation's bearing and downward form on vectors of rational numbers. -/
namespace Go.Proofs.YtajkeoapfkkjbaaGreatDoor
set_option linter.all false
open Go.RowKit

/-- Is one of two numbers not 0? -/
def nzB (x y : Rat) : Bool := !(decide (x = 0) && decide (y = 0))

theorem lbearing_any (v : V3) (N : Nat) (hN0 : 0 < N) (hN : N ≤ 1000) (hv : Sz3 v N) (w : World) (he : Env w) :
    Calls Tryz.prog 56 #[.agg #[.string (canonR v.x), .string (canonR v.y), .string (canonR v.z)]] w fun e w' => e = .returned (.tuple #[.string (canonR (bearR v).1), .string (canonR (bearR v).2), .bool (nzB (bearR v).1 (bearR v).2)]) ∧ Below w.heap.size w w' := by
  have s1 := fun W (hW : Below w.heap.size w W) => lup_any v N hN0 (by omega) hv W (he.below hW)
  have s2 := fun W (hW : Below w.heap.size w W) => lscale_any v N hN0 (-1) hN hv (Sz.neg1 N hN0) W (he.below hW)
  rw [k_m1'] at s2
  unfold bearR
  cases hu : upR v with
  | true =>
    rw [hu] at s1
    rw [if_pos rfl]
    show Calls _ _ _ _ (fun e w' => e = .returned (.tuple #[.string (canonR (v.x * (-1))), .string (canonR (v.y * (-1))), .bool (nzB (v.x * (-1)) (v.y * (-1)))]) ∧ _)
    by_cases hx : v.x * (-1) = 0 <;> by_cases hy : v.y * (-1) = 0
    · rw [show nzB (v.x * (-1)) (v.y * (-1)) = false by unfold nzB; rw [decide_eq_true hx, decide_eq_true hy]; rfl]; exact lbear_up0 _ _ _ _ _ _ w (eq0_t hx) (eq0_t hy) s1 s2
    · rw [show nzB (v.x * (-1)) (v.y * (-1)) = true by unfold nzB; rw [decide_eq_false hy, Bool.and_false]; rfl]; exact lbear_up1 _ _ _ _ _ _ w (eq0_t hx) (eq0_f hy) s1 s2
    · rw [show nzB (v.x * (-1)) (v.y * (-1)) = true by unfold nzB; rw [decide_eq_false hx, Bool.false_and]; rfl]; exact lbear_up2 _ _ _ _ _ _ w (eq0_f hx) (eq0_t hy) s1 s2
    · rw [show nzB (v.x * (-1)) (v.y * (-1)) = true by unfold nzB; rw [decide_eq_false hx, Bool.false_and]; rfl]; exact lbear_up3 _ _ _ _ _ _ w (eq0_f hx) (eq0_f hy) s1 s2
  | false =>
    rw [hu] at s1
    rw [if_neg Bool.false_ne_true]
    show Calls _ _ _ _ (fun e w' => e = .returned (.tuple #[.string (canonR v.x), .string (canonR v.y), .bool (nzB v.x v.y)]) ∧ _)
    by_cases hx : v.x = 0 <;> by_cases hy : v.y = 0
    · rw [show nzB v.x v.y = false by unfold nzB; rw [decide_eq_true hx, decide_eq_true hy]; rfl]; exact lbear_down0 _ _ _ w (eq0_t hx) (eq0_t hy) s1
    · rw [show nzB v.x v.y = true by unfold nzB; rw [decide_eq_false hy, Bool.and_false]; rfl]; exact lbear_down1 _ _ _ w (eq0_t hx) (eq0_f hy) s1
    · rw [show nzB v.x v.y = true by unfold nzB; rw [decide_eq_false hx, Bool.false_and]; rfl]; exact lbear_down2 _ _ _ w (eq0_f hx) (eq0_t hy) s1
    · rw [show nzB v.x v.y = true by unfold nzB; rw [decide_eq_false hx, Bool.false_and]; rfl]; exact lbear_down3 _ _ _ w (eq0_f hx) (eq0_f hy) s1

theorem parts_q (q : Rat) (N : Nat) (hN0 : 0 < N) (hN : N ≤ 10000) (hq : Sz q N) (w : World) (he : Env w) :
    Calls Tryz.prog 53 #[.string (canonR q)] w fun e w' => e = .returned (.tuple #[.string (canon q.num), .string (canon (q.den : Int))]) ∧ Below w.heap.size w w' :=
  (rparts_any q.num q.den w he.2 (by have := hq.text hN0; have e : (ratT q.num q.den).size = (canonR q).size := rfl; omega)).mono fun _ _ ⟨h1, h2⟩ => ⟨h1, h2.below _⟩

theorem nat_size (n N : Nat) (h : n < 10 ^ N) (h0 : 0 < N) : (canon (n : Int)).size ≤ N + 1 := canon_size_lt _ N (by rw [Int.natAbs_natCast]; exact h) h0

theorem lcmStep_lt {a b N M : Nat} (ha : a < 10 ^ N) (hb : b < 10 ^ M) : lcmStep a b < 10 ^ (N + M) := by
  unfold lcmStep
  exact Nat.lt_of_le_of_lt (Nat.div_le_self _ _) (nat_mul_pow ha hb)
theorem lcmStep_pos {a b : Nat} (ha : 0 < a) (hb : 0 < b) : 0 < lcmStep a b := Nat.lcm_pos ha hb

theorem step_mul (a b : Nat) {K : Nat} (hK : K = 5000) (ha : a < 10 ^ K) (hb : b < 10 ^ K) (w : World) (he : Env w) :
    Calls Tryz.prog 55 #[.string (canon (a : Int)), .string (canon (b : Int))] w fun e w' => e = .returned (.string (canon (a * b : Nat))) ∧ Below w.heap.size w w' := by
  have := mul_any (a : Int) (b : Int) w he.1 (by have := nat_size a K ha (by omega); omega) (by have := nat_size b K hb (by omega); omega)
  rw [← Int.natCast_mul] at this
  exact this
theorem step_gcd (a b : Nat) {K : Nat} (hK : K = 5000) (ha : a < 10 ^ K) (hb : b < 10 ^ K) (w : World) (he : Env w) :
    Calls Tryz.prog 70 #[.string (canon (a : Int)), .string (canon (b : Int))] w fun e w' => e = .returned (.string (canon (Nat.gcd a b : Nat))) ∧ Below w.heap.size w w' :=
  gcd_any (a : Int) (b : Int) w he.1 (by have := nat_size a K ha (by omega); omega) (by have := nat_size b K hb (by omega); omega)

theorem step_div (a b : Nat) {K : Nat} (hK : K = 5000) (ha : a < 10 ^ K) (hb : b < 10 ^ K) (hb0 : 0 < b) (w : World) (he : Env w) :
    Calls Tryz.prog 69 #[.string (canon (a * b : Nat)), .string (canon (Nat.gcd a b : Nat))] w fun e w' => e = .returned (.tuple #[.string (canon (lcmStep a b : Nat)), .string (canon (((a * b : Nat) : Int) % ((Nat.gcd a b : Nat) : Int))), .int .i64 0]) ∧ Below w.heap.size w w' := by
  have hg : 0 < Nat.gcd a b := Nat.gcd_pos_of_pos_right _ hb0
  have hgl : Nat.gcd a b < 10 ^ K := Nat.lt_of_le_of_lt (Nat.gcd_le_right _ hb0) hb
  have := divmod_any ((a * b : Nat) : Int) ((Nat.gcd a b : Nat) : Int) w he.1 (by have := nat_size (a * b) (K + K) (nat_mul_pow ha hb) (by omega); omega) (by have := nat_size _ K hgl (by omega); omega) (by omega)
  rw [← Int.natCast_ediv] at this
  exact this

theorem gcd_lt {a b M : Nat} (ha : a < 10 ^ M) (hb : b < 10 ^ M) : Nat.gcd a b < 10 ^ M := by
  by_cases h : a = 0
  · subst h; rw [Nat.gcd_zero_left]; exact hb
  · exact Nat.lt_of_le_of_lt (Nat.gcd_le_left _ (by omega)) ha

theorem rdiv2_nat1 (L : Nat) : rdiv2 (L : Int) 1 = (L : Rat) := by
  unfold rdiv2
  rw [if_neg (by omega)]
  exact (Rat.mkRat_one _).trans rfl
theorem rdiv2_one (g : Nat) : rdiv2 1 (g : Int) = mkRat 1 g := by
  unfold rdiv2
  rw [if_neg (by omega), Int.natAbs_natCast]

theorem k_0' : canon 0 = ⟨#[48]⟩ := ba_of_list _ _ (by rw [← ByteArray.toList_eq]; exact eq_of_beq (canon_beq0 0))

set_option maxHeartbeats 1000000 in
theorem ldown_any (v : V3) (N : Nat) (hN0 : 0 < N) (hN : N ≤ 60) (hv : Sz3 v N) (hg0 : 0 < divG (v.scale (denL v))) (w : World) (he : Env w) :
    Calls Tryz.prog 47 #[.agg #[.string (canonR v.x), .string (canonR v.y), .string (canonR v.z)]] w fun e w' => e = .returned (.agg #[.string (canonR (downR v).x), .string (canonR (downR v).y), .string (canonR (downR v).z)]) ∧ Below w.heap.size w w' := by
  obtain ⟨K, hK⟩ : ∃ K : Nat, K = 5000 := ⟨_, rfl⟩
  have up5 : ∀ {n M : Nat}, n < 10 ^ M → M ≤ 5000 → n < 10 ^ K := fun h hM => Nat.lt_of_lt_of_le h (Nat.pow_le_pow_right (by omega) (by omega))
  have e1 : lcmStep 1 v.x.den < 10 ^ (1 + N) := lcmStep_lt (by omega) hv.1.2
  have e2 : lcmStep (lcmStep 1 v.x.den) v.y.den < 10 ^ (1 + N + N) := lcmStep_lt e1 hv.2.1.2
  have e3 : denL v < 10 ^ (1 + N + N + N) := lcmStep_lt e2 hv.2.2.2
  have hL : Sz ((denL v : Nat) : Rat) (1 + N + N + N) := grid_sz _ _ e3 (by omega)
  have hw := (hv.mono (show N ≤ 1 + N + N + N by omega)).scale hL
  have hM : 1 + N + N + N + (1 + N + N + N) ≤ 400 := by omega
  have hM0 : 0 < 1 + N + N + N + (1 + N + N + N) := by omega
  generalize hMM : 1 + N + N + N + (1 + N + N + N) = M at *
  have p := fun (q : Rat) (hq : Sz q N) W (hW : Below w.heap.size w W) => parts_q q N hN0 (by omega) hq W (he.below hW)
  have c1 := fun W (hW : Below w.heap.size w W) => lscale_any v (1 + N + N + N) (by omega) (denL v : Nat) (by omega) (hv.mono (by omega)) hL W (he.below hW)
  have q := fun (r : Rat) (hr : Sz r M) W (hW : Below w.heap.size w W) => parts_q r M hM0 (by omega) hr W (he.below hW)
  have gs := fun (a b : Int) (ha : a.natAbs < 10 ^ M) (hb : b.natAbs < 10 ^ M) W (hW : Below w.heap.size w W) => gcd_any a b W (he.below hW).1 (by have := canon_size_lt a M ha hM0; omega) (by have := canon_size_lt b M hb hM0; omega)
  have u1 := fun W (hW : Below w.heap.size w W) => lup_any (v.scale (denL v)) M hM0 (by omega) hw W (he.below hW)
  have g1 : (Nat.gcd 0 (v.scale (denL v)).x.num.natAbs) < 10 ^ M := gcd_lt (Nat.pow_pos (by omega)) hw.1.1
  have g2 : Nat.gcd (Nat.gcd 0 (v.scale (denL v)).x.num.natAbs) (v.scale (denL v)).y.num.natAbs < 10 ^ M := gcd_lt g1 hw.2.1.1
  have g3 : divG (v.scale (denL v)) < 10 ^ M := gcd_lt g2 hw.2.2.1
  have n1 := fun W (hW : Below w.heap.size w W) => rnew_int (denL v : Nat) 1 (by omega) W (he.below hW).1 (by have := nat_size _ _ e3 (by omega); omega) (by rw [k_1]; decide)
  rw [rdiv2_nat1, k_1] at n1
  have n2 := fun W (hW : Below w.heap.size w W) => rnew_int 1 (divG (v.scale (denL v)) : Nat) (by omega) W (he.below hW).1 (by rw [k_1]; decide) (by have := nat_size _ _ g3 hM0; omega)
  rw [rdiv2_one, k_1] at n2
  have hk : Sz (mkRat 1 (divG (v.scale (denL v)))) M := by
    have hb := mk_bounds 1 (divG (v.scale (denL v))) (by omega)
    refine ⟨Nat.lt_of_le_of_lt hb.1 ?_, Nat.lt_of_le_of_lt hb.2 g3⟩
    exact Nat.one_lt_pow (by omega) (by omega)
  have a0 := fun W (hW : Below w.heap.size w W) => step_mul 1 v.x.den hK (up5 (M := 1) (by omega) (by omega)) (up5 hv.1.2 (by omega)) W (he.below hW)
  have b0 := fun W (hW : Below w.heap.size w W) => step_gcd 1 v.x.den hK (up5 (M := 1) (by omega) (by omega)) (up5 hv.1.2 (by omega)) W (he.below hW)
  rw [show ((1 : Nat) : Int) = 1 from rfl, k_1] at a0 b0
  have g0 := gs 0 (v.scale (denL v)).x.num (Nat.pow_pos (by omega)) hw.1.1
  rw [k_0'] at g0
  unfold downR
  cases hu : upR (v.scale (denL v)) with
  | false =>
    rw [hu] at u1
    have c2 := fun W (hW : Below w.heap.size w W) => lscale_any (v.scale (denL v)) M hM0 (mkRat 1 (divG (v.scale (denL v)))) (by omega) hw hk W (he.below hW)
    exact ldown_down _ _ _ _ _ _ _ _ _ _ _ _ _ _ _ _ _ _ _ _ _ _ _ _ _ _ _ _ _ _ _ _ _ _ _ _ _ _ w
      (p v.x hv.1) a0 b0 (fun W hW => step_div 1 v.x.den hK (up5 (M := 1) (by omega) (by omega)) (up5 hv.1.2 (by omega)) v.x.den_pos W (he.below hW))
      (p v.y hv.2.1) (fun W hW => step_mul _ v.y.den hK (up5 e1 (by omega)) (up5 hv.2.1.2 (by omega)) W (he.below hW)) (fun W hW => step_gcd _ v.y.den hK (up5 e1 (by omega)) (up5 hv.2.1.2 (by omega)) W (he.below hW)) (fun W hW => step_div _ v.y.den hK (up5 e1 (by omega)) (up5 hv.2.1.2 (by omega)) v.y.den_pos W (he.below hW))
      (p v.z hv.2.2) (fun W hW => step_mul _ v.z.den hK (up5 e2 (by omega)) (up5 hv.2.2.2 (by omega)) W (he.below hW)) (fun W hW => step_gcd _ v.z.den hK (up5 e2 (by omega)) (up5 hv.2.2.2 (by omega)) W (he.below hW)) (fun W hW => step_div _ v.z.den hK (up5 e2 (by omega)) (up5 hv.2.2.2 (by omega)) v.z.den_pos W (he.below hW))
      n1 c1 (q _ hw.1) g0 (q _ hw.2.1) (gs _ _ (by rw [Int.natAbs_natCast]; exact g1) hw.2.1.1) (q _ hw.2.2) (gs _ _ (by rw [Int.natAbs_natCast]; exact g2) hw.2.2.1) n2 u1 c2
  | true =>
    rw [hu] at u1
    have c2 := fun W (hW : Below w.heap.size w W) => lscale_any (v.scale (denL v)) M hM0 (-(mkRat 1 (divG (v.scale (denL v))))) (by omega) hw hk.neg W (he.below hW)
    exact ldown_up _ _ _ _ _ _ _ _ _ _ _ _ _ _ _ _ _ _ _ _ _ _ _ _ _ _ _ _ _ _ _ _ _ _ _ _ _ _ _ w
      (p v.x hv.1) a0 b0 (fun W hW => step_div 1 v.x.den hK (up5 (M := 1) (by omega) (by omega)) (up5 hv.1.2 (by omega)) v.x.den_pos W (he.below hW))
      (p v.y hv.2.1) (fun W hW => step_mul _ v.y.den hK (up5 e1 (by omega)) (up5 hv.2.1.2 (by omega)) W (he.below hW)) (fun W hW => step_gcd _ v.y.den hK (up5 e1 (by omega)) (up5 hv.2.1.2 (by omega)) W (he.below hW)) (fun W hW => step_div _ v.y.den hK (up5 e1 (by omega)) (up5 hv.2.1.2 (by omega)) v.y.den_pos W (he.below hW))
      (p v.z hv.2.2) (fun W hW => step_mul _ v.z.den hK (up5 e2 (by omega)) (up5 hv.2.2.2 (by omega)) W (he.below hW)) (fun W hW => step_gcd _ v.z.den hK (up5 e2 (by omega)) (up5 hv.2.2.2 (by omega)) W (he.below hW)) (fun W hW => step_div _ v.z.den hK (up5 e2 (by omega)) (up5 hv.2.2.2 (by omega)) v.z.den_pos W (he.below hW))
      n1 c1 (q _ hw.1) g0 (q _ hw.2.1) (gs _ _ (by rw [Int.natAbs_natCast]; exact g1) hw.2.1.1) (q _ hw.2.2) (gs _ _ (by rw [Int.natAbs_natCast]; exact g2) hw.2.2.1) n2 u1 (fun W => rneg_any _ W (by have := hk.text hM0; omega)) c2

end Go.Proofs.YtajkeoapfkkjbaaGreatDoor

/- The public functions of lineation on vectors of rational numbers. -/
namespace Go.Proofs.YtajkeoapfkkjbaaGreatDoor
set_option linter.all false
open Go.RowKit

theorem Sz3.sizes {v : V3} {N : Nat} (h : Sz3 v N) (h0 : 0 < N) (hN : N ≤ 10000) : (canonR v.x).size ≤ 1000000 ∧ (canonR v.y).size ≤ 1000000 ∧ (canonR v.z).size ≤ 1000000 := by
  have a := h.1.text h0
  have b := h.2.1.text h0
  have c := h.2.2.text h0
  omega

/-- A direction: short numbers, not all of them 0. -/
structure Dir (v : V3) (N : Nat) : Prop where
  sz : Sz3 v N
  nz : ¬ v.zero

section
variable {u v : V3} {N : Nat} (hN0 : 0 < N) (hN : N ≤ 60)
include hN0 hN

theorem dcheck (hv : Dir v N) (w : World) (he : Env w) :
    Calls Tryz.prog 39 #[.agg #[.string (canonR v.x), .string (canonR v.y), .string (canonR v.z)]] w fun e w' => e = .returned (.int .i64 0) ∧ Below w.heap.size w w' := by
  obtain ⟨h1, h2, h3⟩ := hv.sz.sizes hN0 (by omega)
  have := lcheck_any _ _ _ h1 h2 h3 w he
  rw [chkL_ok hv.sz hN0 (by omega) hv.nz] at this
  exact this

theorem dboth (hu : Dir u N) (hv : Dir v N) (w : World) (he : Env w) :
    Calls Tryz.prog 41 #[.agg #[.string (canonR u.x), .string (canonR u.y), .string (canonR u.z)], .agg #[.string (canonR v.x), .string (canonR v.y), .string (canonR v.z)]] w fun e w' => e = .returned (.int .i64 0) ∧ Below w.heap.size w w' := by
  obtain ⟨g1, g2, g3⟩ := hu.sz.sizes hN0 (by omega)
  obtain ⟨h1, h2, h3⟩ := hv.sz.sizes hN0 (by omega)
  have := lboth_any _ _ _ _ _ _ g1 g2 g3 h1 h2 h3 w he
  rw [chkL_ok hu.sz hN0 (by omega) hu.nz, chkL_ok hv.sz hN0 (by omega) hv.nz] at this
  exact this

theorem dsame (hu : Dir u N) (hv : Dir v N) (w : World) (he : Env w) :
    Calls Tryz.prog 19 #[.agg #[.string (canonR u.x), .string (canonR u.y), .string (canonR u.z)], .agg #[.string (canonR v.x), .string (canonR v.y), .string (canonR v.z)]] w fun e w' => e = .returned (.tuple #[.bool (decide ((crossR u v).x = 0) && (decide ((crossR u v).y = 0) && decide ((crossR u v).z = 0))), .int .i64 0]) ∧ Below w.heap.size w w' :=
  lsame_ok _ _ _ _ _ _ _ _ _ _ w (fun W hW => dboth hN0 hN hu hv W (he.below hW)) (fun W hW => lcross_any u v N hN0 (by omega) hu.sz hv.sz W (he.below hW))
    (fun W _ => by have := lzero_any (canonR (crossR u v).x) (canonR (crossR u v).y) (canonR (crossR u v).z) W; rw [is0_q, is0_q, is0_q] at this; exact this)

theorem dlies (hu : Dir u N) (hv : Dir v N) (w : World) (he : Env w) :
    Calls Tryz.prog 22 #[.agg #[.string (canonR u.x), .string (canonR u.y), .string (canonR u.z)], .agg #[.string (canonR v.x), .string (canonR v.y), .string (canonR v.z)]] w fun e w' => e = .returned (.tuple #[.bool (decide (dotR u v = 0)), .int .i64 0]) ∧ Below w.heap.size w w' :=
  llies_ok _ _ _ _ _ _ _ _ w (fun W hW => dboth hN0 hN hu hv W (he.below hW)) (fun W hW => ldot_any u v N hN0 (by omega) hu.sz hv.sz W (he.below hW)) (eq0 _)

theorem dresult (hv : Sz3 v 200) (w : World) (he : Env w) :
    Calls Tryz.prog 46 #[.agg #[.string (canonR v.x), .string (canonR v.y), .string (canonR v.z)]] w fun e w' => e = .returned (.tuple #[.agg #[.string (canonR v.x), .string (canonR v.y), .string (canonR v.z)], .int .i64 0]) ∧ Below w.heap.size w w' := by
  obtain ⟨h1, h2, h3⟩ := hv.sizes (by omega) (by omega)
  exact lresult_ok _ _ _ w (fun W hW => by have := vcheck_any _ _ _ h1 h2 h3 W (he.below hW); rw [chk3_ok hv (by omega) (by omega)] at this; exact this)

theorem dnumber {q : Rat} (hq : Sz q 200) (w : World) (he : Env w) :
    Calls Tryz.prog 51 #[.string (canonR q)] w fun e w' => e = .returned (.tuple #[.string (canonR q), .int .i64 0]) ∧ Below w.heap.size w w' :=
  lnumber_ok _ w (fun W hW => by have := rcheck_any (canonR q) W (he.below hW) (by have := hq.text (by omega); omega); rw [if_pos (right_of_sz hq (by omega) (by omega))] at this; exact this)

theorem dof (hv : Dir v N) (hg0 : 0 < divG (v.scale (denL v))) (hd : Sz3 (downR v) 200) (w : World) (he : Env w) :
    Calls Tryz.prog 18 #[.agg #[.string (canonR v.x), .string (canonR v.y), .string (canonR v.z)]] w fun e w' => e = .returned (.tuple #[.agg #[.string (canonR (downR v).x), .string (canonR (downR v).y), .string (canonR (downR v).z)], .int .i64 0]) ∧ Below w.heap.size w w' :=
  lof_ok _ _ _ _ _ _ w (fun W hW => dcheck hN0 hN hv W (he.below hW)) (fun W hW => ldown_any v N hN0 hN hv.sz hg0 W (he.below hW)) (fun W hW => dresult hN0 hN hd W (he.below hW))

theorem dangle (hN' : N ≤ 5) (hu : Dir u N) (hv : Dir v N) (hu0 : dotR u u ≠ 0) (hv0 : dotR v v ≠ 0) (w : World) (he : Env w) :
    Calls Tryz.prog 27 #[.agg #[.string (canonR u.x), .string (canonR u.y), .string (canonR u.z)], .agg #[.string (canonR v.x), .string (canonR v.y), .string (canonR v.z)]] w fun e w' => e = .returned (.tuple #[.string (canonR (angleR u v)), .int .i64 0]) ∧ Below w.heap.size w w' := by
  have h0 : dotR u u * dotR v v ≠ 0 := fun e => by
    rcases Rat.mul_eq_zero.1 e with h | h
    · exact hu0 h
    · exact hv0 h
  have hs : Sz (angleR u v) 200 := ((((hu.sz.dot hv.sz).mul (hu.sz.dot hv.sz)).div ((hu.sz.dot hu.sz).mul (hv.sz.dot hv.sz)) h0)).mono (by omega)
  exact langle_ok _ _ _ _ _ _ _ w (fun W hW => dboth hN0 hN hu hv W (he.below hW)) (fun W hW => langle_any u v N hN0 (by omega) hu.sz hv.sz hu0 hv0 W (he.below hW)) (fun W hW => dnumber hN0 hN hs W (he.below hW))
end

end Go.Proofs.YtajkeoapfkkjbaaGreatDoor

/- The public functions of lineation on vectors of rational numbers: trends, plunges, folds. -/
namespace Go.Proofs.YtajkeoapfkkjbaaGreatDoor
set_option linter.all false
open Go.RowKit

section
variable {u v : V3} {N : Nat} (hN0 : 0 < N) (hN : N ≤ 5)
include hN0 hN

theorem bear_sz (hv : Sz3 v N) : Sz (bearR v).1 (N + N) ∧ Sz (bearR v).2 (N + N) := by
  unfold bearR
  split
  · exact ⟨hv.1.mul (Sz.neg1 N hN0), hv.2.1.mul (Sz.neg1 N hN0)⟩
  · exact ⟨hv.1.mono (by omega), hv.2.1.mono (by omega)⟩

theorem dtrend_none (hv : Dir v N) (hb : nzB (bearR v).1 (bearR v).2 = false) (w : World) (he : Env w) :
    Calls Tryz.prog 31 #[.agg #[.string (canonR v.x), .string (canonR v.y), .string (canonR v.z)]] w fun e w' => e = .returned (.tuple #[.int .i64 0, .int .i64 19]) ∧ Below w.heap.size w w' :=
  ltrend_none _ _ _ _ _ w (fun W hW => dcheck hN0 (by omega) hv W (he.below hW)) (fun W hW => by have := lbearing_any v N hN0 (by omega) hv.sz W (he.below hW); rw [hb] at this; exact this)

theorem dtrend_ok (hv : Dir v N) (hb : nzB (bearR v).1 (bearR v).2 = true) (w : World) (he : Env w) :
    Calls Tryz.prog 31 #[.agg #[.string (canonR v.x), .string (canonR v.y), .string (canonR v.z)]] w fun e w' => e = .returned (.tuple #[.int .i64 (octS (bearR v).1.num (bearR v).2.num), .int .i64 0]) ∧ Below w.heap.size w w' :=
  ltrend_ok _ _ _ _ _ _ w (fun W hW => dcheck hN0 (by omega) hv W (he.below hW)) (fun W hW => by have := lbearing_any v N hN0 (by omega) hv.sz W (he.below hW); rw [hb] at this; exact this)
    (fun W _ => loctant_any _ _ (N + N) (by omega) (by omega) (bear_sz hN0 hN hv.sz).1 (bear_sz hN0 hN hv.sz).2 W)

theorem dctrend_none1 (hu : Dir u N) (hv : Dir v N) (hb : nzB (bearR u).1 (bearR u).2 = false) (w : World) (he : Env w) :
    Calls Tryz.prog 32 #[.agg #[.string (canonR u.x), .string (canonR u.y), .string (canonR u.z)], .agg #[.string (canonR v.x), .string (canonR v.y), .string (canonR v.z)]] w fun e w' => e = .returned (.tuple #[.int .i64 0, .int .i64 19]) ∧ Below w.heap.size w w' :=
  lctrend_none1 _ _ _ _ _ _ _ _ _ _ _ w (fun W hW => dboth hN0 (by omega) hu hv W (he.below hW)) (fun W hW => by have := lbearing_any u N hN0 (by omega) hu.sz W (he.below hW); rw [hb] at this; exact this) (fun W hW => lbearing_any v N hN0 (by omega) hv.sz W (he.below hW))

theorem dctrend_none2 (hu : Dir u N) (hv : Dir v N) (hb : nzB (bearR u).1 (bearR u).2 = true) (hb2 : nzB (bearR v).1 (bearR v).2 = false) (w : World) (he : Env w) :
    Calls Tryz.prog 32 #[.agg #[.string (canonR u.x), .string (canonR u.y), .string (canonR u.z)], .agg #[.string (canonR v.x), .string (canonR v.y), .string (canonR v.z)]] w fun e w' => e = .returned (.tuple #[.int .i64 0, .int .i64 19]) ∧ Below w.heap.size w w' :=
  lctrend_none2 _ _ _ _ _ _ _ _ _ _ w (fun W hW => dboth hN0 (by omega) hu hv W (he.below hW)) (fun W hW => by have := lbearing_any u N hN0 (by omega) hu.sz W (he.below hW); rw [hb] at this; exact this) (fun W hW => by have := lbearing_any v N hN0 (by omega) hv.sz W (he.below hW); rw [hb2] at this; exact this)

/-- The order of two octants, then of the turn within one. -/
def cmpT (m n s : Int) : Int := if m < n then -1 else if n < m then 1 else s

theorem dctrend_ok (hu : Dir u N) (hv : Dir v N) (hb : nzB (bearR u).1 (bearR u).2 = true) (hb2 : nzB (bearR v).1 (bearR v).2 = true) (w : World) (he : Env w) :
    Calls Tryz.prog 32 #[.agg #[.string (canonR u.x), .string (canonR u.y), .string (canonR u.z)], .agg #[.string (canonR v.x), .string (canonR v.y), .string (canonR v.z)]] w fun e w' => e = .returned (.tuple #[.int .i64 (cmpT (octS (bearR u).1.num (bearR u).2.num) (octS (bearR v).1.num (bearR v).2.num) ((bearR u).1 * (bearR v).2 - (bearR u).2 * (bearR v).1).num.sign), .int .i64 0]) ∧ Below w.heap.size w w' := by
  obtain ⟨a1, a2⟩ := bear_sz hN0 hN hu.sz
  obtain ⟨c1, c2⟩ := bear_sz hN0 hN hv.sz
  have b0 := fun W (hW : Below w.heap.size w W) => dboth hN0 (by omega) hu hv W (he.below hW)
  have b1 := fun W (hW : Below w.heap.size w W) => lbearing_any u N hN0 (by omega) hu.sz W (he.below hW)
  have b2 := fun W (hW : Below w.heap.size w W) => lbearing_any v N hN0 (by omega) hv.sz W (he.below hW)
  rw [hb] at b1
  rw [hb2] at b2
  have o1 := fun W (_ : Below w.heap.size w W) => loctant_any _ _ (N + N) (by omega) (by omega) a1 a2 W
  have o2 := fun W (_ : Below w.heap.size w W) => loctant_any _ _ (N + N) (by omega) (by omega) c1 c2 W
  unfold cmpT
  by_cases h1 : octS (bearR u).1.num (bearR u).2.num < octS (bearR v).1.num (bearR v).2.num
  · rw [if_pos h1]
    exact lctrend_lt _ _ _ _ _ _ _ _ _ _ _ _ w b0 b1 b2 o1 o2 (decide_eq_true h1)
  · rw [if_neg h1]
    by_cases h2 : octS (bearR v).1.num (bearR v).2.num < octS (bearR u).1.num (bearR u).2.num
    · rw [if_pos h2]
      exact lctrend_gt _ _ _ _ _ _ _ _ _ _ _ _ w b0 b1 b2 o1 o2 (decide_eq_false h1) (decide_eq_true h2)
    · rw [if_neg h2]
      exact lctrend_eq _ _ _ _ _ _ _ _ _ _ _ _ _ _ w b0 b1 b2 o1 o2 (fun W hW => lless_any (N + N) (by omega) _ _ _ _ (by omega) a1 c2 a2 c1 W (he.below hW)) (fun W => rsign_sz (4 * (N + N) + 1) (by omega) _ (by omega) (a1.minor c2 a2 c1) W) (decide_eq_false h1) (decide_eq_false h2)
end

end Go.Proofs.YtajkeoapfkkjbaaGreatDoor

/- The public functions of lineation on vectors of rational numbers: plunges, lines of two planes, pitches, folds. -/
namespace Go.Proofs.YtajkeoapfkkjbaaGreatDoor
set_option linter.all false
open Go.RowKit

def flatR (v : V3) : Rat := v.x * v.x + v.y * v.y

section
variable {u v : V3} {N : Nat} (hN0 : 0 < N) (hN : N ≤ 5)
include hN0 hN

theorem flat_sz (hv : Sz3 v N) : Sz (flatR v) (4 * N + 1) := ((hv.1.mul hv.1).add (hv.2.1.mul hv.2.1)).mono (by omega)

theorem dplunge_vert (hv : Dir v N) (hf : flatR v = 0) (w : World) (he : Env w) :
    Calls Tryz.prog 35 #[.agg #[.string (canonR v.x), .string (canonR v.y), .string (canonR v.z)]] w fun e w' => e = .returned (.tuple #[.string ⟨#[]⟩, .bool true, .int .i64 0]) ∧ Below w.heap.size w w' :=
  lplunge_vert _ _ _ _ w (fun W hW => dcheck hN0 (by omega) hv W (he.below hW)) (fun W hW => lflat_any v N hN0 (by omega) hv.sz W (he.below hW)) (eq0_t hf)

theorem dplunge_ok (hv : Dir v N) (hf : flatR v ≠ 0) (w : World) (he : Env w) :
    Calls Tryz.prog 35 #[.agg #[.string (canonR v.x), .string (canonR v.y), .string (canonR v.z)]] w fun e w' => e = .returned (.tuple #[.string (canonR (v.z * v.z / flatR v)), .bool false, .int .i64 0]) ∧ Below w.heap.size w w' := by
  have s1 : Sz (v.z * v.z) (4 * N + 1) := (hv.sz.2.2.mul hv.sz.2.2).mono (by omega)
  have s2 := flat_sz hN0 hN hv.sz
  exact lplunge_ok _ _ _ _ _ _ w (fun W hW => dcheck hN0 (by omega) hv W (he.below hW)) (fun W hW => lflat_any v N hN0 (by omega) hv.sz W (he.below hW)) (eq0_f hf)
    (fun W hW => rmul_any v.z v.z N hN0 (by omega) hv.sz.2.2 hv.sz.2.2 W (he.below hW)) (fun W hW => rdiv_any (v.z * v.z) (flatR v) (4 * N + 1) (by omega) (by omega) s1 s2 hf W (he.below hW)) (fun W hW => dnumber hN0 (by omega) ((s1.div s2 hf).mono (by omega)) W (he.below hW))

theorem dcplunge (hu : Dir u N) (hv : Dir v N) (w : World) (he : Env w) :
    Calls Tryz.prog 36 #[.agg #[.string (canonR u.x), .string (canonR u.y), .string (canonR u.z)], .agg #[.string (canonR v.x), .string (canonR v.y), .string (canonR v.z)]] w fun e w' => e = .returned (.tuple #[.int .i64 (u.z * u.z * flatR v - v.z * v.z * flatR u).num.sign, .int .i64 0]) ∧ Below w.heap.size w w' := by
  have s1 : Sz (u.z * u.z) (4 * N + 1) := (hu.sz.2.2.mul hu.sz.2.2).mono (by omega)
  have s2 : Sz (v.z * v.z) (4 * N + 1) := (hv.sz.2.2.mul hv.sz.2.2).mono (by omega)
  have f1 := flat_sz hN0 hN hu.sz
  have f2 := flat_sz hN0 hN hv.sz
  exact lcplunge_ok _ _ _ _ _ _ _ _ _ _ _ _ w (fun W hW => dboth hN0 (by omega) hu hv W (he.below hW)) (fun W hW => rmul_any u.z u.z N hN0 (by omega) hu.sz.2.2 hu.sz.2.2 W (he.below hW)) (fun W hW => rmul_any v.z v.z N hN0 (by omega) hv.sz.2.2 hv.sz.2.2 W (he.below hW))
    (fun W hW => lflat_any v N hN0 (by omega) hv.sz W (he.below hW)) (fun W hW => lflat_any u N hN0 (by omega) hu.sz W (he.below hW)) (fun W hW => lless_any (4 * N + 1) (by omega) _ _ _ _ (by omega) s1 f2 s2 f1 W (he.below hW)) (fun W => rsign_sz (4 * (4 * N + 1) + 1) (by omega) _ (by omega) (s1.minor f2 s2 f1) W)

theorem disect_dep (hu : Dir u N) (hv : Dir v N) (hz : (crossR u v).zero) (w : World) (he : Env w) :
    Calls Tryz.prog 23 #[.agg #[.string (canonR u.x), .string (canonR u.y), .string (canonR u.z)], .agg #[.string (canonR v.x), .string (canonR v.y), .string (canonR v.z)]] w fun e w' => e = .returned (.tuple #[.agg #[.string ⟨#[]⟩, .string ⟨#[]⟩, .string ⟨#[]⟩], .int .i64 18]) ∧ Below w.heap.size w w' :=
  lisect_dep _ _ _ _ _ _ _ _ _ w (fun W hW => dboth hN0 (by omega) hu hv W (he.below hW)) (fun W hW => lcross_any u v N hN0 (by omega) hu.sz hv.sz W (he.below hW))
    (fun W _ => by have := lzero_any (canonR (crossR u v).x) (canonR (crossR u v).y) (canonR (crossR u v).z) W; rw [is0_q, is0_q, is0_q, decide_eq_true hz.1, decide_eq_true hz.2.1, decide_eq_true hz.2.2] at this; exact this)

theorem disect_ok (hu : Dir u N) (hv : Dir v N) (hz : ¬ (crossR u v).zero) (hg0 : 0 < divG ((crossR u v).scale (denL (crossR u v)))) (hd : Sz3 (downR (crossR u v)) 200) (w : World) (he : Env w) :
    Calls Tryz.prog 23 #[.agg #[.string (canonR u.x), .string (canonR u.y), .string (canonR u.z)], .agg #[.string (canonR v.x), .string (canonR v.y), .string (canonR v.z)]] w fun e w' => e = .returned (.tuple #[.agg #[.string (canonR (downR (crossR u v)).x), .string (canonR (downR (crossR u v)).y), .string (canonR (downR (crossR u v)).z)], .int .i64 0]) ∧ Below w.heap.size w w' := by
  have hb : (decide ((crossR u v).x = 0) && (decide ((crossR u v).y = 0) && decide ((crossR u v).z = 0))) = false := by
    rw [Bool.eq_false_iff]
    intro h
    simp only [Bool.and_eq_true, decide_eq_true_eq] at h
    exact hz h
  exact lisect_ok _ _ _ _ _ _ _ _ _ _ _ _ w (fun W hW => dboth hN0 (by omega) hu hv W (he.below hW)) (fun W hW => lcross_any u v N hN0 (by omega) hu.sz hv.sz W (he.below hW))
    (fun W _ => by have := lzero_any (canonR (crossR u v).x) (canonR (crossR u v).y) (canonR (crossR u v).z) W; rw [is0_q, is0_q, is0_q, hb] at this; exact this)
    (fun W hW => ldown_any (crossR u v) (4 * N + 1) (by omega) (by omega) (hu.sz.cross hv.sz) hg0 W (he.below hW)) (fun W hW => dresult hN0 (by omega) hd W (he.below hW))
end

end Go.Proofs.YtajkeoapfkkjbaaGreatDoor

/- The public functions of lineation on vectors of rational numbers: pitches, folds, orders of angles. -/
namespace Go.Proofs.YtajkeoapfkkjbaaGreatDoor
set_option linter.all false
open Go.RowKit

/-- The strike of a plane's normal. -/
def strikeR (u : V3) : V3 := ⟨-u.y, u.x, 0⟩

theorem k_3' : canon 3 = ⟨#[51]⟩ := canon_dig 3 (by omega)
theorem k_4' : canon 4 = ⟨#[52]⟩ := canon_dig 4 (by omega)
theorem k_zeroR : canonR 0 = ⟨#[48]⟩ := canonR_zero.trans k_0'

section
variable {u v : V3} {N : Nat} (hN0 : 0 < N) (hN : N ≤ 5)
include hN0 hN

theorem strike_sz (hu : Sz3 u N) : Sz3 (strikeR u) N := ⟨hu.2.1.neg, hu.1, ⟨by show 0 < 10 ^ N; exact Nat.pow_pos (by omega), by show 1 < 10 ^ N; exact Nat.one_lt_pow (by omega) (by omega)⟩⟩

theorem strike_zero (b : Bool) (hb : (decide (-u.y = 0) && (decide (u.x = 0) && decide ((0 : Rat) = 0))) = b) (W : World) :
    Calls Tryz.prog 48 #[.agg #[.string (canonR (-u.y)), .string (canonR u.x), .string ⟨#[48]⟩]] W fun e w' => e = .returned (.bool b) ∧ Below W.heap.size W w' := by
  have := lzero_any (canonR (-u.y)) (canonR u.x) (canonR 0) W
  rw [is0_q, is0_q, is0_q, hb, k_zeroR] at this
  exact this

theorem dpitch_none (hu : Dir u N) (hv : Dir v N) (hz : (decide (-u.y = 0) && (decide (u.x = 0) && decide ((0 : Rat) = 0))) = true) (w : World) (he : Env w) :
    Calls Tryz.prog 24 #[.agg #[.string (canonR u.x), .string (canonR u.y), .string (canonR u.z)], .agg #[.string (canonR v.x), .string (canonR v.y), .string (canonR v.z)]] w fun e w' => e = .returned (.tuple #[.string ⟨#[]⟩, .int .i64 19]) ∧ Below w.heap.size w w' :=
  lpitch_none _ _ _ _ _ _ _ w (fun W hW => dboth hN0 (by omega) hu hv W (he.below hW)) (fun W => rneg_any u.y W (by have := hu.sz.2.1.text hN0; omega)) (fun W _ => strike_zero hN0 hN true hz W)

theorem dpitch_form (hu : Dir u N) (hv : Dir v N) (hz : (decide (-u.y = 0) && (decide (u.x = 0) && decide ((0 : Rat) = 0))) = false) (hd : dotR u v ≠ 0) (w : World) (he : Env w) :
    Calls Tryz.prog 24 #[.agg #[.string (canonR u.x), .string (canonR u.y), .string (canonR u.z)], .agg #[.string (canonR v.x), .string (canonR v.y), .string (canonR v.z)]] w fun e w' => e = .returned (.tuple #[.string ⟨#[]⟩, .int .i64 7]) ∧ Below w.heap.size w w' :=
  lpitch_form _ _ _ _ _ _ _ _ w (fun W hW => dboth hN0 (by omega) hu hv W (he.below hW)) (fun W => rneg_any u.y W (by have := hu.sz.2.1.text hN0; omega)) (fun W _ => strike_zero hN0 hN false hz W) (fun W hW => ldot_any u v N hN0 (by omega) hu.sz hv.sz W (he.below hW)) (eq0_f hd)

theorem dpitch_ok (hu : Dir u N) (hv : Dir v N) (hz : (decide (-u.y = 0) && (decide (u.x = 0) && decide ((0 : Rat) = 0))) = false) (hd : dotR u v = 0) (hs0 : dotR (strikeR u) (strikeR u) ≠ 0) (hv0 : dotR v v ≠ 0) (w : World) (he : Env w) :
    Calls Tryz.prog 24 #[.agg #[.string (canonR u.x), .string (canonR u.y), .string (canonR u.z)], .agg #[.string (canonR v.x), .string (canonR v.y), .string (canonR v.z)]] w fun e w' => e = .returned (.tuple #[.string (canonR (angleR (strikeR u) v)), .int .i64 0]) ∧ Below w.heap.size w w' := by
  have ss := strike_sz hN0 hN hu.sz
  have h0 : dotR (strikeR u) (strikeR u) * dotR v v ≠ 0 := fun e => by
    rcases Rat.mul_eq_zero.1 e with h | h
    · exact hs0 h
    · exact hv0 h
  have hs : Sz (angleR (strikeR u) v) 200 := ((((ss.dot hv.sz).mul (ss.dot hv.sz)).div ((ss.dot ss).mul (hv.sz.dot hv.sz)) h0)).mono (by omega)
  exact lpitch_ok _ _ _ _ _ _ _ _ _ w (fun W hW => dboth hN0 (by omega) hu hv W (he.below hW)) (fun W => rneg_any u.y W (by have := hu.sz.2.1.text hN0; omega)) (fun W _ => strike_zero hN0 hN false hz W) (fun W hW => ldot_any u v N hN0 (by omega) hu.sz hv.sz W (he.below hW)) (eq0_t hd)
    (fun W hW => by have := langle_any (strikeR u) v N hN0 (by omega) ss hv.sz hs0 hv0 W (he.below hW); rw [show canonR (strikeR u).z = ⟨#[48]⟩ from k_zeroR] at this; exact this) (fun W hW => dnumber hN0 (by omega) hs W (he.below hW))

theorem dinter (hu : Dir u N) (hv : Dir v N) (hu0 : dotR u u ≠ 0) (hv0 : dotR v v ≠ 0) (w : World) (he : Env w) :
    Calls Tryz.prog 15 #[.agg #[.string (canonR u.x), .string (canonR u.y), .string (canonR u.z)], .agg #[.string (canonR v.x), .string (canonR v.y), .string (canonR v.z)]] w fun e w' => e = .returned (.tuple #[.int .i64 (classR (dotR u v).num.sign (((4 : Int) : Rat) * angleR u v)), .int .i64 0]) ∧ Below w.heap.size w w' := by
  have h0 : dotR u u * dotR v v ≠ 0 := fun e => by
    rcases Rat.mul_eq_zero.1 e with h | h
    · exact hu0 h
    · exact hv0 h
  have hs : Sz (angleR u v) 200 := ((((hu.sz.dot hv.sz).mul (hu.sz.dot hv.sz)).div ((hu.sz.dot hu.sz).mul (hv.sz.dot hv.sz)) h0)).mono (by omega)
  have s4 : Sz ((4 : Int) : Rat) 200 := Sz.int 4 200 (by decide) (by omega)
  have b0 := fun W (hW : Below w.heap.size w W) => dboth hN0 (by omega) hu hv W (he.below hW)
  have a1 := fun W (hW : Below w.heap.size w W) => langle_any u v N hN0 (by omega) hu.sz hv.sz hu0 hv0 W (he.below hW)
  have m1 := fun W (hW : Below w.heap.size w W) => rmul_any ((4 : Int) : Rat) (angleR u v) 200 (by omega) (by omega) s4 hs W (he.below hW)
  rw [canonR_int, k_4'] at m1
  have d1 := fun W (hW : Below w.heap.size w W) => ldot_any u v N hN0 (by omega) hu.sz hv.sz W (he.below hW)
  have g1 := fun W => rsign_sz (8 * N + 3) (by omega) (dotR u v) (by omega) (hu.sz.dot hv.sz) W
  have c1 := fun W (hW : Below w.heap.size w W) => rcompare_any (((4 : Int) : Rat) * angleR u v) 1 400 (by omega) (by omega) (s4.mul hs) (Sz.mono (q := 1) (N := 1) ⟨by decide, by decide⟩ (by omega)) W (he.below hW)
  have c3 := fun W (hW : Below w.heap.size w W) => rcompare_any (((4 : Int) : Rat) * angleR u v) ((3 : Int) : Rat) 400 (by omega) (by omega) (s4.mul hs) ((Sz.int 3 1 (by decide) (by omega)).mono (by omega)) W (he.below hW)
  rw [canonR_one, k_1] at c1
  rw [canonR_int, k_3'] at c3
  rw [show ((((4 : Int) : Rat) * angleR u v).num * ((1 : Rat).den : Int) - (1 : Rat).num * ((((4 : Int) : Rat) * angleR u v).den : Int)).sign = cmpR (((4 : Int) : Rat) * angleR u v) 1 from rfl] at c1
  rw [show ((((4 : Int) : Rat) * angleR u v).num * ((((3 : Int) : Rat)).den : Int) - (((3 : Int) : Rat)).num * ((((4 : Int) : Rat) * angleR u v).den : Int)).sign = cmpR (((4 : Int) : Rat) * angleR u v) 3 from rfl] at c3
  unfold classR
  generalize cmpR (((4 : Int) : Rat) * angleR u v) 1 = c at *
  generalize cmpR (((4 : Int) : Rat) * angleR u v) 3 = d at *
  generalize (dotR u v).num.sign = s at *
  by_cases h1 : 0 < s
  · by_cases h2 : 0 < c
    · rw [if_pos ⟨h1, h2⟩]
      exact linter_1 _ _ _ _ _ _ _ _ _ s c d w b0 a1 m1 d1 g1 c1 (decide_eq_true h1) (decide_eq_true h2)
    · rw [if_neg (fun h => h2 h.2), if_pos h1]
      exact linter_2 _ _ _ _ _ _ _ _ _ s c d w b0 a1 m1 d1 g1 c1 (decide_eq_true h1) (decide_eq_false h2)
  · rw [if_neg (fun h => h1 h.1), if_neg h1]
    by_cases h2 : c < 0
    · rw [if_pos h2]
      exact linter_3 _ _ _ _ _ _ _ _ _ s c d w b0 a1 m1 d1 g1 c1 (decide_eq_false h1) (decide_eq_true h2)
    · rw [if_neg h2]
      by_cases h3 : d < 0
      · rw [if_pos h3]
        exact linter_4 _ _ _ _ _ _ _ _ _ s c d w b0 a1 m1 d1 g1 c1 c3 (decide_eq_false h1) (decide_eq_false h2) (decide_eq_true h3)
      · rw [if_neg h3]
        exact linter_5 _ _ _ _ _ _ _ _ _ s c d w b0 a1 m1 d1 g1 c1 c3 (decide_eq_false h1) (decide_eq_false h2) (decide_eq_false h3)
end

end Go.Proofs.YtajkeoapfkkjbaaGreatDoor

/- The order of two angles, and the ways of lineation's functions that end in an error. -/
namespace Go.Proofs.YtajkeoapfkkjbaaGreatDoor
set_option linter.all false
open Go.RowKit

theorem angle_sz {u v : V3} {N : Nat} (hN : N ≤ 5) (hu : Sz3 u N) (hv : Sz3 v N) (hu0 : dotR u u ≠ 0) (hv0 : dotR v v ≠ 0) : Sz (angleR u v) 200 := by
  have h0 : dotR u u * dotR v v ≠ 0 := fun e => by
    rcases Rat.mul_eq_zero.1 e with h | h
    · exact hu0 h
    · exact hv0 h
  exact ((((hu.dot hv).mul (hu.dot hv)).div ((hu.dot hu).mul (hv.dot hv)) h0)).mono (by omega)

theorem dcang (a b c d : V3) (N : Nat) (hN0 : 0 < N) (hN : N ≤ 5) (ha : Dir a N) (hb : Dir b N) (hc : Dir c N) (hd : Dir d N) (a0 : dotR a a ≠ 0) (b0 : dotR b b ≠ 0) (c0 : dotR c c ≠ 0) (d0 : dotR d d ≠ 0) (w : World) (he : Env w) :
    Calls Tryz.prog 28 #[.agg #[.string (canonR a.x), .string (canonR a.y), .string (canonR a.z), .string (canonR b.x), .string (canonR b.y), .string (canonR b.z)], .agg #[.string (canonR c.x), .string (canonR c.y), .string (canonR c.z), .string (canonR d.x), .string (canonR d.y), .string (canonR d.z)]] w fun e w' => e = .returned (.tuple #[.int .i64 (cmpR (angleR c d) (angleR a b)), .int .i64 0]) ∧ Below w.heap.size w w' :=
  lcang_ok _ _ _ _ _ _ _ _ _ _ _ _ _ _ _ w (fun W hW => dcheck hN0 (by omega) ha W (he.below hW)) (fun W hW => dcheck hN0 (by omega) hb W (he.below hW)) (fun W hW => dcheck hN0 (by omega) hc W (he.below hW)) (fun W hW => dcheck hN0 (by omega) hd W (he.below hW))
    (fun W hW => langle_any c d N hN0 (by omega) hc.sz hd.sz c0 d0 W (he.below hW)) (fun W hW => langle_any a b N hN0 (by omega) ha.sz hb.sz a0 b0 W (he.below hW))
    (fun W hW => rcompare_any (angleR c d) (angleR a b) 200 (by omega) (by omega) (angle_sz hN hc.sz hd.sz c0 d0) (angle_sz hN ha.sz hb.sz a0 b0) W (he.below hW))

section
variable (A C D F G H : ByteArray) (ha : A.size ≤ 1000000) (hc : C.size ≤ 1000000) (hd : D.size ≤ 1000000) (hf : F.size ≤ 1000000) (hg : G.size ≤ 1000000) (hh : H.size ≤ 1000000)
include ha hc hd hf hg hh
theorem esame (hk : err2 (chkL A C D) (chkL F G H) ≠ 0) (w : World) (he : Env w) :
    Calls Tryz.prog 19 #[.agg #[.string A, .string C, .string D], .agg #[.string F, .string G, .string H]] w fun e w' => e = .returned (.tuple #[.bool false, .int .i64 (err2 (chkL A C D) (chkL F G H))]) ∧ Below w.heap.size w w' :=
  lsame_bad _ _ _ _ _ _ _ w (by rw [bne_iff_ne]; exact hk) (fun W hW => lboth_any A C D F G H ha hc hd hf hg hh W (he.below hW))
theorem ectrend (hk : err2 (chkL A C D) (chkL F G H) ≠ 0) (w : World) (he : Env w) :
    Calls Tryz.prog 32 #[.agg #[.string A, .string C, .string D], .agg #[.string F, .string G, .string H]] w fun e w' => e = .returned (.tuple #[.int .i64 0, .int .i64 (err2 (chkL A C D) (chkL F G H))]) ∧ Below w.heap.size w w' :=
  lctrend_bad _ _ _ _ _ _ _ w (by rw [bne_iff_ne]; exact hk) (fun W hW => lboth_any A C D F G H ha hc hd hf hg hh W (he.below hW))
theorem ecplunge (hk : err2 (chkL A C D) (chkL F G H) ≠ 0) (w : World) (he : Env w) :
    Calls Tryz.prog 36 #[.agg #[.string A, .string C, .string D], .agg #[.string F, .string G, .string H]] w fun e w' => e = .returned (.tuple #[.int .i64 0, .int .i64 (err2 (chkL A C D) (chkL F G H))]) ∧ Below w.heap.size w w' :=
  lcplunge_bad _ _ _ _ _ _ _ w (by rw [bne_iff_ne]; exact hk) (fun W hW => lboth_any A C D F G H ha hc hd hf hg hh W (he.below hW))
theorem eangle (hk : err2 (chkL A C D) (chkL F G H) ≠ 0) (w : World) (he : Env w) :
    Calls Tryz.prog 27 #[.agg #[.string A, .string C, .string D], .agg #[.string F, .string G, .string H]] w fun e w' => e = .returned (.tuple #[.string ⟨#[]⟩, .int .i64 (err2 (chkL A C D) (chkL F G H))]) ∧ Below w.heap.size w w' :=
  langle_bad _ _ _ _ _ _ _ w (by rw [bne_iff_ne]; exact hk) (fun W hW => lboth_any A C D F G H ha hc hd hf hg hh W (he.below hW))
theorem elies (hk : err2 (chkL A C D) (chkL F G H) ≠ 0) (w : World) (he : Env w) :
    Calls Tryz.prog 22 #[.agg #[.string A, .string C, .string D], .agg #[.string F, .string G, .string H]] w fun e w' => e = .returned (.tuple #[.bool false, .int .i64 (err2 (chkL A C D) (chkL F G H))]) ∧ Below w.heap.size w w' :=
  llies_bad _ _ _ _ _ _ _ w (by rw [bne_iff_ne]; exact hk) (fun W hW => lboth_any A C D F G H ha hc hd hf hg hh W (he.below hW))
theorem epitch (hk : err2 (chkL A C D) (chkL F G H) ≠ 0) (w : World) (he : Env w) :
    Calls Tryz.prog 24 #[.agg #[.string A, .string C, .string D], .agg #[.string F, .string G, .string H]] w fun e w' => e = .returned (.tuple #[.string ⟨#[]⟩, .int .i64 (err2 (chkL A C D) (chkL F G H))]) ∧ Below w.heap.size w w' :=
  lpitch_bad _ _ _ _ _ _ _ w (by rw [bne_iff_ne]; exact hk) (fun W hW => lboth_any A C D F G H ha hc hd hf hg hh W (he.below hW))
theorem einter (hk : err2 (chkL A C D) (chkL F G H) ≠ 0) (w : World) (he : Env w) :
    Calls Tryz.prog 15 #[.agg #[.string A, .string C, .string D], .agg #[.string F, .string G, .string H]] w fun e w' => e = .returned (.tuple #[.int .i64 0, .int .i64 (err2 (chkL A C D) (chkL F G H))]) ∧ Below w.heap.size w w' :=
  linter_bad _ _ _ _ _ _ _ w (by rw [bne_iff_ne]; exact hk) (fun W hW => lboth_any A C D F G H ha hc hd hf hg hh W (he.below hW))
theorem eisect (hk : err2 (chkL A C D) (chkL F G H) ≠ 0) (w : World) (he : Env w) :
    Calls Tryz.prog 23 #[.agg #[.string A, .string C, .string D], .agg #[.string F, .string G, .string H]] w fun e w' => e = .returned (.tuple #[.agg #[.string ⟨#[]⟩, .string ⟨#[]⟩, .string ⟨#[]⟩], .int .i64 (err2 (chkL A C D) (chkL F G H))]) ∧ Below w.heap.size w w' :=
  lisect_bad _ _ _ _ _ _ _ w (by rw [bne_iff_ne]; exact hk) (fun W hW => lboth_any A C D F G H ha hc hd hf hg hh W (he.below hW))
end

section
variable (X Y Z : ByteArray) (hx : X.size ≤ 1000000) (hy : Y.size ≤ 1000000) (hz : Z.size ≤ 1000000)
include hx hy hz
theorem eof (hk : chkL X Y Z ≠ 0) (w : World) (he : Env w) :
    Calls Tryz.prog 18 #[.agg #[.string X, .string Y, .string Z]] w fun e w' => e = .returned (.tuple #[.agg #[.string ⟨#[]⟩, .string ⟨#[]⟩, .string ⟨#[]⟩], .int .i64 (chkL X Y Z)]) ∧ Below w.heap.size w w' :=
  lof_bad _ _ _ _ w (by rw [bne_iff_ne]; exact hk) (fun W hW => lcheck_any X Y Z hx hy hz W (he.below hW))
theorem etrend (hk : chkL X Y Z ≠ 0) (w : World) (he : Env w) :
    Calls Tryz.prog 31 #[.agg #[.string X, .string Y, .string Z]] w fun e w' => e = .returned (.tuple #[.int .i64 0, .int .i64 (chkL X Y Z)]) ∧ Below w.heap.size w w' :=
  ltrend_bad _ _ _ _ w (by rw [bne_iff_ne]; exact hk) (fun W hW => lcheck_any X Y Z hx hy hz W (he.below hW))
theorem eplunge (hk : chkL X Y Z ≠ 0) (w : World) (he : Env w) :
    Calls Tryz.prog 35 #[.agg #[.string X, .string Y, .string Z]] w fun e w' => e = .returned (.tuple #[.string ⟨#[]⟩, .bool false, .int .i64 (chkL X Y Z)]) ∧ Below w.heap.size w w' :=
  lplunge_bad _ _ _ _ w (by rw [bne_iff_ne]; exact hk) (fun W hW => lcheck_any X Y Z hx hy hz W (he.below hW))
end

/-- CompareAngles of (u, v) and (u, u) ends in the error of u, or of v. -/
theorem ecang (A C D F G H X Y Z I J K : ByteArray) (ha : A.size ≤ 1000000) (hc : C.size ≤ 1000000) (hd : D.size ≤ 1000000) (hf : F.size ≤ 1000000) (hg : G.size ≤ 1000000) (hh : H.size ≤ 1000000) (hk : err2 (chkL A C D) (chkL F G H) ≠ 0) (w : World) (he : Env w) :
    Calls Tryz.prog 28 #[.agg #[.string A, .string C, .string D, .string F, .string G, .string H], .agg #[.string X, .string Y, .string Z, .string I, .string J, .string K]] w fun e w' => e = .returned (.tuple #[.int .i64 0, .int .i64 (err2 (chkL A C D) (chkL F G H))]) ∧ Below w.heap.size w w' := by
  have h1 := fun W (hW : Below w.heap.size w W) => lcheck_any A C D ha hc hd W (he.below hW)
  have h2 := fun W (hW : Below w.heap.size w W) => lcheck_any F G H hf hg hh W (he.below hW)
  unfold err2 at hk ⊢
  by_cases h : chkL A C D = 0
  · rw [if_pos h] at hk ⊢
    rw [h] at h1
    exact lcang_bad2 _ _ _ _ _ _ _ _ _ _ _ _ _ w (by rw [bne_iff_ne]; exact hk) h1 h2
  · rw [if_neg h] at hk ⊢
    exact lcang_bad1 _ _ _ _ _ _ _ _ _ _ _ _ _ w (by rw [bne_iff_ne]; exact hk) h1

end Go.Proofs.YtajkeoapfkkjbaaGreatDoor
