/- The functions of lineation and of the model on described directions. -/
import Derived.Test.YtajkeoapfkkjbaaGreatDoorGLinK
import Derived.Test.YtajkeoapfkkjbaaGreatDoorGLinM
import Derived.Test.YtajkeoapfkkjbaaGreatDoorLinE
/- The model's functions of klippelaw16 over integer vectors: descriptions, and what they make. -/
namespace Go.Proofs.YtajkeoapfkkjbaaGreatDoor
set_option linter.all false
open Go.RowKit

/-- The numerators of a description, and its divisor. -/
def smI (x y z : Int) : I3 := ⟨x.tmod 21, y.tmod 21, z.tmod 21⟩
def smD (b : Int) : Nat := (1 + b % 3).toNat

theorem tmod21 (x : Int) : -20 ≤ x.tmod 21 ∧ x.tmod 21 ≤ 20 := by
  rcases Int.le_total 0 x with h | h
  · rw [Int.tmod_eq_emod_of_nonneg h]; omega
  · have e : x.tmod 21 = -((-x).tmod 21) := by rw [Int.neg_tmod]; omega
    rw [e, Int.tmod_eq_emod_of_nonneg (by omega)]; omega

theorem smD_pos (b : Int) : 0 < smD b ∧ smD b ≤ 3 := by unfold smD; omega

theorem small_sz (n : Int) (d : Nat) (hn : -20 ≤ n ∧ n ≤ 20) (hd : 0 < d ∧ d ≤ 3) : Sz (mkRat n d) 2 := by
  have hb := mk_bounds n d (by omega)
  exact ⟨by have : n.natAbs ≤ 20 := by omega
            show _ < 100; omega, by show _ < 100; omega⟩

theorem ofI_sz (x y z b : Int) : Sz3 (ofI (smI x y z) (smD b)) 2 := ⟨small_sz _ _ (tmod21 x) (smD_pos b), small_sz _ _ (tmod21 y) (smD_pos b), small_sz _ _ (tmod21 z) (smD_pos b)⟩

theorem ofI_dir (x y z b : Int) (h : (smI x y z).nz) : Dir (ofI (smI x y z) (smD b)) 2 :=
  ⟨ofI_sz x y z b, fun hz => ((ofI_zero _ _ (smD_pos b).1).1 hz) h⟩

theorem rdiv2_ofI (n b : Int) (h0 : 0 ≤ b) : rdiv2 n (1 + b % 3) = mkRat n (smD b) := by
  unfold rdiv2 smD
  rw [if_neg (by omega), show (1 + b % 3).natAbs = (1 + b % 3).toNat by omega]

theorem mmake (x y z b : Int) (x0 : -128 ≤ x) (x1 : x ≤ 127) (y0 : -128 ≤ y) (y1 : y ≤ 127) (z0 : -128 ≤ z) (z1 : z ≤ 127) (b0 : 0 ≤ b) (b1 : b ≤ 255) (w : World) (he : Env w) :
    Calls Tryz.prog 16 #[.agg #[.int .i8 x, .int .i8 y, .int .i8 z, .int .u8 b]] w fun e w' => e = .returned (.agg #[.string (canonR (ofI (smI x y z) (smD b)).x), .string (canonR (ofI (smI x y z) (smD b)).y), .string (canonR (ofI (smI x y z) (smD b)).z)]) ∧ Below w.heap.size w w' := by
  have o := fun (n : Int) W (hW : Below w.heap.size w W) => rof_int (n.tmod 21) (1 + b % 3) (by omega) (by have := tmod21 n; omega) (by have := tmod21 n; omega) (by omega) (by omega) W (he.below hW).1
  have e := fun n : Int => rdiv2_ofI (n.tmod 21) b b0
  simp only [e] at o
  exact make16_of _ _ _ x y z b w x0 x1 y0 y1 z0 z1 b0 b1 (o x) (o y) (o z)

end Go.Proofs.YtajkeoapfkkjbaaGreatDoor

/- The model's functions of klippelaw16 over integer vectors: zero, down, of, dot, cross, quotient; and the facts of described directions that the laws want. -/
namespace Go.Proofs.YtajkeoapfkkjbaaGreatDoor
set_option linter.all false
open Go.RowKit

/-- The entries of an integer vector are at most N in magnitude. -/
def Bd (v : I3) (N : Int) : Prop := (-N ≤ v.x ∧ v.x ≤ N) ∧ (-N ≤ v.y ∧ v.y ≤ N) ∧ (-N ≤ v.z ∧ v.z ≤ N)
theorem Bd.mono {v : I3} {N M : Int} (h : Bd v N) (hNM : N ≤ M) : Bd v M := by
  obtain ⟨h1, h2, h3⟩ := h
  exact ⟨by omega, by omega, by omega⟩
theorem smI_bd (x y z : Int) : Bd (smI x y z) 20 := ⟨tmod21 x, tmod21 y, tmod21 z⟩

def zeroB (v : I3) : Bool := v.x == 0 && (v.y == 0 && v.z == 0)
theorem zeroB_false {v : I3} (h : zeroB v = false) : v.nz := fun ⟨h1, h2, h3⟩ => by
  unfold zeroB at h
  rw [h1, h2, h3] at h
  cases h
theorem zeroB_true {v : I3} (h : zeroB v = true) : ¬ v.nz := fun hn => hn (by
  unfold zeroB at h
  simp only [Bool.and_eq_true, beq_iff_eq] at h
  exact h)

theorem mzero (v : I3) (w : World) :
    Calls Tryz.prog 13 #[.agg #[.int .i64 v.x, .int .i64 v.y, .int .i64 v.z]] w fun e w' => e = .returned (.bool (zeroB v)) ∧ Below w.heap.size w w' :=
  zero_of v.x v.y v.z (zeroB v) w rfl

theorem mints (x y z b : Int) (x0 : -128 ≤ x) (x1 : x ≤ 127) (y0 : -128 ≤ y) (y1 : y ≤ 127) (z0 : -128 ≤ z) (z1 : z ≤ 127) (b0 : 0 ≤ b) (b1 : b ≤ 255) (w : World) :
    Calls Tryz.prog 14 #[.agg #[.int .i8 x, .int .i8 y, .int .i8 z, .int .u8 b]] w fun e w' => e = .returned (.agg #[.int .i64 (smI x y z).x, .int .i64 (smI x y z).y, .int .i64 (smI x y z).z]) ∧ Below w.heap.size w w' :=
  ints_of x y z b w x0 x1 y0 y1 z0 z1 b0 b1

theorem mdot (u v : I3) (hu : Bd u 2000) (hv : Bd v 2000) (w : World) :
    Calls Tryz.prog 17 #[.agg #[.int .i64 u.x, .int .i64 u.y, .int .i64 u.z], .agg #[.int .i64 v.x, .int .i64 v.y, .int .i64 v.z]] w fun e w' => e = .returned (.int .i64 (dotI u v)) ∧ Below w.heap.size w w' := by
  obtain ⟨⟨a1, a2⟩, ⟨a3, a4⟩, ⟨a5, a6⟩⟩ := hu
  obtain ⟨⟨b1, b2⟩, ⟨b3, b4⟩, ⟨b5, b6⟩⟩ := hv
  exact mdot_of _ _ _ _ _ _ w a1 a2 a3 a4 a5 a6 b1 b2 b3 b4 b5 b6

theorem mcross (u v : I3) (hu : Bd u 2000) (hv : Bd v 2000) (w : World) :
    Calls Tryz.prog 25 #[.agg #[.int .i64 u.x, .int .i64 u.y, .int .i64 u.z], .agg #[.int .i64 v.x, .int .i64 v.y, .int .i64 v.z]] w fun e w' => e = .returned (.agg #[.int .i64 (crossI u v).x, .int .i64 (crossI u v).y, .int .i64 (crossI u v).z]) ∧ Below w.heap.size w w' := by
  obtain ⟨⟨a1, a2⟩, ⟨a3, a4⟩, ⟨a5, a6⟩⟩ := hu
  obtain ⟨⟨b1, b2⟩, ⟨b3, b4⟩, ⟨b5, b6⟩⟩ := hv
  exact mcross_of _ _ _ _ _ _ w a1 a2 a3 a4 a5 a6 b1 b2 b3 b4 b5 b6

theorem mvector (a b c : Int) (ha : -1000000 ≤ a ∧ a ≤ 1000000) (hb : -1000000 ≤ b ∧ b ≤ 1000000) (hc : -1000000 ≤ c ∧ c ≤ 1000000) (w : World) (he : Env w) :
    Calls Tryz.prog 40 #[.int .i64 a, .int .i64 b, .int .i64 c] w fun e w' => e = .returned (.agg #[.string (canonR (a : Rat)), .string (canonR (b : Rat)), .string (canonR (c : Rat))]) ∧ Below w.heap.size w w' := by
  rw [canonR_int, canonR_int, canonR_int]
  exact mvector_of _ _ _ a b c w (fun W hW => rwhole_any a (by omega) (by omega) W (he.below hW).1) (fun W hW => rwhole_any b (by omega) (by omega) W (he.below hW).1) (fun W hW => rwhole_any c (by omega) (by omega) W (he.below hW).1)

theorem mof (v : I3) (h : Bd v 1000000) (w : World) (he : Env w) :
    Calls Tryz.prog 20 #[.agg #[.int .i64 v.x, .int .i64 v.y, .int .i64 v.z]] w fun e w' => e = .returned (.agg #[.string (canonR v.rat.x), .string (canonR v.rat.y), .string (canonR v.rat.z)]) ∧ Below w.heap.size w w' :=
  mof_of _ _ _ v.x v.y v.z w (fun W hW => mvector v.x v.y v.z h.1 h.2.1 h.2.2 W (he.below hW))

theorem mquot (a b : Int) (hb : b ≠ 0) (a0 : -9223372036854775808 ≤ a) (a1 : a ≤ 9223372036854775807) (b0 : -9223372036854775808 ≤ b) (b1 : b ≤ 9223372036854775807) (w : World) (he : Env w) :
    Calls Tryz.prog 26 #[.int .i64 a, .int .i64 b] w fun e w' => e = .returned (.string (canonR (rdiv2 a b))) ∧ Below w.heap.size w w' :=
  mquot_of _ a b w (fun W hW => rof_int a b hb a0 a1 b0 b1 W (he.below hW).1)

theorem div_in {a : Int} {g : Nat} (g0 : 0 < g) (h : (g : Int) ∣ a) {N : Int} (la : -N ≤ a) (ha : a ≤ N) : a.tdiv (g : Int) = a / (g : Int) ∧ (-N ≤ a / (g : Int) ∧ a / (g : Int) ≤ N) ∧ a / (-(g : Int)) = -(a / (g : Int)) := by
  obtain ⟨k, rfl⟩ := h
  have hg : (g : Int) ≠ 0 := by omega
  have hg1 : (1 : Int) ≤ (g : Int) := by omega
  generalize (g : Int) = G at *
  rw [Int.mul_tdiv_cancel_left _ hg, Int.mul_ediv_cancel_left _ hg]
  refine ⟨rfl, ?_, ?_⟩
  · rcases Int.le_total 0 k with hk | hk
    · have : k ≤ G * k := by
        have := Int.mul_le_mul_of_nonneg_right hg1 hk
        omega
      omega
    · have : G * k ≤ k := by
        have := Int.mul_le_mul_of_nonpos_right hg1 hk
        omega
      omega
  · rw [Int.ediv_neg, Int.mul_ediv_cancel_left _ hg]

theorem gcd3_le {v : I3} {N : Nat} (hN : Bd v N) (hn : v.nz) : gcd3 v.x v.y v.z ≤ N := by
  obtain ⟨g1, g2, g3⟩ := gcd3_dvd v.x v.y v.z
  obtain ⟨h1, h2, h3⟩ := hN
  have le : ∀ a : Int, a ≠ 0 → (gcd3 v.x v.y v.z : Int) ∣ a → gcd3 v.x v.y v.z ≤ a.natAbs := fun a ha hd => Nat.le_of_dvd (by omega) (Int.ofNat_dvd_left.1 hd)
  by_cases hx : v.x = 0
  · by_cases hy : v.y = 0
    · have hz : v.z ≠ 0 := fun hz => hn ⟨hx, hy, hz⟩
      have := le _ hz g3
      omega
    · have := le _ hy g2
      omega
  · have := le _ hx g1
    omega

theorem down_bd {v : I3} {N : Int} (h : Bd v N) (hn : v.nz) : Bd (downI v) N := by
  obtain ⟨g1, g2, g3⟩ := gcd3_dvd v.x v.y v.z
  have hp := gcd3_pos hn
  obtain ⟨a1, a2, a3⟩ := div_in hp g1 h.1.1 h.1.2
  obtain ⟨b1, b2, b3⟩ := div_in hp g2 h.2.1.1 h.2.1.2
  obtain ⟨c1, c2, c3⟩ := div_in hp g3 h.2.2.1 h.2.2.2
  have hg : v.g = (gcd3 v.x v.y v.z : Int) ∨ v.g = -(gcd3 v.x v.y v.z : Int) := by
    unfold I3.g
    cases upI v.x v.y v.z
    · exact .inl rfl
    · exact .inr rfl
  unfold downI
  rcases hg with hg | hg <;> rw [hg]
  · exact ⟨a2, b2, c2⟩
  · rw [a3, b3, c3]
    simp only [Bd]
    omega

theorem mdown (v : I3) (hb : Bd v 900) (hn : v.nz) (w : World) :
    Calls Tryz.prog 21 #[.agg #[.int .i64 v.x, .int .i64 v.y, .int .i64 v.z]] w fun e w' => e = .returned (.agg #[.int .i64 (downI v).x, .int .i64 (downI v).y, .int .i64 (downI v).z]) ∧ Below w.heap.size w w' := by
  obtain ⟨g1, g2, g3⟩ := gcd3_dvd v.x v.y v.z
  have hp := gcd3_pos hn
  have hl := gcd3_le (N := 900) hb hn
  obtain ⟨h1, h2, h3⟩ := hb
  obtain ⟨a1, a2, a3⟩ := div_in hp g1 h1.1 h1.2
  obtain ⟨b1, b2, b3⟩ := div_in hp g2 h2.1 h2.2
  obtain ⟨c1, c2, c3⟩ := div_in hp g3 h3.1 h3.2
  have s1 := fun W (_ : Below w.heap.size w W) => mgcd_of v.x v.y W (by omega) (by omega) (by omega) (by omega)
  have hgx : (Nat.gcd v.x.natAbs v.y.natAbs : Int) ≤ 1000000 := by
    by_cases hx : v.x = 0
    · rw [hx, show (0 : Int).natAbs = 0 from rfl, Nat.gcd_zero_left]; omega
    · have := Nat.gcd_le_left (m := v.x.natAbs) v.y.natAbs (by omega)
      omega
  have s2 := fun W (_ : Below w.heap.size w W) => mgcd_of (Nat.gcd v.x.natAbs v.y.natAbs : Nat) v.z W (by omega) (by omega) (by omega) (by omega)
  rw [Int.natAbs_natCast] at s2
  have up : ∀ u, upI v.x v.y v.z = u → downI v = if u then ⟨-(v.x / (gcd3 v.x v.y v.z : Int)), -(v.y / (gcd3 v.x v.y v.z : Int)), -(v.z / (gcd3 v.x v.y v.z : Int))⟩ else ⟨v.x / (gcd3 v.x v.y v.z : Int), v.y / (gcd3 v.x v.y v.z : Int), v.z / (gcd3 v.x v.y v.z : Int)⟩ := fun u hu => by
    unfold downI I3.g
    rw [hu]
    cases u with
    | false => rfl
    | true =>
      show (⟨v.x / (-(gcd3 v.x v.y v.z : Int)), v.y / (-(gcd3 v.x v.y v.z : Int)), v.z / (-(gcd3 v.x v.y v.z : Int))⟩ : I3) = _
      rw [a3, b3, c3, if_pos rfl]
  by_cases z1 : 0 < v.z
  · rw [up true (by unfold upI; rw [if_neg (by omega), decide_eq_true z1]), if_pos rfl]
    dsimp only
    exact mdown_1 v.x v.y v.z _ _ _ _ w (gcd3 v.x v.y v.z) hp (by omega) (by omega) (by omega) (by omega) (by omega) (by omega) (by omega) (decide_eq_true z1) s1 s2 a1 (by omega) b1 (by omega) c1 (by omega)
  · have z1' : decide (v.z > 0) = false := decide_eq_false z1
    by_cases z2 : v.z = 0
    · have z2' : (v.z == 0) = true := beq_iff_eq.2 z2
      by_cases y1 : v.y < 0
      · rw [up true (by unfold upI; rw [if_pos z2, if_neg (by omega), decide_eq_true y1]), if_pos rfl]
        dsimp only
        exact mdown_3 v.x v.y v.z _ _ _ _ w (gcd3 v.x v.y v.z) hp (by omega) (by omega) (by omega) (by omega) (by omega) (by omega) (by omega) z1' z2' (decide_eq_true y1) s1 s2 a1 (by omega) b1 (by omega) c1 (by omega)
      · have y1' : decide (v.y < 0) = false := decide_eq_false y1
        by_cases y2 : v.y = 0
        · have y2' : (v.y == 0) = true := beq_iff_eq.2 y2
          by_cases x1 : v.x < 0
          · rw [up true (by unfold upI; rw [if_pos z2, if_pos y2, decide_eq_true x1]), if_pos rfl]
            dsimp only
            exact mdown_5 v.x v.y v.z _ _ _ _ w (gcd3 v.x v.y v.z) hp (by omega) (by omega) (by omega) (by omega) (by omega) (by omega) (by omega) z1' z2' y1' y2' (decide_eq_true x1) s1 s2 a1 (by omega) b1 (by omega) c1 (by omega)
          · rw [up false (by unfold upI; rw [if_pos z2, if_pos y2, decide_eq_false x1]), if_neg Bool.false_ne_true]
            dsimp only
            exact mdown_6 v.x v.y v.z _ _ _ _ w (gcd3 v.x v.y v.z) hp (by omega) (by omega) (by omega) (by omega) (by omega) (by omega) (by omega) z1' z2' y1' y2' (decide_eq_false x1) s1 s2 a1 (by omega) b1 (by omega) c1 (by omega)
        · rw [up false (by unfold upI; rw [if_pos z2, if_neg y2, decide_eq_false y1]), if_neg Bool.false_ne_true]
          dsimp only
          exact mdown_4 v.x v.y v.z _ _ _ _ w (gcd3 v.x v.y v.z) hp (by omega) (by omega) (by omega) (by omega) (by omega) (by omega) (by omega) z1' z2' y1' (beq_eq_false_iff_ne.2 y2) s1 s2 a1 (by omega) b1 (by omega) c1 (by omega)
    · rw [up false (by unfold upI; rw [if_neg z2, decide_eq_false z1]), if_neg Bool.false_ne_true]
      dsimp only
      exact mdown_2 v.x v.y v.z _ _ _ _ w (gcd3 v.x v.y v.z) hp (by omega) (by omega) (by omega) (by omega) (by omega) (by omega) (by omega) z1' (beq_eq_false_iff_ne.2 z2) s1 s2 a1 (by omega) b1 (by omega) c1 (by omega)

/-- The greatest common divisor that the downward form divides by is not 0. -/
theorem divG_pos (v : V3) (h : ¬ v.zero) : 0 < divG (v.scale (denL v)) := by
  have hl := nat_ne (denL_pos v)
  refine Nat.pos_of_ne_zero fun e => h ?_
  have num0 : ∀ q : Rat, q.num.natAbs = 0 → q = 0 := fun q hq => Rat.num_eq_zero.1 (by omega)
  unfold divG at e
  obtain ⟨e1, ez⟩ := Nat.gcd_eq_zero_iff.1 e
  obtain ⟨e2, ey⟩ := Nat.gcd_eq_zero_iff.1 e1
  obtain ⟨_, ex⟩ := Nat.gcd_eq_zero_iff.1 e2
  have kill : ∀ q : Rat, q * (denL v : Rat) = 0 → q = 0 := fun q hq => (Rat.mul_eq_zero.1 hq).resolve_right hl
  exact ⟨kill _ (num0 _ ex), kill _ (num0 _ ey), kill _ (num0 _ ez)⟩

theorem rat_sz {v : I3} {N : Int} (h : Bd v N) (K : Nat) (hK : N < 10 ^ K) (h0 : 0 < K) : Sz3 v.rat K := by
  obtain ⟨h1, h2, h3⟩ := h
  have e : ((10 ^ K : Nat) : Int) = (10 : Int) ^ K := by simp
  have one : ∀ n : Int, -N ≤ n → n ≤ N → Sz (n : Rat) K := fun n a b => Sz.int n K (by
    rw [← e] at hK
    generalize 10 ^ K = p at *
    omega) h0
  exact ⟨one _ h1.1 h1.2, one _ h2.1 h2.2, one _ h3.1 h3.2⟩

end Go.Proofs.YtajkeoapfkkjbaaGreatDoor

/- The public functions of lineation on described directions: what they return, in ints. -/
namespace Go.Proofs.YtajkeoapfkkjbaaGreatDoor
set_option linter.all false
open Go.RowKit

/-- A described direction: entries of at most N, not all 0, over a divisor from 1 to 3. -/
structure Desc (v : I3) (d : Nat) : Prop where
  bd : Bd v 20
  nz : v.nz
  d0 : 0 < d
  d3 : d ≤ 3

theorem Desc.sz {v : I3} {d : Nat} (h : Desc v d) : Sz3 (ofI v d) 2 := ⟨small_sz _ _ h.bd.1 ⟨h.d0, h.d3⟩, small_sz _ _ h.bd.2.1 ⟨h.d0, h.d3⟩, small_sz _ _ h.bd.2.2 ⟨h.d0, h.d3⟩⟩
theorem Desc.nzR {v : I3} {d : Nat} (h : Desc v d) : ¬ (ofI v d).zero := fun hz => ((ofI_zero _ _ h.d0).1 hz) h.nz
theorem Desc.dir {v : I3} {d : Nat} (h : Desc v d) : Dir (ofI v d) 2 := ⟨h.sz, h.nzR⟩
theorem Desc.small {x y z b : Int} (h : (smI x y z).nz) : Desc (smI x y z) (smD b) := ⟨smI_bd x y z, h, (smD_pos b).1, (smD_pos b).2⟩
theorem Desc.downR {v : I3} {d : Nat} (h : Desc v d) : downR (ofI v d) = (downI v).rat := down_ofI v d h.d0 h.nz
theorem Desc.downSz {v : I3} {d : Nat} (h : Desc v d) : Sz3 (downI v).rat 2 := rat_sz (down_bd h.bd h.nz) 2 (by omega) (by omega)

theorem rat_ofI (v : I3) : v.rat = ofI v 1 := by
  unfold I3.rat ofI
  rw [Rat.mkRat_one, Rat.mkRat_one, Rat.mkRat_one]

theorem down_nz {v : I3} (h : v.nz) : (downI v).nz := by
  obtain ⟨g1, g2, g3⟩ := gcd3_dvd v.x v.y v.z
  have hp := gcd3_pos h
  have hg : v.g ≠ 0 ∧ v.g ∣ v.x ∧ v.g ∣ v.y ∧ v.g ∣ v.z := by
    unfold I3.g
    cases upI v.x v.y v.z
    · exact ⟨by show (gcd3 v.x v.y v.z : Int) ≠ 0; omega, g1, g2, g3⟩
    · exact ⟨by show -(gcd3 v.x v.y v.z : Int) ≠ 0; omega, Int.neg_dvd.2 g1, Int.neg_dvd.2 g2, Int.neg_dvd.2 g3⟩
  obtain ⟨h0, ⟨a, ha⟩, ⟨b, hb⟩, ⟨c, hc⟩⟩ := hg
  intro hz
  unfold downI at hz
  generalize v.g = g at *
  simp only [ha, hb, hc, Int.mul_ediv_cancel_left _ h0] at hz
  obtain ⟨rfl, rfl, rfl⟩ := hz
  exact h ⟨by rw [ha]; simp, by rw [hb]; simp, by rw [hc]; simp⟩

/-- The downward form times a number is the vector. -/
theorem down_times {v : I3} (h : v.nz) : ∃ t : Rat, t ≠ 0 ∧ ((downI v).x : Rat) = t * v.x ∧ ((downI v).y : Rat) = t * v.y ∧ ((downI v).z : Rat) = t * v.z := by
  obtain ⟨g1, g2, g3⟩ := gcd3_dvd v.x v.y v.z
  have hp := gcd3_pos h
  have hg : v.g ≠ 0 ∧ v.g ∣ v.x ∧ v.g ∣ v.y ∧ v.g ∣ v.z := by
    unfold I3.g
    cases upI v.x v.y v.z
    · exact ⟨by show (gcd3 v.x v.y v.z : Int) ≠ 0; omega, g1, g2, g3⟩
    · exact ⟨by show -(gcd3 v.x v.y v.z : Int) ≠ 0; omega, Int.neg_dvd.2 g1, Int.neg_dvd.2 g2, Int.neg_dvd.2 g3⟩
  obtain ⟨h0, ⟨a, ha⟩, ⟨b, hb⟩, ⟨c, hc⟩⟩ := hg
  have hr := cast_ne h0
  refine ⟨1 / (v.g : Rat), by intro e; grind, ?_, ?_, ?_⟩
  · unfold downI
    show ((v.x / v.g : Int) : Rat) = _
    generalize v.g = g at *
    rw [ha, Int.mul_ediv_cancel_left _ h0]
    push_cast
    grind
  · unfold downI
    show ((v.y / v.g : Int) : Rat) = _
    generalize v.g = g at *
    rw [hb, Int.mul_ediv_cancel_left _ h0]
    push_cast
    grind
  · unfold downI
    show ((v.z / v.g : Int) : Rat) = _
    generalize v.g = g at *
    rw [hc, Int.mul_ediv_cancel_left _ h0]
    push_cast
    grind

theorem down_down {v : I3} (h : v.nz) : downI (downI v) = downI v := by
  obtain ⟨t, ht, h1, h2, h3⟩ := down_times h
  exact down_mult t ht h1 h2 h3 (down_nz h) h

theorem Desc.down {v : I3} {d : Nat} (h : Desc v d) : Desc (downI v) 1 := ⟨down_bd h.bd h.nz, down_nz h.nz, by omega, by omega⟩

/-- A vector of texts. -/
def vt (v : V3) : Value := .agg #[.string (canonR v.x), .string (canonR v.y), .string (canonR v.z)]

def octR (v : I3) : Int := octI v.x v.y
def flatI (v : I3) : Int := v.x * v.x + v.y * v.y
def noB (v : I3) : Bool := v.x == 0 && v.y == 0
def eqI (u v : I3) : Bool := u.x == v.x && (u.y == v.y && u.z == v.z)
theorem eqI_iff (u v : I3) : eqI u v = true ↔ u = v := by
  cases u; cases v
  simp [eqI]

theorem noB_ne {v : I3} (h : noB v = false) : ¬ (v.x = 0 ∧ v.y = 0) := fun ⟨h1, h2⟩ => by
  unfold noB at h
  rw [h1, h2] at h
  cases h

theorem octS_scale (s : Rat) (hs : 0 < s) (x y : Int) (hn : ¬ (x = 0 ∧ y = 0)) : octS (s * (x : Rat)).num (s * (y : Rat)).num = octI x y := by
  have sx := sgn_scale s hs x
  have sy := sgn_scale s hs y
  generalize (s * (x : Rat)).num = p at *
  generalize (s * (y : Rat)).num = q at *
  have px := sign_pos_iff p
  have nx := sign_neg_iff p
  have py := sign_pos_iff q
  have ny := sign_neg_iff q
  rw [sx, sign_pos_iff] at px
  rw [sx, sign_neg_iff] at nx
  rw [sy, sign_pos_iff] at py
  rw [sy, sign_neg_iff] at ny
  clear sx sy
  unfold octS octI
  rcases Int.lt_trichotomy x 0 with hx | hx | hx <;> rcases Int.lt_trichotomy y 0 with hy | hy | hy
  all_goals first | exact absurd (And.intro hx hy) hn | skip
  all_goals
    have p1 : p < 0 ∨ p = 0 ∨ 0 < p := Int.lt_trichotomy p 0
    have q1 : q < 0 ∨ q = 0 ∨ 0 < q := Int.lt_trichotomy q 0
    repeat (first | rw [if_pos (by omega)] | rw [if_neg (by omega)])

theorem ne_of_pos {s : Rat} (hs : 0 < s) : s ≠ 0 := fun e => by rw [e] at hs; exact absurd hs (by decide)

theorem scale_zero (s : Rat) (hs : 0 < s) (n : Int) : s * (n : Rat) = 0 ↔ n = 0 := by
  constructor
  · intro h
    rcases Rat.mul_eq_zero.1 h with h | h
    · exact absurd h (ne_of_pos hs)
    · exact_mod_cast h
  · intro h
    rw [h]
    exact Rat.mul_zero _

theorem nzB_scale (s : Rat) (hs : 0 < s) (x y : Int) : nzB (s * (x : Rat)) (s * (y : Rat)) = !(x == 0 && y == 0) := by
  have one : ∀ n : Int, decide (s * (n : Rat) = 0) = (n == 0) := fun n => by
    by_cases h : n = 0
    · rw [decide_eq_true ((scale_zero s hs n).2 h), beq_iff_eq.2 h]
    · rw [decide_eq_false (fun e => h ((scale_zero s hs n).1 e)), beq_eq_false_iff_ne.2 h]
  unfold nzB
  rw [one, one]

theorem Desc.bear {a : I3} {d : Nat} (ha : Desc a d) : ∃ s : Rat, 0 < s ∧ bearR (ofI a d) = (s * ((downI a).x : Rat), s * ((downI a).y : Rat)) := by
  rw [ofI_eq]
  exact bear_mult a (unitR d) (unitR_pos ha.d0) ha.nz

theorem Desc.flat (a : I3) (d : Nat) : flatR (ofI a d) = unitR d * unitR d * ((flatI a : Int) : Rat) := by
  rw [ofI_eq]
  unfold flatR flatI
  push_cast
  grind

theorem Desc.flat0 {a : I3} {d : Nat} (ha : Desc a d) : flatR (ofI a d) = 0 ↔ flatI a = 0 := by
  rw [Desc.flat]
  exact scale_zero _ (unit2_pos ha.d0 ha.d0) _

theorem flat_nonneg (a : I3) : 0 ≤ flatI a := by
  unfold flatI
  have h1 : 0 ≤ a.x * a.x := by rcases Int.le_total 0 a.x with h | h; exact Int.mul_nonneg h h; exact Int.mul_nonneg_of_nonpos_of_nonpos h h
  have h2 : 0 ≤ a.y * a.y := by rcases Int.le_total 0 a.y with h | h; exact Int.mul_nonneg h h; exact Int.mul_nonneg_of_nonpos_of_nonpos h h
  omega

theorem Desc.plunge {a : I3} {d : Nat} (ha : Desc a d) (hf : flatI a ≠ 0) : (ofI a d).z * (ofI a d).z / flatR (ofI a d) = rdiv2 (a.z * a.z) (flatI a) := by
  rw [rdiv2_eq _ _ hf, Desc.flat, ofI_eq]
  have h1 := ne_of_pos (unitR_pos ha.d0)
  have h2 := cast_ne hf
  generalize unitR d = s at *
  generalize flatI a = f at *
  push_cast
  grind

theorem Desc.cplunge {a b : I3} {d e : Nat} (ha : Desc a d) (hb : Desc b e) :
    ((ofI a d).z * (ofI a d).z * flatR (ofI b e) - (ofI b e).z * (ofI b e).z * flatR (ofI a d)).num.sign = (a.z * a.z * flatI b - b.z * b.z * flatI a).sign := by
  rw [Desc.flat, Desc.flat]
  have e1 : (ofI a d).z * (ofI a d).z * (unitR e * unitR e * ((flatI b : Int) : Rat)) - (ofI b e).z * (ofI b e).z * (unitR d * unitR d * ((flatI a : Int) : Rat)) = (unitR d * unitR d) * (unitR e * unitR e) * ((a.z * a.z * flatI b - b.z * b.z * flatI a : Int) : Rat) := by
    rw [ofI_eq, ofI_eq]
    push_cast
    grind
  rw [e1, sgn_scale _ (Rat.mul_pos (unit2_pos ha.d0 ha.d0) (unit2_pos hb.d0 hb.d0))]

/-- The order of two bearings in ints. -/
def bearI (u v : I3) : Int := cmpT (octI u.x u.y) (octI v.x v.y) (u.x * v.y - u.y * v.x).sign

theorem Desc.strike (a : I3) (d : Nat) : strikeR (ofI a d) = ofI ⟨-a.y, a.x, 0⟩ d := by
  unfold strikeR ofI
  simp only
  rw [Rat.neg_mkRat]
  congr 1
  exact (Rat.zero_mkRat d).symm

theorem dot_zero {a b : I3} {d e : Nat} (ha : Desc a d) (hb : Desc b e) : dotR (ofI a d) (ofI b e) = 0 ↔ dotI a b = 0 := by
  rw [dot_ofI]
  exact scale_zero _ (unit2_pos ha.d0 hb.d0) _

theorem cross_zero {a b : I3} {d e : Nat} (ha : Desc a d) (hb : Desc b e) : ((crossR (ofI a d) (ofI b e)).x = 0 ↔ (crossI a b).x = 0) ∧ ((crossR (ofI a d) (ofI b e)).y = 0 ↔ (crossI a b).y = 0) ∧ ((crossR (ofI a d) (ofI b e)).z = 0 ↔ (crossI a b).z = 0) := by
  rw [cross_ofI]
  have h := unit2_pos ha.d0 hb.d0
  exact ⟨scale_zero _ h _, scale_zero _ h _, scale_zero _ h _⟩

theorem same_eq {a b : I3} {d e : Nat} (ha : Desc a d) (hb : Desc b e) : (decide ((crossR (ofI a d) (ofI b e)).x = 0) && (decide ((crossR (ofI a d) (ofI b e)).y = 0) && decide ((crossR (ofI a d) (ofI b e)).z = 0))) = eqI (downI a) (downI b) := by
  obtain ⟨h1, h2, h3⟩ := cross_zero ha hb
  rw [Bool.eq_iff_iff, eqI_iff]
  simp only [Bool.and_eq_true, decide_eq_true_eq, h1, h2, h3]
  constructor
  · intro h
    exact down_of_cross_zero (fun hn => hn h) ha.nz hb.nz
  · intro h
    have := cross_zero_of_down h ha.nz hb.nz
    exact Classical.byContradiction this

theorem mul_in2 {x y : Int} {N M : Int} (hx : -N ≤ x ∧ x ≤ N) (hy : -M ≤ y ∧ y ≤ M) (hN : 0 ≤ N) (hM : 0 ≤ M) : -(N * M) ≤ x * y ∧ x * y ≤ N * M := by
  have h1 : (x * y).natAbs ≤ N.natAbs * M.natAbs := by
    rw [Int.natAbs_mul]
    exact Nat.mul_le_mul (by omega) (by omega)
  have h2 : ((N.natAbs * M.natAbs : Nat) : Int) = N * M := by
    rw [Int.natCast_mul, Int.natAbs_of_nonneg hN, Int.natAbs_of_nonneg hM]
  generalize N * M = K at *
  generalize x * y = p at *
  omega

theorem cross_bd {a b : I3} (ha : Bd a 20) (hb : Bd b 20) : Bd (crossI a b) 800 := by
  obtain ⟨a1, a2, a3⟩ := ha
  obtain ⟨b1, b2, b3⟩ := hb
  have m := fun (x y : Int) (hx : -20 ≤ x ∧ x ≤ 20) (hy : -20 ≤ y ∧ y ≤ 20) => mul_in2 hx hy (by omega) (by omega)
  have m1 := m _ _ a2 b3
  have m2 := m _ _ a3 b2
  have m3 := m _ _ a3 b1
  have m4 := m _ _ a1 b3
  have m5 := m _ _ a1 b2
  have m6 := m _ _ a2 b1
  unfold crossI Bd
  simp only
  refine ⟨by omega, by omega, by omega⟩

theorem dot_bd {a b : I3} (ha : Bd a 20) (hb : Bd b 20) : -1200 ≤ dotI a b ∧ dotI a b ≤ 1200 := by
  obtain ⟨a1, a2, a3⟩ := ha
  obtain ⟨b1, b2, b3⟩ := hb
  have m := fun (x y : Int) (hx : -20 ≤ x ∧ x ≤ 20) (hy : -20 ≤ y ∧ y ≤ 20) => mul_in2 hx hy (by omega) (by omega)
  have m1 := m _ _ a1 b1
  have m2 := m _ _ a2 b2
  have m3 := m _ _ a3 b3
  unfold dotI
  omega

theorem dcross_down {a b : I3} {d e : Nat} (ha : Desc a d) (hb : Desc b e) (hc : (crossI a b).nz) : downR (crossR (ofI a d) (ofI b e)) = (downI (crossI a b)).rat := by
  rw [cross_ofI]
  exact down_eq (crossI a b) _ (unit2_pos ha.d0 hb.d0) hc

theorem cross_nz {a b : I3} {d e : Nat} (ha : Desc a d) (hb : Desc b e) : (crossR (ofI a d) (ofI b e)).zero ↔ ¬ (crossI a b).nz := by
  obtain ⟨h1, h2, h3⟩ := cross_zero ha hb
  unfold V3.zero I3.nz
  rw [h1, h2, h3]
  exact ⟨fun h hn => hn h, fun h => Classical.byContradiction h⟩

theorem strike_no (a : I3) {d : Nat} (hd : 0 < d) : (decide (-(ofI a d).y = 0) && (decide ((ofI a d).x = 0) && decide ((0 : Rat) = 0))) = noB a := by
  have z : ∀ n : Int, mkRat n d = 0 ↔ n = 0 := fun n => Rat.mkRat_eq_zero (by omega)
  rw [Bool.eq_iff_iff]
  unfold noB ofI
  simp only [Bool.and_eq_true, decide_eq_true_eq, beq_iff_eq, z]
  have hn : -mkRat a.y d = 0 ↔ a.y = 0 := by rw [← z a.y]; constructor <;> intro h <;> grind
  rw [hn]
  exact ⟨fun ⟨h1, h2, _⟩ => ⟨h2, h1⟩, fun ⟨h1, h2⟩ => ⟨h2, h1, trivial⟩⟩

section
variable {a b : I3} {d e : Nat} (ha : Desc a d) (hb : Desc b e) (w : World) (he : Env w)
include ha he

theorem tof : Calls Tryz.prog 18 #[.agg #[.string (canonR (ofI a d).x), .string (canonR (ofI a d).y), .string (canonR (ofI a d).z)]] w fun e w' => e = .returned (.tuple #[.agg #[.string (canonR (downI a).rat.x), .string (canonR (downI a).rat.y), .string (canonR (downI a).rat.z)], .int .i64 0]) ∧ Below w.heap.size w w' := by
  have := dof (N := 2) (by omega) (by omega) ha.dir (divG_pos _ ha.nzR) (by rw [ha.downR]; exact ha.downSz.mono (by omega)) w he
  rw [ha.downR] at this
  exact this

theorem ttrend_none (hn : noB (downI a) = true) : Calls Tryz.prog 31 #[.agg #[.string (canonR (ofI a d).x), .string (canonR (ofI a d).y), .string (canonR (ofI a d).z)]] w fun e w' => e = .returned (.tuple #[.int .i64 0, .int .i64 19]) ∧ Below w.heap.size w w' := by
  obtain ⟨s, hs, hb⟩ := ha.bear
  refine dtrend_none (N := 2) (by omega) (by omega) ha.dir ?_ w he
  rw [hb]
  show nzB (s * ((downI a).x : Rat)) (s * ((downI a).y : Rat)) = false
  rw [nzB_scale s hs]
  unfold noB at hn
  rw [hn]
  rfl

theorem ttrend_ok (hn : noB (downI a) = false) : Calls Tryz.prog 31 #[.agg #[.string (canonR (ofI a d).x), .string (canonR (ofI a d).y), .string (canonR (ofI a d).z)]] w fun e w' => e = .returned (.tuple #[.int .i64 (octI (downI a).x (downI a).y), .int .i64 0]) ∧ Below w.heap.size w w' := by
  obtain ⟨s, hs, hb⟩ := ha.bear
  have := dtrend_ok (N := 2) (by omega) (by omega) ha.dir (by rw [hb]; show nzB (s * ((downI a).x : Rat)) (s * ((downI a).y : Rat)) = true; rw [nzB_scale s hs]; unfold noB at hn; rw [hn]; rfl) w he
  rw [hb] at this
  have e := octS_scale s hs (downI a).x (downI a).y (noB_ne hn)
  simp only at this
  rw [e] at this
  exact this

theorem tplunge_vert (hf : flatI a = 0) : Calls Tryz.prog 35 #[.agg #[.string (canonR (ofI a d).x), .string (canonR (ofI a d).y), .string (canonR (ofI a d).z)]] w fun e w' => e = .returned (.tuple #[.string ⟨#[]⟩, .bool true, .int .i64 0]) ∧ Below w.heap.size w w' :=
  dplunge_vert (N := 2) (by omega) (by omega) ha.dir (ha.flat0.2 hf) w he

theorem tplunge_ok (hf : flatI a ≠ 0) : Calls Tryz.prog 35 #[.agg #[.string (canonR (ofI a d).x), .string (canonR (ofI a d).y), .string (canonR (ofI a d).z)]] w fun e w' => e = .returned (.tuple #[.string (canonR (rdiv2 (a.z * a.z) (flatI a))), .bool false, .int .i64 0]) ∧ Below w.heap.size w w' := by
  have := dplunge_ok (N := 2) (by omega) (by omega) ha.dir (fun h => hf (ha.flat0.1 h)) w he
  rw [ha.plunge hf] at this
  exact this

include hb

theorem tsame : Calls Tryz.prog 19 #[.agg #[.string (canonR (ofI a d).x), .string (canonR (ofI a d).y), .string (canonR (ofI a d).z)], .agg #[.string (canonR (ofI b e).x), .string (canonR (ofI b e).y), .string (canonR (ofI b e).z)]] w fun e w' => e = .returned (.tuple #[.bool (eqI (downI a) (downI b)), .int .i64 0]) ∧ Below w.heap.size w w' := by
  have := dsame (N := 2) (by omega) (by omega) ha.dir hb.dir w he
  rw [same_eq ha hb] at this
  exact this

theorem tctrend_none1 (hn : noB (downI a) = true) : Calls Tryz.prog 32 #[.agg #[.string (canonR (ofI a d).x), .string (canonR (ofI a d).y), .string (canonR (ofI a d).z)], .agg #[.string (canonR (ofI b e).x), .string (canonR (ofI b e).y), .string (canonR (ofI b e).z)]] w fun e w' => e = .returned (.tuple #[.int .i64 0, .int .i64 19]) ∧ Below w.heap.size w w' := by
  obtain ⟨s, hs, hc⟩ := ha.bear
  refine dctrend_none1 (N := 2) (by omega) (by omega) ha.dir hb.dir ?_ w he
  rw [hc]
  show nzB (s * ((downI a).x : Rat)) (s * ((downI a).y : Rat)) = false
  rw [nzB_scale s hs]
  unfold noB at hn
  rw [hn]
  rfl

theorem tctrend_none2 (hn : noB (downI a) = false) (hm : noB (downI b) = true) : Calls Tryz.prog 32 #[.agg #[.string (canonR (ofI a d).x), .string (canonR (ofI a d).y), .string (canonR (ofI a d).z)], .agg #[.string (canonR (ofI b e).x), .string (canonR (ofI b e).y), .string (canonR (ofI b e).z)]] w fun e w' => e = .returned (.tuple #[.int .i64 0, .int .i64 19]) ∧ Below w.heap.size w w' := by
  obtain ⟨s, hs, hc⟩ := ha.bear
  obtain ⟨t, ht, hd⟩ := hb.bear
  refine dctrend_none2 (N := 2) (by omega) (by omega) ha.dir hb.dir ?_ ?_ w he
  · rw [hc]
    show nzB (s * ((downI a).x : Rat)) (s * ((downI a).y : Rat)) = true
    rw [nzB_scale s hs]
    unfold noB at hn
    rw [hn]
    rfl
  · rw [hd]
    show nzB (t * ((downI b).x : Rat)) (t * ((downI b).y : Rat)) = false
    rw [nzB_scale t ht]
    unfold noB at hm
    rw [hm]
    rfl

theorem tctrend_ok (hn : noB (downI a) = false) (hm : noB (downI b) = false) : Calls Tryz.prog 32 #[.agg #[.string (canonR (ofI a d).x), .string (canonR (ofI a d).y), .string (canonR (ofI a d).z)], .agg #[.string (canonR (ofI b e).x), .string (canonR (ofI b e).y), .string (canonR (ofI b e).z)]] w fun e w' => e = .returned (.tuple #[.int .i64 (bearI (downI a) (downI b)), .int .i64 0]) ∧ Below w.heap.size w w' := by
  obtain ⟨s, hs, hc⟩ := ha.bear
  obtain ⟨t, ht, hd⟩ := hb.bear
  have := dctrend_ok (N := 2) (by omega) (by omega) ha.dir hb.dir
    (by rw [hc]; show nzB (s * ((downI a).x : Rat)) (s * ((downI a).y : Rat)) = true; rw [nzB_scale s hs]; unfold noB at hn; rw [hn]; rfl)
    (by rw [hd]; show nzB (t * ((downI b).x : Rat)) (t * ((downI b).y : Rat)) = true; rw [nzB_scale t ht]; unfold noB at hm; rw [hm]; rfl) w he
  rw [hc, hd] at this
  have e1 := octS_scale s hs (downI a).x (downI a).y (noB_ne hn)
  have e2 := octS_scale t ht (downI b).x (downI b).y (noB_ne hm)
  have e3 : (s * ((downI a).x : Rat)) * (t * ((downI b).y : Rat)) - (s * ((downI a).y : Rat)) * (t * ((downI b).x : Rat)) = s * t * (((downI a).x * (downI b).y - (downI a).y * (downI b).x : Int) : Rat) := by
    push_cast
    grind
  simp only at this
  rw [e1, e2, e3, sgn_scale _ (Rat.mul_pos hs ht)] at this
  exact this

theorem tcplunge : Calls Tryz.prog 36 #[.agg #[.string (canonR (ofI a d).x), .string (canonR (ofI a d).y), .string (canonR (ofI a d).z)], .agg #[.string (canonR (ofI b e).x), .string (canonR (ofI b e).y), .string (canonR (ofI b e).z)]] w fun e w' => e = .returned (.tuple #[.int .i64 (a.z * a.z * flatI b - b.z * b.z * flatI a).sign, .int .i64 0]) ∧ Below w.heap.size w w' := by
  have := dcplunge (N := 2) (by omega) (by omega) ha.dir hb.dir w he
  rw [Desc.cplunge ha hb] at this
  exact this

omit w he in
theorem dotn : dotR (ofI a d) (ofI a d) ≠ 0 ∧ dotR (ofI b e) (ofI b e) ≠ 0 := by
  have pa := dot_self_pos ha.nz
  have pb := dot_self_pos hb.nz
  exact ⟨fun h => by have := (dot_zero ha ha).1 h; omega, fun h => by have := (dot_zero hb hb).1 h; omega⟩

theorem tangle : Calls Tryz.prog 27 #[.agg #[.string (canonR (ofI a d).x), .string (canonR (ofI a d).y), .string (canonR (ofI a d).z)], .agg #[.string (canonR (ofI b e).x), .string (canonR (ofI b e).y), .string (canonR (ofI b e).z)]] w fun e w' => e = .returned (.tuple #[.string (canonR (rdiv2 (dotI a b * dotI a b) (dotI a a * dotI b b))), .int .i64 0]) ∧ Below w.heap.size w w' := by
  obtain ⟨n1, n2⟩ := dotn ha hb
  have := dangle (N := 2) (by omega) (by omega) (by omega) ha.dir hb.dir n1 n2 w he
  rw [angle_ofI a b d e ha.d0 hb.d0 ha.nz hb.nz] at this
  exact this

theorem tlies : Calls Tryz.prog 22 #[.agg #[.string (canonR (ofI a d).x), .string (canonR (ofI a d).y), .string (canonR (ofI a d).z)], .agg #[.string (canonR (ofI b e).x), .string (canonR (ofI b e).y), .string (canonR (ofI b e).z)]] w fun e w' => e = .returned (.tuple #[.bool (dotI a b == 0), .int .i64 0]) ∧ Below w.heap.size w w' := by
  have := dlies (N := 2) (by omega) (by omega) ha.dir hb.dir w he
  rw [show decide (dotR (ofI a d) (ofI b e) = 0) = (dotI a b == 0) by rw [Bool.eq_iff_iff, decide_eq_true_eq, beq_iff_eq]; exact dot_zero ha hb] at this
  exact this

theorem tisect_dep (hz : ¬ (crossI a b).nz) : Calls Tryz.prog 23 #[.agg #[.string (canonR (ofI a d).x), .string (canonR (ofI a d).y), .string (canonR (ofI a d).z)], .agg #[.string (canonR (ofI b e).x), .string (canonR (ofI b e).y), .string (canonR (ofI b e).z)]] w fun e w' => e = .returned (.tuple #[.agg #[.string ⟨#[]⟩, .string ⟨#[]⟩, .string ⟨#[]⟩], .int .i64 18]) ∧ Below w.heap.size w w' :=
  disect_dep (N := 2) (by omega) (by omega) ha.dir hb.dir ((cross_nz ha hb).2 hz) w he

theorem tisect_ok (hz : (crossI a b).nz) : Calls Tryz.prog 23 #[.agg #[.string (canonR (ofI a d).x), .string (canonR (ofI a d).y), .string (canonR (ofI a d).z)], .agg #[.string (canonR (ofI b e).x), .string (canonR (ofI b e).y), .string (canonR (ofI b e).z)]] w fun e w' => e = .returned (.tuple #[.agg #[.string (canonR (downI (crossI a b)).rat.x), .string (canonR (downI (crossI a b)).rat.y), .string (canonR (downI (crossI a b)).rat.z)], .int .i64 0]) ∧ Below w.heap.size w w' := by
  have hc : ¬ (crossR (ofI a d) (ofI b e)).zero := fun h => (cross_nz ha hb).1 h hz
  have hs : Sz3 (downI (crossI a b)).rat 3 := rat_sz (down_bd (cross_bd ha.bd hb.bd) hz) 3 (by omega) (by omega)
  have := disect_ok (N := 2) (by omega) (by omega) ha.dir hb.dir hc (divG_pos _ hc) (by rw [dcross_down ha hb hz]; exact hs.mono (by omega)) w he
  rw [dcross_down ha hb hz] at this
  exact this

theorem tpitch_none (hn : noB a = true) : Calls Tryz.prog 24 #[.agg #[.string (canonR (ofI a d).x), .string (canonR (ofI a d).y), .string (canonR (ofI a d).z)], .agg #[.string (canonR (ofI b e).x), .string (canonR (ofI b e).y), .string (canonR (ofI b e).z)]] w fun e w' => e = .returned (.tuple #[.string ⟨#[]⟩, .int .i64 19]) ∧ Below w.heap.size w w' :=
  dpitch_none (N := 2) (by omega) (by omega) ha.dir hb.dir ((strike_no a ha.d0).trans hn) w he

theorem tpitch_form (hn : noB a = false) (hd : dotI a b ≠ 0) : Calls Tryz.prog 24 #[.agg #[.string (canonR (ofI a d).x), .string (canonR (ofI a d).y), .string (canonR (ofI a d).z)], .agg #[.string (canonR (ofI b e).x), .string (canonR (ofI b e).y), .string (canonR (ofI b e).z)]] w fun e w' => e = .returned (.tuple #[.string ⟨#[]⟩, .int .i64 7]) ∧ Below w.heap.size w w' :=
  dpitch_form (N := 2) (by omega) (by omega) ha.dir hb.dir ((strike_no a ha.d0).trans hn) (fun h => hd ((dot_zero ha hb).1 h)) w he

theorem tpitch_ok (hn : noB a = false) (hd : dotI a b = 0) : Calls Tryz.prog 24 #[.agg #[.string (canonR (ofI a d).x), .string (canonR (ofI a d).y), .string (canonR (ofI a d).z)], .agg #[.string (canonR (ofI b e).x), .string (canonR (ofI b e).y), .string (canonR (ofI b e).z)]] w fun e w' => e = .returned (.tuple #[.string (canonR (rdiv2 (dotI ⟨-a.y, a.x, 0⟩ b * dotI ⟨-a.y, a.x, 0⟩ b) (dotI ⟨-a.y, a.x, 0⟩ ⟨-a.y, a.x, 0⟩ * dotI b b))), .int .i64 0]) ∧ Below w.heap.size w w' := by
  have hs : Desc ⟨-a.y, a.x, 0⟩ d := by
    obtain ⟨b1, b2, b3⟩ := ha.bd
    refine ⟨⟨⟨by show -20 ≤ -a.y; omega, by show -a.y ≤ 20; omega⟩, b1, ⟨by show -20 ≤ (0 : Int); omega, by show (0 : Int) ≤ 20; omega⟩⟩, fun ⟨h1, h2, _⟩ => ?_, ha.d0, ha.d3⟩
    have h1' : a.y = 0 := by have : -a.y = 0 := h1; omega
    have h2' : a.x = 0 := h2
    unfold noB at hn
    rw [h1', h2'] at hn
    cases hn
  obtain ⟨n1, n2⟩ := dotn hs hb
  rw [← angle_ofI ⟨-a.y, a.x, 0⟩ b d e hs.d0 hb.d0 hs.nz hb.nz, ← Desc.strike]
  exact dpitch_ok (N := 2) (by omega) (by omega) ha.dir hb.dir ((strike_no a ha.d0).trans hn) ((dot_zero ha hb).2 hd) (by rw [Desc.strike]; exact n1) n2 w he

theorem tinter : Calls Tryz.prog 15 #[.agg #[.string (canonR (ofI a d).x), .string (canonR (ofI a d).y), .string (canonR (ofI a d).z)], .agg #[.string (canonR (ofI b e).x), .string (canonR (ofI b e).y), .string (canonR (ofI b e).z)]] w fun e w' => e = .returned (.tuple #[.int .i64 (classI (dotI a b) (dotI a a * dotI b b)), .int .i64 0]) ∧ Below w.heap.size w w' := by
  obtain ⟨n1, n2⟩ := dotn ha hb
  have := dinter (N := 2) (by omega) (by omega) ha.dir hb.dir n1 n2 w he
  rw [class_ofI a b d e ha.d0 hb.d0 ha.nz hb.nz] at this
  exact this
end

theorem tcang {a b c k : I3} {d e f g : Nat} (ha : Desc a d) (hb : Desc b e) (hc : Desc c f) (hk : Desc k g) (w : World) (he : Env w) :
    Calls Tryz.prog 28 #[.agg #[.string (canonR (ofI a d).x), .string (canonR (ofI a d).y), .string (canonR (ofI a d).z), .string (canonR (ofI b e).x), .string (canonR (ofI b e).y), .string (canonR (ofI b e).z)], .agg #[.string (canonR (ofI c f).x), .string (canonR (ofI c f).y), .string (canonR (ofI c f).z), .string (canonR (ofI k g).x), .string (canonR (ofI k g).y), .string (canonR (ofI k g).z)]] w fun e w' => e = .returned (.tuple #[.int .i64 (cmpR (rdiv2 (dotI c k * dotI c k) (dotI c c * dotI k k)) (rdiv2 (dotI a b * dotI a b) (dotI a a * dotI b b))), .int .i64 0]) ∧ Below w.heap.size w w' := by
  obtain ⟨n1, n2⟩ := dotn ha hb
  obtain ⟨n3, n4⟩ := dotn hc hk
  rw [← angle_ofI a b d e ha.d0 hb.d0 ha.nz hb.nz, ← angle_ofI c k f g hc.d0 hk.d0 hc.nz hk.nz]
  exact dcang _ _ _ _ 2 (by omega) (by omega) ha.dir hb.dir hc.dir hk.dir n1 n2 n3 n4 w he

end Go.Proofs.YtajkeoapfkkjbaaGreatDoor
