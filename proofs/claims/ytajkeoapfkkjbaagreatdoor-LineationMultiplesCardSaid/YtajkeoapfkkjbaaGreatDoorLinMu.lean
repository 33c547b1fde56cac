/- Multiples of a described direction by halves: their downward form, trend and plunge. -/
import Derived.Test.YtajkeoapfkkjbaaGreatDoorLawLin
namespace Go.Proofs.YtajkeoapfkkjbaaGreatDoor
set_option linter.all false
open Go.RowKit

def mulI (k : Int) (a : I3) : I3 := ⟨k * a.x, k * a.y, k * a.z⟩

theorem half_mul (k n : Int) (d : Nat) : rdiv2 k 2 * mkRat n d = mkRat (k * n) (2 * d) := by
  have e : rdiv2 k 2 = mkRat k 2 := by
    unfold rdiv2
    rw [if_neg (by omega)]
    rfl
  rw [e, Rat.mkRat_mul_mkRat]

theorem mul_nz {k : Int} {a : I3} (hk : k ≠ 0) (h : a.nz) : (mulI k a).nz := fun ⟨h1, h2, h3⟩ =>
  h ⟨(Int.mul_eq_zero.1 h1).resolve_left hk, (Int.mul_eq_zero.1 h2).resolve_left hk, (Int.mul_eq_zero.1 h3).resolve_left hk⟩

theorem mul_down {k : Int} {a : I3} (hk : k ≠ 0) (h : a.nz) : downI (mulI k a) = downI a :=
  down_mult (k : Rat) (cast_ne hk) (Rat.intCast_mul ..) (Rat.intCast_mul ..) (Rat.intCast_mul ..) (mul_nz hk h) h

theorem mul_sz {k : Int} {a : I3} {d : Nat} (hk : -128 ≤ k ∧ k ≤ 127) (h : Desc a d) : Sz3 (ofI (mulI k a) (2 * d)) 4 := by
  have d0 := h.d0
  have d3 := h.d3
  have one : ∀ n : Int, -20 ≤ n ∧ n ≤ 20 → Sz (mkRat (k * n) (2 * d)) 4 := fun n hn => by
    have hb := mk_bounds (k * n) (2 * d) (by omega)
    have hm := mul_in2 (N := 128) (M := 20) (by omega : -128 ≤ k ∧ k ≤ 128) hn (by omega) (by omega)
    generalize k * n = p at *
    exact ⟨by show _ < 10000; omega, by show _ < 10000; omega⟩
  exact ⟨one _ h.bd.1, one _ h.bd.2.1, one _ h.bd.2.2⟩

theorem mul_dir {k : Int} {a : I3} {d : Nat} (h0 : k ≠ 0) (hk : -128 ≤ k ∧ k ≤ 127) (h : Desc a d) : Dir (ofI (mulI k a) (2 * d)) 4 :=
  ⟨mul_sz hk h, fun hz => ((ofI_zero _ _ (by have := h.d0; omega)).1 hz) (mul_nz h0 h.nz)⟩

theorem Dir.mono {v : V3} {N M : Nat} (h : Dir v N) (hNM : N ≤ M) : Dir v M := ⟨h.sz.mono hNM, h.nz⟩

theorem flat_mult {u v : V3} (t : Rat) (hx : u.x = t * v.x) (hy : u.y = t * v.y) : flatR u = t * t * flatR v := by
  unfold flatR
  rw [hx, hy]
  grind

theorem plunge_mult {u v : V3} (t : Rat) (ht : t ≠ 0) (hx : u.x = t * v.x) (hy : u.y = t * v.y) (hz : u.z = t * v.z) (hf : flatR v ≠ 0) : u.z * u.z / flatR u = v.z * v.z / flatR v := by
  rw [flat_mult t hx hy, hz]
  generalize flatR v = f at *
  generalize v.z = z at *
  grind

theorem mul_unit (k : Int) (a : I3) (d : Nat) : (ofI (mulI k a) (2 * d)).x = unitR (2 * d) * (k : Rat) * (a.rat).x ∧ (ofI (mulI k a) (2 * d)).y = unitR (2 * d) * (k : Rat) * (a.rat).y ∧ (ofI (mulI k a) (2 * d)).z = unitR (2 * d) * (k : Rat) * (a.rat).z := by
  rw [ofI_eq]
  unfold mulI I3.rat
  simp only [Rat.intCast_mul, Rat.mul_assoc, and_self]

theorem mul_cross (k : Int) (a : I3) : crossI a (mulI k a) = ⟨0, 0, 0⟩ := by
  unfold crossI mulI
  simp only [I3.mk.injEq]
  refine ⟨?_, ?_, ?_⟩ <;> grind

section
variable {a : I3} {d : Nat} {k : Int} (h0 : k ≠ 0) (hk : -128 ≤ k ∧ k ≤ 127) (ha : Desc a d) (w : World) (he : Env w)
include h0 hk ha he

theorem wof : Calls Tryz.prog 18 #[.agg #[.string (canonR (ofI (mulI k a) (2 * d)).x), .string (canonR (ofI (mulI k a) (2 * d)).y), .string (canonR (ofI (mulI k a) (2 * d)).z)]] w fun e w' => e = .returned (.tuple #[.agg #[.string (canonR (downI a).rat.x), .string (canonR (downI a).rat.y), .string (canonR (downI a).rat.z)], .int .i64 0]) ∧ Below w.heap.size w w' := by
  have hd := mul_dir h0 hk ha
  have e : downR (ofI (mulI k a) (2 * d)) = (downI a).rat := by rw [down_ofI _ _ (by have := ha.d0; omega) (mul_nz h0 ha.nz), mul_down h0 ha.nz]
  have := dof (N := 4) (by omega) (by omega) hd (divG_pos _ hd.nz) (by rw [e]; exact ha.downSz.mono (by omega)) w he
  rw [e] at this
  exact this

theorem wsame : Calls Tryz.prog 19 #[.agg #[.string (canonR (ofI a d).x), .string (canonR (ofI a d).y), .string (canonR (ofI a d).z)], .agg #[.string (canonR (ofI (mulI k a) (2 * d)).x), .string (canonR (ofI (mulI k a) (2 * d)).y), .string (canonR (ofI (mulI k a) (2 * d)).z)]] w fun e w' => e = .returned (.tuple #[.bool true, .int .i64 0]) ∧ Below w.heap.size w w' := by
  have hd := mul_dir h0 hk ha
  have := dsame (N := 4) (by omega) (by omega) (ha.dir.mono (by omega)) hd w he
  rw [cross_ofI, mul_cross] at this
  simp only [show (((0 : Int) : Rat)) = 0 from rfl, Rat.mul_zero] at this
  exact this

theorem wplunge : ∃ (S : ByteArray) (v : Bool), ∀ W, Below w.heap.size w W →
    (Calls Tryz.prog 35 #[.agg #[.string (canonR (ofI (mulI k a) (2 * d)).x), .string (canonR (ofI (mulI k a) (2 * d)).y), .string (canonR (ofI (mulI k a) (2 * d)).z)]] W fun e w' => e = .returned (.tuple #[.string S, .bool v, .int .i64 0]) ∧ Below W.heap.size W w') ∧
    (Calls Tryz.prog 35 #[.agg #[.string (canonR (downI a).rat.x), .string (canonR (downI a).rat.y), .string (canonR (downI a).rat.z)]] W fun e w' => e = .returned (.tuple #[.string S, .bool v, .int .i64 0]) ∧ Below W.heap.size W w') := by
  have hd := mul_dir h0 hk ha
  have hp : Dir (downI a).rat 2 := by rw [rat_ofI]; exact ha.down.dir
  obtain ⟨m1, m2, m3⟩ := mul_unit k a d
  obtain ⟨t, ht, t1, t2, t3⟩ := down_times ha.nz
  have hs : unitR (2 * d) * (k : Rat) ≠ 0 := fun h => by
    rcases Rat.mul_eq_zero.1 h with h | h
    · exact ne_of_pos (unitR_pos (by have := ha.d0; omega)) h
    · exact cast_ne h0 h
  have f1 := flat_mult _ m1 m2
  have f2 : flatR (downI a).rat = t * t * flatR a.rat := flat_mult (u := (downI a).rat) (v := a.rat) t t1 t2
  by_cases hf : flatR a.rat = 0
  · exact ⟨⟨#[]⟩, true, fun W hW => ⟨dplunge_vert (N := 4) (by omega) (by omega) hd (by rw [f1, hf, Rat.mul_zero]) W (he.below hW), dplunge_vert (N := 2) (by omega) (by omega) hp (by rw [f2, hf, Rat.mul_zero]) W (he.below hW)⟩⟩
  · have g1 : flatR (ofI (mulI k a) (2 * d)) ≠ 0 := by
      rw [f1]
      intro h
      rcases Rat.mul_eq_zero.1 h with h | h
      · rcases Rat.mul_eq_zero.1 h with h | h <;> exact hs h
      · exact hf h
    have g2 : flatR (downI a).rat ≠ 0 := by
      rw [f2]
      intro h
      rcases Rat.mul_eq_zero.1 h with h | h
      · rcases Rat.mul_eq_zero.1 h with h | h <;> exact ht h
      · exact hf h
    refine ⟨canonR (a.rat.z * a.rat.z / flatR a.rat), false, fun W hW => ?_⟩
    have p1 := dplunge_ok (N := 4) (by omega) (by omega) hd g1 W (he.below hW)
    have p2 := dplunge_ok (N := 2) (by omega) (by omega) hp g2 W (he.below hW)
    rw [plunge_mult _ hs m1 m2 m3 hf] at p1
    rw [plunge_mult (u := (downI a).rat) (v := a.rat) t ht t1 t2 t3 hf] at p2
    exact ⟨p1, p2⟩
end

theorem rmul_half {a : I3} {d : Nat} {k : Int} (h0 : k ≠ 0) (hk : -128 ≤ k ∧ k ≤ 127) (ha : Desc a d) (w : World) (he : Env w) :
    (∀ W, Below w.heap.size w W → Calls Tryz.prog 34 #[.string (canonR (rdiv2 k 2)), .string (canonR (ofI a d).x)] W fun e w' => e = .returned (.string (canonR (ofI (mulI k a) (2 * d)).x)) ∧ Below W.heap.size W w') ∧
    (∀ W, Below w.heap.size w W → Calls Tryz.prog 34 #[.string (canonR (rdiv2 k 2)), .string (canonR (ofI a d).y)] W fun e w' => e = .returned (.string (canonR (ofI (mulI k a) (2 * d)).y)) ∧ Below W.heap.size W w') ∧
    (∀ W, Below w.heap.size w W → Calls Tryz.prog 34 #[.string (canonR (rdiv2 k 2)), .string (canonR (ofI a d).z)] W fun e w' => e = .returned (.string (canonR (ofI (mulI k a) (2 * d)).z)) ∧ Below W.heap.size W w') := by
  have hs : Sz (rdiv2 k 2) 4 := by
    have := rdiv2_in k 2 3 (by omega) (by omega) (by omega)
    exact this.mono (by omega)
  have z := ha.sz.mono (show 2 ≤ 4 by omega)
  refine ⟨fun W hW => ?_, fun W hW => ?_, fun W hW => ?_⟩
  · have := rmul_any (rdiv2 k 2) (ofI a d).x 4 (by omega) (by omega) hs z.1 W (he.below hW)
    rw [show rdiv2 k 2 * (ofI a d).x = (ofI (mulI k a) (2 * d)).x from half_mul ..] at this
    exact this
  · have := rmul_any (rdiv2 k 2) (ofI a d).y 4 (by omega) (by omega) hs z.2.1 W (he.below hW)
    rw [show rdiv2 k 2 * (ofI a d).y = (ofI (mulI k a) (2 * d)).y from half_mul ..] at this
    exact this
  · have := rmul_any (rdiv2 k 2) (ofI a d).z 4 (by omega) (by omega) hs z.2.2 W (he.below hW)
    rw [show rdiv2 k 2 * (ofI a d).z = (ofI (mulI k a) (2 * d)).z from half_mul ..] at this
    exact this

end Go.Proofs.YtajkeoapfkkjbaaGreatDoor
