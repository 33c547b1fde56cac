/- LineationPlanes returns true. -/
import Derived.Test.YtajkeoapfkkjbaaGreatDoorLawLin
import Derived.Test.YtajkeoapfkkjbaaGreatDoorWPlanes
namespace Go.Proofs.YtajkeoapfkkjbaaGreatDoor
set_option linter.all false
open Go.RowKit

theorem zeroB_of {v : I3} (h : v.nz) : zeroB v = false := by
  cases e : zeroB v with
  | false => rfl
  | true => exact absurd h (zeroB_true e)
theorem zeroB_of_not {v : I3} (h : ¬ v.nz) : zeroB v = true := by
  cases e : zeroB v with
  | true => rfl
  | false => exact absurd (zeroB_false e) h
theorem strike_desc {a : I3} {d : Nat} (ha : Desc a d) (hn : noB a = false) : Desc ⟨-a.y, a.x, 0⟩ d := by
  obtain ⟨b1, b2, b3⟩ := ha.bd
  refine ⟨⟨⟨by show -20 ≤ -a.y; omega, by show -a.y ≤ 20; omega⟩, b1, ⟨by show -20 ≤ (0 : Int); omega, by show (0 : Int) ≤ 20; omega⟩⟩, fun ⟨h1, h2, _⟩ => ?_, ha.d0, ha.d3⟩
  have h1' : a.y = 0 := by have : -a.y = 0 := h1; omega
  have h2' : a.x = 0 := h2
  unfold noB at hn
  rw [h1', h2'] at hn
  cases hn

theorem planes_walk (x1 y1 z1 b1 x2 y2 z2 b2 x3 y3 z3 b3 : Int) (h1 : Sm x1 y1 z1 b1) (h2 : Sm x2 y2 z2 b2) (h3 : Sm x3 y3 z3 b3) (w : World) (he : Env w) :
    Calls Tryz.prog 5 #[.agg #[.int .i8 x1, .int .i8 y1, .int .i8 z1, .int .u8 b1], .agg #[.int .i8 x2, .int .i8 y2, .int .i8 z2, .int .u8 b2], .agg #[.int .i8 x3, .int .i8 y3, .int .i8 z3, .int .u8 b3]] w fun e w' => e = .returned (.bool true) ∧ Below w.heap.size w w' := by
  cases e1 : zeroB (smI x1 y1 z1) with
  | true => exact planes_z1 _ _ _ _ _ _ _ _ _ _ _ _ _ _ _ w (fun W hW => known16 W (he.below hW)) (fun W _ => jints h1 W) (fun W _ => jzero (smI x1 y1 z1) e1 W)
  | false =>
  cases e2 : zeroB (smI x2 y2 z2) with
  | true => exact planes_z2 _ _ _ _ _ _ _ _ _ _ _ _ _ _ _ _ _ _ w (fun W hW => known16 W (he.below hW)) (fun W _ => jints h1 W) (fun W _ => jzero (smI x1 y1 z1) e1 W) (fun W _ => jints h2 W) (fun W _ => jzero (smI x2 y2 z2) e2 W)
  | false =>
  cases e3 : zeroB (smI x3 y3 z3) with
  | true => exact planes_z3 _ _ _ _ _ _ _ _ _ _ _ _ _ _ _ _ _ _ _ _ _ w (fun W hW => known16 W (he.below hW)) (fun W _ => jints h1 W) (fun W _ => jzero (smI x1 y1 z1) e1 W) (fun W _ => jints h2 W) (fun W _ => jzero (smI x2 y2 z2) e2 W) (fun W _ => jints h3 W) (fun W _ => jzero (smI x3 y3 z3) e3 W)
  | false =>
  have D1 := Desc.small (b := b1) (zeroB_false e1)
  have D2 := Desc.small (b := b2) (zeroB_false e2)
  have D3 := Desc.small (b := b3) (zeroB_false e3)
  have i1 := fun W (_ : Below w.heap.size w W) => jints h1 W
  have s1 := fun W (_ : Below w.heap.size w W) => jzero (smI x1 y1 z1) e1 W
  have m1 := fun W (hW : Below w.heap.size w W) => jmake h1 W (he.below hW)
  have i2 := fun W (_ : Below w.heap.size w W) => jints h2 W
  have s2 := fun W (_ : Below w.heap.size w W) => jzero (smI x2 y2 z2) e2 W
  have m2 := fun W (hW : Below w.heap.size w W) => jmake h2 W (he.below hW)
  have i3 := fun W (_ : Below w.heap.size w W) => jints h3 W
  have s3 := fun W (_ : Below w.heap.size w W) => jzero (smI x3 y3 z3) e3 W
  have m3 := fun W (hW : Below w.heap.size w W) => jmake h3 W (he.below hW)
  clear e1 e2 e3
  generalize smI x1 y1 z1 = a at *
  generalize smI x2 y2 z2 = b at *
  generalize smI x3 y3 z3 = l at *
  cases n1 : noB a with
  | true =>
    have hz1 : a.x = 0 ∧ a.y = 0 := by
      unfold noB at n1
      simp only [Bool.and_eq_true, beq_iff_eq] at n1
      exact n1
    have o3 := (fun W (hW : Below w.heap.size w W) => tpitch_none D1 D3 W (he.below hW) n1)
    by_cases hz : (crossI a b).nz
    · exact planes_ok _ _ _ _ _ _ _ _ _ _ _ _ _ _ _ b.x b.y b.z l.x l.y l.z _ _ _ (downI (crossI a b)).x (downI (crossI a b)).y (downI (crossI a b)).z (dotI a l) 0 0 19 0 0 _ _ _ _ _ _ _ _ _ (canonR (downI (crossI a b)).rat.x) (canonR (downI (crossI a b)).rat.y) (canonR (downI (crossI a b)).rat.z) ⟨#[]⟩ _ w rfl (.inr ⟨rfl, fun W _ => jzero _ (zeroB_of hz) W, fun W _ => mdown (crossI a b) ((cross_bd D1.bd D2.bd).mono (by omega)) hz W, fun W hW => mof (downI (crossI a b)) ((down_bd (cross_bd D1.bd D2.bd) hz).mono (by omega)) W (he.below hW)⟩) (.inl ⟨hz1.1, hz1.2, rfl, rfl⟩) (fun W hW => known16 W (he.below hW)) i1 s1 i2 s2 i3 s3 m1 m2 m3 (fun W hW => tlies D1 D3 W (he.below hW)) (fun W hW => tisect_ok D1 D2 W (he.below hW) hz) o3 (fun W _ => jdot D1 D3 W) (fun W _ => jcross D1 D2 W)
    · exact planes_ok _ _ _ _ _ _ _ _ _ _ _ _ _ _ _ b.x b.y b.z l.x l.y l.z _ _ _ 0 0 0 (dotI a l) 18 0 19 0 0 _ _ _ _ _ _ _ _ _ ⟨#[]⟩ ⟨#[]⟩ ⟨#[]⟩ ⟨#[]⟩ _ w rfl (.inl ⟨rfl, rfl, rfl, rfl, fun W _ => jzero _ (zeroB_of_not hz) W⟩) (.inl ⟨hz1.1, hz1.2, rfl, rfl⟩) (fun W hW => known16 W (he.below hW)) i1 s1 i2 s2 i3 s3 m1 m2 m3 (fun W hW => tlies D1 D3 W (he.below hW)) (fun W hW => tisect_dep D1 D2 W (he.below hW) hz) o3 (fun W _ => jdot D1 D3 W) (fun W _ => jcross D1 D2 W)
  | false =>
    by_cases hd : dotI a l = 0
    · have ds := strike_desc D1 n1
      have df := dot_bd ds.bd D3.bd
      have dg := dd_bd ds.bd
      have dh := dd_bd D3.bd
      have pg := dot_self_pos ds.nz
      have ph := dot_self_pos D3.nz
      have hff := mul_in2 df df (by omega) (by omega)
      have hgh := mul_pp dg dh
      have hn : dotI ⟨-a.y, a.x, 0⟩ ⟨-a.y, a.x, 0⟩ * dotI l l ≠ 0 := fun h => by rcases Int.mul_eq_zero.1 h with h | h <;> omega
      have hyb := D1.bd.2.1
      have qu := fun W (hW : Below w.heap.size w W) => mquot (dotI ⟨-a.y, a.x, 0⟩ l * dotI ⟨-a.y, a.x, 0⟩ l) (dotI ⟨-a.y, a.x, 0⟩ ⟨-a.y, a.x, 0⟩ * dotI l l) hn (by omega) (by omega) (by omega) (by omega) W (he.below hW)
      have o3 := (fun W (hW : Below w.heap.size w W) => tpitch_ok D1 D3 W (he.below hW) n1 hd)
      by_cases hz : (crossI a b).nz
      · exact planes_ok _ _ _ _ _ _ _ _ _ _ _ _ _ _ _ b.x b.y b.z l.x l.y l.z _ _ _ (downI (crossI a b)).x (downI (crossI a b)).y (downI (crossI a b)).z (dotI a l) 0 (dotI ⟨-a.y, a.x, 0⟩ l) 0 (dotI l l) (dotI ⟨-a.y, a.x, 0⟩ ⟨-a.y, a.x, 0⟩) _ _ _ _ _ _ _ _ _ (canonR (downI (crossI a b)).rat.x) (canonR (downI (crossI a b)).rat.y) (canonR (downI (crossI a b)).rat.z) _ _ w rfl (.inr ⟨rfl, fun W _ => jzero _ (zeroB_of hz) W, fun W _ => mdown (crossI a b) ((cross_bd D1.bd D2.bd).mono (by omega)) hz W, fun W hW => mof (downI (crossI a b)) ((down_bd (cross_bd D1.bd D2.bd) hz).mono (by omega)) W (he.below hW)⟩) (.inr (.inr ⟨noB_cases n1, by rw [hd]; rfl, rfl, jwrap (by omega), jwrap (by omega), jwrap (by omega), fun W _ => jdot ds D3 W, fun W _ => jdot ds ds W, fun W _ => jdot D3 D3 W, qu⟩)) (fun W hW => known16 W (he.below hW)) i1 s1 i2 s2 i3 s3 m1 m2 m3 (fun W hW => tlies D1 D3 W (he.below hW)) (fun W hW => tisect_ok D1 D2 W (he.below hW) hz) o3 (fun W _ => jdot D1 D3 W) (fun W _ => jcross D1 D2 W)
      · exact planes_ok _ _ _ _ _ _ _ _ _ _ _ _ _ _ _ b.x b.y b.z l.x l.y l.z _ _ _ 0 0 0 (dotI a l) 18 (dotI ⟨-a.y, a.x, 0⟩ l) 0 (dotI l l) (dotI ⟨-a.y, a.x, 0⟩ ⟨-a.y, a.x, 0⟩) _ _ _ _ _ _ _ _ _ ⟨#[]⟩ ⟨#[]⟩ ⟨#[]⟩ _ _ w rfl (.inl ⟨rfl, rfl, rfl, rfl, fun W _ => jzero _ (zeroB_of_not hz) W⟩) (.inr (.inr ⟨noB_cases n1, by rw [hd]; rfl, rfl, jwrap (by omega), jwrap (by omega), jwrap (by omega), fun W _ => jdot ds D3 W, fun W _ => jdot ds ds W, fun W _ => jdot D3 D3 W, qu⟩)) (fun W hW => known16 W (he.below hW)) i1 s1 i2 s2 i3 s3 m1 m2 m3 (fun W hW => tlies D1 D3 W (he.below hW)) (fun W hW => tisect_dep D1 D2 W (he.below hW) hz) o3 (fun W _ => jdot D1 D3 W) (fun W _ => jcross D1 D2 W)
    · have o3 := (fun W (hW : Below w.heap.size w W) => tpitch_form D1 D3 W (he.below hW) n1 hd)
      by_cases hz : (crossI a b).nz
      · exact planes_ok _ _ _ _ _ _ _ _ _ _ _ _ _ _ _ b.x b.y b.z l.x l.y l.z _ _ _ (downI (crossI a b)).x (downI (crossI a b)).y (downI (crossI a b)).z (dotI a l) 0 0 7 0 0 _ _ _ _ _ _ _ _ _ (canonR (downI (crossI a b)).rat.x) (canonR (downI (crossI a b)).rat.y) (canonR (downI (crossI a b)).rat.z) ⟨#[]⟩ _ w rfl (.inr ⟨rfl, fun W _ => jzero _ (zeroB_of hz) W, fun W _ => mdown (crossI a b) ((cross_bd D1.bd D2.bd).mono (by omega)) hz W, fun W hW => mof (downI (crossI a b)) ((down_bd (cross_bd D1.bd D2.bd) hz).mono (by omega)) W (he.below hW)⟩) (.inr (.inl ⟨noB_cases n1, bne_iff_ne.2 hd, rfl, rfl⟩)) (fun W hW => known16 W (he.below hW)) i1 s1 i2 s2 i3 s3 m1 m2 m3 (fun W hW => tlies D1 D3 W (he.below hW)) (fun W hW => tisect_ok D1 D2 W (he.below hW) hz) o3 (fun W _ => jdot D1 D3 W) (fun W _ => jcross D1 D2 W)
      · exact planes_ok _ _ _ _ _ _ _ _ _ _ _ _ _ _ _ b.x b.y b.z l.x l.y l.z _ _ _ 0 0 0 (dotI a l) 18 0 7 0 0 _ _ _ _ _ _ _ _ _ ⟨#[]⟩ ⟨#[]⟩ ⟨#[]⟩ ⟨#[]⟩ _ w rfl (.inl ⟨rfl, rfl, rfl, rfl, fun W _ => jzero _ (zeroB_of_not hz) W⟩) (.inr (.inl ⟨noB_cases n1, bne_iff_ne.2 hd, rfl, rfl⟩)) (fun W hW => known16 W (he.below hW)) i1 s1 i2 s2 i3 s3 m1 m2 m3 (fun W hW => tlies D1 D3 W (he.below hW)) (fun W hW => tisect_dep D1 D2 W (he.below hW) hz) o3 (fun W _ => jdot D1 D3 W) (fun W _ => jcross D1 D2 W)

end Go.Proofs.YtajkeoapfkkjbaaGreatDoor
