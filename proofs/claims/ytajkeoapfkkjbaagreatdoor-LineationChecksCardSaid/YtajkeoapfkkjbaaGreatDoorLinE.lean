/- The walk of the model's down. -/
import Derived.Test.YtajkeoapfkkjbaaGreatDoorGLinM
import Derived.Test.YtajkeoapfkkjbaaGreatDoorLinR
import Derived.BigQuiet
namespace Go.Proofs.YtajkeoapfkkjbaaGreatDoor
set_option linter.all false
open Go.RowKit

set_option maxRecDepth 100000 in
set_option maxHeartbeats 2000000 in
theorem mdown_1 (a b c h A C D : Int) (w : World)
    (g : Nat) (g0 : 0 < g) (g9 : g ≤ 2000)
    (_la : -2000 ≤ a) (_ha : a ≤ 2000) (_lb : -2000 ≤ b) (_hb : b ≤ 2000) (_lc : -2000 ≤ c) (_hc : c ≤ 2000)
    (uc : decide (c > 0) = true)
    (s1 : ∀ W, Below w.heap.size w W → Calls Tryz.prog 50 #[.int .i64 a, .int .i64 b] W fun e w' => e = .returned (.int .i64 h) ∧ Below W.heap.size W w')
    (s2 : ∀ W, Below w.heap.size w W → Calls Tryz.prog 50 #[.int .i64 h, .int .i64 c] W fun e w' => e = .returned (.int .i64 (g : Int)) ∧ Below W.heap.size W w')
    (qa : a.tdiv (g : Int) = A) (ra : -2000 ≤ A ∧ A ≤ 2000) (qb : b.tdiv (g : Int) = C) (rb : -2000 ≤ C ∧ C ≤ 2000) (qc : c.tdiv (g : Int) = D) (rc : -2000 ≤ D ∧ D ≤ 2000) :
    Calls Tryz.prog 21 #[.agg #[.int .i64 a, .int .i64 b, .int .i64 c]] w fun e w' => e = .returned (.agg #[.int .i64 (-A), .int .i64 (-C), .int .i64 (-D)]) ∧ Below w.heap.size w w' := by
  have hgn : ¬ g = 0 := by omega
  have S1 := Lib.hid s1
  have S2 := Lib.hid s2
  clear s1 s2
  have wa : IntKind.i64.wrap (-A) = -A := IntWalk.i64_in _ (by omega)
  have Qa := Lib.hid qa
  have Ra := Lib.hid wa
  have wb : IntKind.i64.wrap (-C) = -C := IntWalk.i64_in _ (by omega)
  have Qb := Lib.hid qb
  have Rb := Lib.hid wb
  have wc : IntKind.i64.wrap (-D) = -D := IntWalk.i64_in _ (by omega)
  have Qc := Lib.hid qc
  have Rc := Lib.hid wc
  clear qa qb qc wa wb wc ra rb rc
  have k0 := Blk.fresh w #[.int .i64 a, .int .i64 b, .int .i64 c] 27
  replace k0 := k0.alloc (Obj.cells #[.int .i64 0, .int .i64 0, .int .i64 0] 27)
  have k1 := Blk.fresh (w.alloc (Obj.cells #[.int .i64 a, .int .i64 b, .int .i64 c] 27)) #[.int .i64 0, .int .i64 0, .int .i64 0] 27
  rw [show (w.alloc (Obj.cells #[.int .i64 a, .int .i64 b, .int .i64 c] 27)).heap.size = w.heap.size + 1 from World.size_alloc ..] at k1
  have b0 : Below w.heap.size w ((w.alloc (Obj.cells #[.int .i64 a, .int .i64 b, .int .i64 c] 27)).alloc (Obj.cells #[.int .i64 0, .int .i64 0, .int .i64 0] 27)) := (((Below.refl _ _).alloc (Nat.le_refl _) _).alloc (by simp; try omega) _)
  have K0 := Lib.hid k0
  have K1 := Lib.hid k1
  have B := Lib.hid b0
  clear b0 k0 k1
  go_enter Tryz.func21, Tryz.ntmps21
  go_upto_region 1 with (fail)
  generalize ((w.alloc (Obj.cells #[.int .i64 a, .int .i64 b, .int .i64 c] 27)).alloc (Obj.cells #[.int .i64 0, .int .i64 0, .int .i64 0] 27)) = W0 at *
  have c00 := K0.out.at_ 0 _ rfl
  have c01 := K0.out.at_ 1 _ rfl
  have c02 := K0.out.at_ 2 _ rfl
  have c10 := K1.out.at_ 0 _ rfl
  have c11 := K1.out.at_ 1 _ rfl
  have c12 := K1.out.at_ 2 _ rfl
  have z10 := K1.out.free 0
  have z11 := K1.out.free 1
  have z12 := K1.out.free 2
  go_region_held3 (fun w' => w'.cell? ⟨w.heap.size, 0, none⟩ = some (.int .i64 a) ∧ w'.cell? ⟨w.heap.size, 1, none⟩ = some (.int .i64 b) ∧ w'.cell? ⟨w.heap.size, 2, none⟩ = some (.int .i64 c))
    (first | exact ⟨c00, c01, c02⟩ | exact ⟨(K0.out.alloc _).at_ 0 _ rfl, (K0.out.alloc _).at_ 1 _ rfl, (K0.out.alloc _).at_ 2 _ rfl⟩)
    (first
      | (go_at_call 50; (with_reducible refine (S1.out _ (Near.base (by first | exact Near.same _ | exact Near.one _) B.out)).mono ?_); rintro e wx ⟨rfl, q⟩; replace K0 := Lib.hid (K0.out.near (by first | exact Near.same _ | exact Near.one _) q); replace K1 := Lib.hid (K1.out.near (by first | exact Near.same _ | exact Near.one _) q); replace B := Lib.hid (Near.go (by first | exact Near.same _ | exact Near.one _) B.out q B.out.size); clear q; replace c00 := K0.out.at_ 0 _ rfl; replace c01 := K0.out.at_ 1 _ rfl; replace c02 := K0.out.at_ 2 _ rfl; replace c10 := K1.out.at_ 0 _ rfl; replace c11 := K1.out.at_ 1 _ rfl; replace c12 := K1.out.at_ 2 _ rfl; replace z10 := K1.out.free 0; replace z11 := K1.out.free 1; replace z12 := K1.out.free 2)
      | (go_at_call 50; (with_reducible refine (S2.out _ (Near.base (by first | exact Near.same _ | exact Near.one _) B.out)).mono ?_); rintro e wx ⟨rfl, q⟩; replace K0 := Lib.hid (K0.out.near (by first | exact Near.same _ | exact Near.one _) q); replace K1 := Lib.hid (K1.out.near (by first | exact Near.same _ | exact Near.one _) q); replace B := Lib.hid (Near.go (by first | exact Near.same _ | exact Near.one _) B.out q B.out.size); clear q; replace c00 := K0.out.at_ 0 _ rfl; replace c01 := K0.out.at_ 1 _ rfl; replace c02 := K0.out.at_ 2 _ rfl; replace c10 := K1.out.at_ 0 _ rfl; replace c11 := K1.out.at_ 1 _ rfl; replace c12 := K1.out.at_ 2 _ rfl; replace z10 := K1.out.free 0; replace z11 := K1.out.free 1; replace z12 := K1.out.free 2)
      | fail "arm")
  go_upto_region 4 with (fail)
  have qa := Qa.out
  have wa := Ra.out
  have qb := Qb.out
  have wb := Rb.out
  have qc := Qc.out
  have wc := Rc.out
  go_region_held3 (fun w' => w'.cell? ⟨w.heap.size, 0, none⟩ = some (.int .i64 a) ∧ w'.cell? ⟨w.heap.size, 1, none⟩ = some (.int .i64 b) ∧ w'.cell? ⟨w.heap.size, 2, none⟩ = some (.int .i64 c))
    (first | exact ⟨c00, c01, c02⟩ | exact ⟨(K0.out.alloc _).at_ 0 _ rfl, (K0.out.alloc _).at_ 1 _ rfl, (K0.out.alloc _).at_ 2 _ rfl⟩ | exact ⟨(K0.out.else3 (by omega) _ _ _).at_ 0 _ rfl, (K0.out.else3 (by omega) _ _ _).at_ 1 _ rfl, (K0.out.else3 (by omega) _ _ _).at_ 2 _ rfl⟩)
    (first
      | fail "arm")
  clear qa qb qc wa wb wc c00 c01 c02 c10 c11 c12 z10 z11 z12
  have R3 := K1.out.set3 (.int .i64 (-A)) (.int .i64 (-C)) (.int .i64 (-D))
  have B3 := Lib.hid (B.out.trans (below_else3 wx w.heap.size (w.heap.size + 1) (by omega) (.int .i64 (-A)) (.int .i64 (-C)) (.int .i64 (-D))))
  generalize (((wx.setCell ⟨w.heap.size + 1, 0, none⟩ (.int .i64 (-A))).setCell ⟨w.heap.size + 1, 1, none⟩ (.int .i64 (-C))).setCell ⟨w.heap.size + 1, 2, none⟩ (.int .i64 (-D))) = W3 at *
  have e0 := R3.at_ 0 _ rfl
  have e1 := R3.at_ 1 _ rfl
  have e2 := R3.at_ 2 _ rfl
  clear R3
  clear K0 K1 B
  go_wp2
  exact bodyPost_ret (v := .agg #[.int .i64 (-A), .int .i64 (-C), .int .i64 (-D)]) (by simp [results, Tryz.results21, go_sem, e0, e1, e2]) rfl ⟨rfl, B3.out.drew⟩

set_option maxRecDepth 100000 in
set_option maxHeartbeats 2000000 in
theorem mdown_2 (a b c h A C D : Int) (w : World)
    (g : Nat) (g0 : 0 < g) (g9 : g ≤ 2000)
    (_la : -2000 ≤ a) (_ha : a ≤ 2000) (_lb : -2000 ≤ b) (_hb : b ≤ 2000) (_lc : -2000 ≤ c) (_hc : c ≤ 2000)
    (uc : decide (c > 0) = false) (zc : (c == 0) = false)
    (s1 : ∀ W, Below w.heap.size w W → Calls Tryz.prog 50 #[.int .i64 a, .int .i64 b] W fun e w' => e = .returned (.int .i64 h) ∧ Below W.heap.size W w')
    (s2 : ∀ W, Below w.heap.size w W → Calls Tryz.prog 50 #[.int .i64 h, .int .i64 c] W fun e w' => e = .returned (.int .i64 (g : Int)) ∧ Below W.heap.size W w')
    (qa : a.tdiv (g : Int) = A) (ra : -2000 ≤ A ∧ A ≤ 2000) (qb : b.tdiv (g : Int) = C) (rb : -2000 ≤ C ∧ C ≤ 2000) (qc : c.tdiv (g : Int) = D) (rc : -2000 ≤ D ∧ D ≤ 2000) :
    Calls Tryz.prog 21 #[.agg #[.int .i64 a, .int .i64 b, .int .i64 c]] w fun e w' => e = .returned (.agg #[.int .i64 A, .int .i64 C, .int .i64 D]) ∧ Below w.heap.size w w' := by
  have hgn : ¬ g = 0 := by omega
  have S1 := Lib.hid s1
  have S2 := Lib.hid s2
  clear s1 s2
  have wa : IntKind.i64.wrap (A) = A := IntWalk.i64_in _ (by omega)
  have Qa := Lib.hid qa
  have Ra := Lib.hid wa
  have wb : IntKind.i64.wrap (C) = C := IntWalk.i64_in _ (by omega)
  have Qb := Lib.hid qb
  have Rb := Lib.hid wb
  have wc : IntKind.i64.wrap (D) = D := IntWalk.i64_in _ (by omega)
  have Qc := Lib.hid qc
  have Rc := Lib.hid wc
  clear qa qb qc wa wb wc ra rb rc
  have k0 := Blk.fresh w #[.int .i64 a, .int .i64 b, .int .i64 c] 27
  replace k0 := k0.alloc (Obj.cells #[.int .i64 0, .int .i64 0, .int .i64 0] 27)
  have k1 := Blk.fresh (w.alloc (Obj.cells #[.int .i64 a, .int .i64 b, .int .i64 c] 27)) #[.int .i64 0, .int .i64 0, .int .i64 0] 27
  rw [show (w.alloc (Obj.cells #[.int .i64 a, .int .i64 b, .int .i64 c] 27)).heap.size = w.heap.size + 1 from World.size_alloc ..] at k1
  have b0 : Below w.heap.size w ((w.alloc (Obj.cells #[.int .i64 a, .int .i64 b, .int .i64 c] 27)).alloc (Obj.cells #[.int .i64 0, .int .i64 0, .int .i64 0] 27)) := (((Below.refl _ _).alloc (Nat.le_refl _) _).alloc (by simp; try omega) _)
  have K0 := Lib.hid k0
  have K1 := Lib.hid k1
  have B := Lib.hid b0
  clear b0 k0 k1
  go_enter Tryz.func21, Tryz.ntmps21
  go_upto_region 1 with (fail)
  generalize ((w.alloc (Obj.cells #[.int .i64 a, .int .i64 b, .int .i64 c] 27)).alloc (Obj.cells #[.int .i64 0, .int .i64 0, .int .i64 0] 27)) = W0 at *
  have c00 := K0.out.at_ 0 _ rfl
  have c01 := K0.out.at_ 1 _ rfl
  have c02 := K0.out.at_ 2 _ rfl
  have c10 := K1.out.at_ 0 _ rfl
  have c11 := K1.out.at_ 1 _ rfl
  have c12 := K1.out.at_ 2 _ rfl
  have z10 := K1.out.free 0
  have z11 := K1.out.free 1
  have z12 := K1.out.free 2
  go_region_held3 (fun w' => w'.cell? ⟨w.heap.size, 0, none⟩ = some (.int .i64 a) ∧ w'.cell? ⟨w.heap.size, 1, none⟩ = some (.int .i64 b) ∧ w'.cell? ⟨w.heap.size, 2, none⟩ = some (.int .i64 c))
    (first | exact ⟨c00, c01, c02⟩ | exact ⟨(K0.out.alloc _).at_ 0 _ rfl, (K0.out.alloc _).at_ 1 _ rfl, (K0.out.alloc _).at_ 2 _ rfl⟩)
    (first
      | (go_at_call 50; (with_reducible refine (S1.out _ (Near.base (by first | exact Near.same _ | exact Near.one _) B.out)).mono ?_); rintro e wx ⟨rfl, q⟩; replace K0 := Lib.hid (K0.out.near (by first | exact Near.same _ | exact Near.one _) q); replace K1 := Lib.hid (K1.out.near (by first | exact Near.same _ | exact Near.one _) q); replace B := Lib.hid (Near.go (by first | exact Near.same _ | exact Near.one _) B.out q B.out.size); clear q; replace c00 := K0.out.at_ 0 _ rfl; replace c01 := K0.out.at_ 1 _ rfl; replace c02 := K0.out.at_ 2 _ rfl; replace c10 := K1.out.at_ 0 _ rfl; replace c11 := K1.out.at_ 1 _ rfl; replace c12 := K1.out.at_ 2 _ rfl; replace z10 := K1.out.free 0; replace z11 := K1.out.free 1; replace z12 := K1.out.free 2)
      | (go_at_call 50; (with_reducible refine (S2.out _ (Near.base (by first | exact Near.same _ | exact Near.one _) B.out)).mono ?_); rintro e wx ⟨rfl, q⟩; replace K0 := Lib.hid (K0.out.near (by first | exact Near.same _ | exact Near.one _) q); replace K1 := Lib.hid (K1.out.near (by first | exact Near.same _ | exact Near.one _) q); replace B := Lib.hid (Near.go (by first | exact Near.same _ | exact Near.one _) B.out q B.out.size); clear q; replace c00 := K0.out.at_ 0 _ rfl; replace c01 := K0.out.at_ 1 _ rfl; replace c02 := K0.out.at_ 2 _ rfl; replace c10 := K1.out.at_ 0 _ rfl; replace c11 := K1.out.at_ 1 _ rfl; replace c12 := K1.out.at_ 2 _ rfl; replace z10 := K1.out.free 0; replace z11 := K1.out.free 1; replace z12 := K1.out.free 2)
      | fail "arm")
  go_upto_region 4 with (fail)
  have qa := Qa.out
  have wa := Ra.out
  have qb := Qb.out
  have wb := Rb.out
  have qc := Qc.out
  have wc := Rc.out
  go_region_held3 (fun w' => w'.cell? ⟨w.heap.size, 0, none⟩ = some (.int .i64 a) ∧ w'.cell? ⟨w.heap.size, 1, none⟩ = some (.int .i64 b) ∧ w'.cell? ⟨w.heap.size, 2, none⟩ = some (.int .i64 c))
    (first | exact ⟨c00, c01, c02⟩ | exact ⟨(K0.out.alloc _).at_ 0 _ rfl, (K0.out.alloc _).at_ 1 _ rfl, (K0.out.alloc _).at_ 2 _ rfl⟩ | exact ⟨(K0.out.else3 (by omega) _ _ _).at_ 0 _ rfl, (K0.out.else3 (by omega) _ _ _).at_ 1 _ rfl, (K0.out.else3 (by omega) _ _ _).at_ 2 _ rfl⟩)
    (first
      | fail "arm")
  clear qa qb qc wa wb wc c00 c01 c02 c10 c11 c12 z10 z11 z12
  have R3 := K1.out.set3 (.int .i64 A) (.int .i64 C) (.int .i64 D)
  have B3 := Lib.hid (B.out.trans (below_else3 wx w.heap.size (w.heap.size + 1) (by omega) (.int .i64 A) (.int .i64 C) (.int .i64 D)))
  generalize (((wx.setCell ⟨w.heap.size + 1, 0, none⟩ (.int .i64 A)).setCell ⟨w.heap.size + 1, 1, none⟩ (.int .i64 C)).setCell ⟨w.heap.size + 1, 2, none⟩ (.int .i64 D)) = W3 at *
  have e0 := R3.at_ 0 _ rfl
  have e1 := R3.at_ 1 _ rfl
  have e2 := R3.at_ 2 _ rfl
  clear R3
  clear K0 K1 B
  go_wp2
  exact bodyPost_ret (v := .agg #[.int .i64 A, .int .i64 C, .int .i64 D]) (by simp [results, Tryz.results21, go_sem, e0, e1, e2]) rfl ⟨rfl, B3.out.drew⟩

set_option maxRecDepth 100000 in
set_option maxHeartbeats 2000000 in
theorem mdown_3 (a b c h A C D : Int) (w : World)
    (g : Nat) (g0 : 0 < g) (g9 : g ≤ 2000)
    (_la : -2000 ≤ a) (_ha : a ≤ 2000) (_lb : -2000 ≤ b) (_hb : b ≤ 2000) (_lc : -2000 ≤ c) (_hc : c ≤ 2000)
    (uc : decide (c > 0) = false) (zc : (c == 0) = true) (tb : decide (b < 0) = true)
    (s1 : ∀ W, Below w.heap.size w W → Calls Tryz.prog 50 #[.int .i64 a, .int .i64 b] W fun e w' => e = .returned (.int .i64 h) ∧ Below W.heap.size W w')
    (s2 : ∀ W, Below w.heap.size w W → Calls Tryz.prog 50 #[.int .i64 h, .int .i64 c] W fun e w' => e = .returned (.int .i64 (g : Int)) ∧ Below W.heap.size W w')
    (qa : a.tdiv (g : Int) = A) (ra : -2000 ≤ A ∧ A ≤ 2000) (qb : b.tdiv (g : Int) = C) (rb : -2000 ≤ C ∧ C ≤ 2000) (qc : c.tdiv (g : Int) = D) (rc : -2000 ≤ D ∧ D ≤ 2000) :
    Calls Tryz.prog 21 #[.agg #[.int .i64 a, .int .i64 b, .int .i64 c]] w fun e w' => e = .returned (.agg #[.int .i64 (-A), .int .i64 (-C), .int .i64 (-D)]) ∧ Below w.heap.size w w' := by
  have hgn : ¬ g = 0 := by omega
  have S1 := Lib.hid s1
  have S2 := Lib.hid s2
  clear s1 s2
  have wa : IntKind.i64.wrap (-A) = -A := IntWalk.i64_in _ (by omega)
  have Qa := Lib.hid qa
  have Ra := Lib.hid wa
  have wb : IntKind.i64.wrap (-C) = -C := IntWalk.i64_in _ (by omega)
  have Qb := Lib.hid qb
  have Rb := Lib.hid wb
  have wc : IntKind.i64.wrap (-D) = -D := IntWalk.i64_in _ (by omega)
  have Qc := Lib.hid qc
  have Rc := Lib.hid wc
  clear qa qb qc wa wb wc ra rb rc
  have k0 := Blk.fresh w #[.int .i64 a, .int .i64 b, .int .i64 c] 27
  replace k0 := k0.alloc (Obj.cells #[.int .i64 0, .int .i64 0, .int .i64 0] 27)
  have k1 := Blk.fresh (w.alloc (Obj.cells #[.int .i64 a, .int .i64 b, .int .i64 c] 27)) #[.int .i64 0, .int .i64 0, .int .i64 0] 27
  rw [show (w.alloc (Obj.cells #[.int .i64 a, .int .i64 b, .int .i64 c] 27)).heap.size = w.heap.size + 1 from World.size_alloc ..] at k1
  have b0 : Below w.heap.size w ((w.alloc (Obj.cells #[.int .i64 a, .int .i64 b, .int .i64 c] 27)).alloc (Obj.cells #[.int .i64 0, .int .i64 0, .int .i64 0] 27)) := (((Below.refl _ _).alloc (Nat.le_refl _) _).alloc (by simp; try omega) _)
  have K0 := Lib.hid k0
  have K1 := Lib.hid k1
  have B := Lib.hid b0
  clear b0 k0 k1
  go_enter Tryz.func21, Tryz.ntmps21
  go_upto_region 1 with (fail)
  generalize ((w.alloc (Obj.cells #[.int .i64 a, .int .i64 b, .int .i64 c] 27)).alloc (Obj.cells #[.int .i64 0, .int .i64 0, .int .i64 0] 27)) = W0 at *
  have c00 := K0.out.at_ 0 _ rfl
  have c01 := K0.out.at_ 1 _ rfl
  have c02 := K0.out.at_ 2 _ rfl
  have c10 := K1.out.at_ 0 _ rfl
  have c11 := K1.out.at_ 1 _ rfl
  have c12 := K1.out.at_ 2 _ rfl
  have z10 := K1.out.free 0
  have z11 := K1.out.free 1
  have z12 := K1.out.free 2
  go_region_held3 (fun w' => w'.cell? ⟨w.heap.size, 0, none⟩ = some (.int .i64 a) ∧ w'.cell? ⟨w.heap.size, 1, none⟩ = some (.int .i64 b) ∧ w'.cell? ⟨w.heap.size, 2, none⟩ = some (.int .i64 c))
    (first | exact ⟨c00, c01, c02⟩ | exact ⟨(K0.out.alloc _).at_ 0 _ rfl, (K0.out.alloc _).at_ 1 _ rfl, (K0.out.alloc _).at_ 2 _ rfl⟩)
    (first
      | (go_at_call 50; (with_reducible refine (S1.out _ (Near.base (by first | exact Near.same _ | exact Near.one _) B.out)).mono ?_); rintro e wx ⟨rfl, q⟩; replace K0 := Lib.hid (K0.out.near (by first | exact Near.same _ | exact Near.one _) q); replace K1 := Lib.hid (K1.out.near (by first | exact Near.same _ | exact Near.one _) q); replace B := Lib.hid (Near.go (by first | exact Near.same _ | exact Near.one _) B.out q B.out.size); clear q; replace c00 := K0.out.at_ 0 _ rfl; replace c01 := K0.out.at_ 1 _ rfl; replace c02 := K0.out.at_ 2 _ rfl; replace c10 := K1.out.at_ 0 _ rfl; replace c11 := K1.out.at_ 1 _ rfl; replace c12 := K1.out.at_ 2 _ rfl; replace z10 := K1.out.free 0; replace z11 := K1.out.free 1; replace z12 := K1.out.free 2)
      | (go_at_call 50; (with_reducible refine (S2.out _ (Near.base (by first | exact Near.same _ | exact Near.one _) B.out)).mono ?_); rintro e wx ⟨rfl, q⟩; replace K0 := Lib.hid (K0.out.near (by first | exact Near.same _ | exact Near.one _) q); replace K1 := Lib.hid (K1.out.near (by first | exact Near.same _ | exact Near.one _) q); replace B := Lib.hid (Near.go (by first | exact Near.same _ | exact Near.one _) B.out q B.out.size); clear q; replace c00 := K0.out.at_ 0 _ rfl; replace c01 := K0.out.at_ 1 _ rfl; replace c02 := K0.out.at_ 2 _ rfl; replace c10 := K1.out.at_ 0 _ rfl; replace c11 := K1.out.at_ 1 _ rfl; replace c12 := K1.out.at_ 2 _ rfl; replace z10 := K1.out.free 0; replace z11 := K1.out.free 1; replace z12 := K1.out.free 2)
      | fail "arm")
  go_upto_region 4 with (fail)
  have qa := Qa.out
  have wa := Ra.out
  have qb := Qb.out
  have wb := Rb.out
  have qc := Qc.out
  have wc := Rc.out
  go_region_held3 (fun w' => w'.cell? ⟨w.heap.size, 0, none⟩ = some (.int .i64 a) ∧ w'.cell? ⟨w.heap.size, 1, none⟩ = some (.int .i64 b) ∧ w'.cell? ⟨w.heap.size, 2, none⟩ = some (.int .i64 c))
    (first | exact ⟨c00, c01, c02⟩ | exact ⟨(K0.out.alloc _).at_ 0 _ rfl, (K0.out.alloc _).at_ 1 _ rfl, (K0.out.alloc _).at_ 2 _ rfl⟩ | exact ⟨(K0.out.else3 (by omega) _ _ _).at_ 0 _ rfl, (K0.out.else3 (by omega) _ _ _).at_ 1 _ rfl, (K0.out.else3 (by omega) _ _ _).at_ 2 _ rfl⟩)
    (first
      | fail "arm")
  clear qa qb qc wa wb wc c00 c01 c02 c10 c11 c12 z10 z11 z12
  have R3 := K1.out.set3 (.int .i64 (-A)) (.int .i64 (-C)) (.int .i64 (-D))
  have B3 := Lib.hid (B.out.trans (below_else3 wx w.heap.size (w.heap.size + 1) (by omega) (.int .i64 (-A)) (.int .i64 (-C)) (.int .i64 (-D))))
  generalize (((wx.setCell ⟨w.heap.size + 1, 0, none⟩ (.int .i64 (-A))).setCell ⟨w.heap.size + 1, 1, none⟩ (.int .i64 (-C))).setCell ⟨w.heap.size + 1, 2, none⟩ (.int .i64 (-D))) = W3 at *
  have e0 := R3.at_ 0 _ rfl
  have e1 := R3.at_ 1 _ rfl
  have e2 := R3.at_ 2 _ rfl
  clear R3
  clear K0 K1 B
  go_wp2
  exact bodyPost_ret (v := .agg #[.int .i64 (-A), .int .i64 (-C), .int .i64 (-D)]) (by simp [results, Tryz.results21, go_sem, e0, e1, e2]) rfl ⟨rfl, B3.out.drew⟩

set_option maxRecDepth 100000 in
set_option maxHeartbeats 2000000 in
theorem mdown_4 (a b c h A C D : Int) (w : World)
    (g : Nat) (g0 : 0 < g) (g9 : g ≤ 2000)
    (_la : -2000 ≤ a) (_ha : a ≤ 2000) (_lb : -2000 ≤ b) (_hb : b ≤ 2000) (_lc : -2000 ≤ c) (_hc : c ≤ 2000)
    (uc : decide (c > 0) = false) (zc : (c == 0) = true) (tb : decide (b < 0) = false) (zb : (b == 0) = false)
    (s1 : ∀ W, Below w.heap.size w W → Calls Tryz.prog 50 #[.int .i64 a, .int .i64 b] W fun e w' => e = .returned (.int .i64 h) ∧ Below W.heap.size W w')
    (s2 : ∀ W, Below w.heap.size w W → Calls Tryz.prog 50 #[.int .i64 h, .int .i64 c] W fun e w' => e = .returned (.int .i64 (g : Int)) ∧ Below W.heap.size W w')
    (qa : a.tdiv (g : Int) = A) (ra : -2000 ≤ A ∧ A ≤ 2000) (qb : b.tdiv (g : Int) = C) (rb : -2000 ≤ C ∧ C ≤ 2000) (qc : c.tdiv (g : Int) = D) (rc : -2000 ≤ D ∧ D ≤ 2000) :
    Calls Tryz.prog 21 #[.agg #[.int .i64 a, .int .i64 b, .int .i64 c]] w fun e w' => e = .returned (.agg #[.int .i64 A, .int .i64 C, .int .i64 D]) ∧ Below w.heap.size w w' := by
  have hgn : ¬ g = 0 := by omega
  have S1 := Lib.hid s1
  have S2 := Lib.hid s2
  clear s1 s2
  have wa : IntKind.i64.wrap (A) = A := IntWalk.i64_in _ (by omega)
  have Qa := Lib.hid qa
  have Ra := Lib.hid wa
  have wb : IntKind.i64.wrap (C) = C := IntWalk.i64_in _ (by omega)
  have Qb := Lib.hid qb
  have Rb := Lib.hid wb
  have wc : IntKind.i64.wrap (D) = D := IntWalk.i64_in _ (by omega)
  have Qc := Lib.hid qc
  have Rc := Lib.hid wc
  clear qa qb qc wa wb wc ra rb rc
  have k0 := Blk.fresh w #[.int .i64 a, .int .i64 b, .int .i64 c] 27
  replace k0 := k0.alloc (Obj.cells #[.int .i64 0, .int .i64 0, .int .i64 0] 27)
  have k1 := Blk.fresh (w.alloc (Obj.cells #[.int .i64 a, .int .i64 b, .int .i64 c] 27)) #[.int .i64 0, .int .i64 0, .int .i64 0] 27
  rw [show (w.alloc (Obj.cells #[.int .i64 a, .int .i64 b, .int .i64 c] 27)).heap.size = w.heap.size + 1 from World.size_alloc ..] at k1
  have b0 : Below w.heap.size w ((w.alloc (Obj.cells #[.int .i64 a, .int .i64 b, .int .i64 c] 27)).alloc (Obj.cells #[.int .i64 0, .int .i64 0, .int .i64 0] 27)) := (((Below.refl _ _).alloc (Nat.le_refl _) _).alloc (by simp; try omega) _)
  have K0 := Lib.hid k0
  have K1 := Lib.hid k1
  have B := Lib.hid b0
  clear b0 k0 k1
  go_enter Tryz.func21, Tryz.ntmps21
  go_upto_region 1 with (fail)
  generalize ((w.alloc (Obj.cells #[.int .i64 a, .int .i64 b, .int .i64 c] 27)).alloc (Obj.cells #[.int .i64 0, .int .i64 0, .int .i64 0] 27)) = W0 at *
  have c00 := K0.out.at_ 0 _ rfl
  have c01 := K0.out.at_ 1 _ rfl
  have c02 := K0.out.at_ 2 _ rfl
  have c10 := K1.out.at_ 0 _ rfl
  have c11 := K1.out.at_ 1 _ rfl
  have c12 := K1.out.at_ 2 _ rfl
  have z10 := K1.out.free 0
  have z11 := K1.out.free 1
  have z12 := K1.out.free 2
  go_region_held3 (fun w' => w'.cell? ⟨w.heap.size, 0, none⟩ = some (.int .i64 a) ∧ w'.cell? ⟨w.heap.size, 1, none⟩ = some (.int .i64 b) ∧ w'.cell? ⟨w.heap.size, 2, none⟩ = some (.int .i64 c))
    (first | exact ⟨c00, c01, c02⟩ | exact ⟨(K0.out.alloc _).at_ 0 _ rfl, (K0.out.alloc _).at_ 1 _ rfl, (K0.out.alloc _).at_ 2 _ rfl⟩)
    (first
      | (go_at_call 50; (with_reducible refine (S1.out _ (Near.base (by first | exact Near.same _ | exact Near.one _) B.out)).mono ?_); rintro e wx ⟨rfl, q⟩; replace K0 := Lib.hid (K0.out.near (by first | exact Near.same _ | exact Near.one _) q); replace K1 := Lib.hid (K1.out.near (by first | exact Near.same _ | exact Near.one _) q); replace B := Lib.hid (Near.go (by first | exact Near.same _ | exact Near.one _) B.out q B.out.size); clear q; replace c00 := K0.out.at_ 0 _ rfl; replace c01 := K0.out.at_ 1 _ rfl; replace c02 := K0.out.at_ 2 _ rfl; replace c10 := K1.out.at_ 0 _ rfl; replace c11 := K1.out.at_ 1 _ rfl; replace c12 := K1.out.at_ 2 _ rfl; replace z10 := K1.out.free 0; replace z11 := K1.out.free 1; replace z12 := K1.out.free 2)
      | (go_at_call 50; (with_reducible refine (S2.out _ (Near.base (by first | exact Near.same _ | exact Near.one _) B.out)).mono ?_); rintro e wx ⟨rfl, q⟩; replace K0 := Lib.hid (K0.out.near (by first | exact Near.same _ | exact Near.one _) q); replace K1 := Lib.hid (K1.out.near (by first | exact Near.same _ | exact Near.one _) q); replace B := Lib.hid (Near.go (by first | exact Near.same _ | exact Near.one _) B.out q B.out.size); clear q; replace c00 := K0.out.at_ 0 _ rfl; replace c01 := K0.out.at_ 1 _ rfl; replace c02 := K0.out.at_ 2 _ rfl; replace c10 := K1.out.at_ 0 _ rfl; replace c11 := K1.out.at_ 1 _ rfl; replace c12 := K1.out.at_ 2 _ rfl; replace z10 := K1.out.free 0; replace z11 := K1.out.free 1; replace z12 := K1.out.free 2)
      | fail "arm")
  go_upto_region 4 with (fail)
  have qa := Qa.out
  have wa := Ra.out
  have qb := Qb.out
  have wb := Rb.out
  have qc := Qc.out
  have wc := Rc.out
  go_region_held3 (fun w' => w'.cell? ⟨w.heap.size, 0, none⟩ = some (.int .i64 a) ∧ w'.cell? ⟨w.heap.size, 1, none⟩ = some (.int .i64 b) ∧ w'.cell? ⟨w.heap.size, 2, none⟩ = some (.int .i64 c))
    (first | exact ⟨c00, c01, c02⟩ | exact ⟨(K0.out.alloc _).at_ 0 _ rfl, (K0.out.alloc _).at_ 1 _ rfl, (K0.out.alloc _).at_ 2 _ rfl⟩ | exact ⟨(K0.out.else3 (by omega) _ _ _).at_ 0 _ rfl, (K0.out.else3 (by omega) _ _ _).at_ 1 _ rfl, (K0.out.else3 (by omega) _ _ _).at_ 2 _ rfl⟩)
    (first
      | fail "arm")
  clear qa qb qc wa wb wc c00 c01 c02 c10 c11 c12 z10 z11 z12
  have R3 := K1.out.set3 (.int .i64 A) (.int .i64 C) (.int .i64 D)
  have B3 := Lib.hid (B.out.trans (below_else3 wx w.heap.size (w.heap.size + 1) (by omega) (.int .i64 A) (.int .i64 C) (.int .i64 D)))
  generalize (((wx.setCell ⟨w.heap.size + 1, 0, none⟩ (.int .i64 A)).setCell ⟨w.heap.size + 1, 1, none⟩ (.int .i64 C)).setCell ⟨w.heap.size + 1, 2, none⟩ (.int .i64 D)) = W3 at *
  have e0 := R3.at_ 0 _ rfl
  have e1 := R3.at_ 1 _ rfl
  have e2 := R3.at_ 2 _ rfl
  clear R3
  clear K0 K1 B
  go_wp2
  exact bodyPost_ret (v := .agg #[.int .i64 A, .int .i64 C, .int .i64 D]) (by simp [results, Tryz.results21, go_sem, e0, e1, e2]) rfl ⟨rfl, B3.out.drew⟩

set_option maxRecDepth 100000 in
set_option maxHeartbeats 2000000 in
theorem mdown_5 (a b c h A C D : Int) (w : World)
    (g : Nat) (g0 : 0 < g) (g9 : g ≤ 2000)
    (_la : -2000 ≤ a) (_ha : a ≤ 2000) (_lb : -2000 ≤ b) (_hb : b ≤ 2000) (_lc : -2000 ≤ c) (_hc : c ≤ 2000)
    (uc : decide (c > 0) = false) (zc : (c == 0) = true) (tb : decide (b < 0) = false) (zb : (b == 0) = true) (ta : decide (a < 0) = true)
    (s1 : ∀ W, Below w.heap.size w W → Calls Tryz.prog 50 #[.int .i64 a, .int .i64 b] W fun e w' => e = .returned (.int .i64 h) ∧ Below W.heap.size W w')
    (s2 : ∀ W, Below w.heap.size w W → Calls Tryz.prog 50 #[.int .i64 h, .int .i64 c] W fun e w' => e = .returned (.int .i64 (g : Int)) ∧ Below W.heap.size W w')
    (qa : a.tdiv (g : Int) = A) (ra : -2000 ≤ A ∧ A ≤ 2000) (qb : b.tdiv (g : Int) = C) (rb : -2000 ≤ C ∧ C ≤ 2000) (qc : c.tdiv (g : Int) = D) (rc : -2000 ≤ D ∧ D ≤ 2000) :
    Calls Tryz.prog 21 #[.agg #[.int .i64 a, .int .i64 b, .int .i64 c]] w fun e w' => e = .returned (.agg #[.int .i64 (-A), .int .i64 (-C), .int .i64 (-D)]) ∧ Below w.heap.size w w' := by
  have hgn : ¬ g = 0 := by omega
  have S1 := Lib.hid s1
  have S2 := Lib.hid s2
  clear s1 s2
  have wa : IntKind.i64.wrap (-A) = -A := IntWalk.i64_in _ (by omega)
  have Qa := Lib.hid qa
  have Ra := Lib.hid wa
  have wb : IntKind.i64.wrap (-C) = -C := IntWalk.i64_in _ (by omega)
  have Qb := Lib.hid qb
  have Rb := Lib.hid wb
  have wc : IntKind.i64.wrap (-D) = -D := IntWalk.i64_in _ (by omega)
  have Qc := Lib.hid qc
  have Rc := Lib.hid wc
  clear qa qb qc wa wb wc ra rb rc
  have k0 := Blk.fresh w #[.int .i64 a, .int .i64 b, .int .i64 c] 27
  replace k0 := k0.alloc (Obj.cells #[.int .i64 0, .int .i64 0, .int .i64 0] 27)
  have k1 := Blk.fresh (w.alloc (Obj.cells #[.int .i64 a, .int .i64 b, .int .i64 c] 27)) #[.int .i64 0, .int .i64 0, .int .i64 0] 27
  rw [show (w.alloc (Obj.cells #[.int .i64 a, .int .i64 b, .int .i64 c] 27)).heap.size = w.heap.size + 1 from World.size_alloc ..] at k1
  have b0 : Below w.heap.size w ((w.alloc (Obj.cells #[.int .i64 a, .int .i64 b, .int .i64 c] 27)).alloc (Obj.cells #[.int .i64 0, .int .i64 0, .int .i64 0] 27)) := (((Below.refl _ _).alloc (Nat.le_refl _) _).alloc (by simp; try omega) _)
  have K0 := Lib.hid k0
  have K1 := Lib.hid k1
  have B := Lib.hid b0
  clear b0 k0 k1
  go_enter Tryz.func21, Tryz.ntmps21
  go_upto_region 1 with (fail)
  generalize ((w.alloc (Obj.cells #[.int .i64 a, .int .i64 b, .int .i64 c] 27)).alloc (Obj.cells #[.int .i64 0, .int .i64 0, .int .i64 0] 27)) = W0 at *
  have c00 := K0.out.at_ 0 _ rfl
  have c01 := K0.out.at_ 1 _ rfl
  have c02 := K0.out.at_ 2 _ rfl
  have c10 := K1.out.at_ 0 _ rfl
  have c11 := K1.out.at_ 1 _ rfl
  have c12 := K1.out.at_ 2 _ rfl
  have z10 := K1.out.free 0
  have z11 := K1.out.free 1
  have z12 := K1.out.free 2
  go_region_held3 (fun w' => w'.cell? ⟨w.heap.size, 0, none⟩ = some (.int .i64 a) ∧ w'.cell? ⟨w.heap.size, 1, none⟩ = some (.int .i64 b) ∧ w'.cell? ⟨w.heap.size, 2, none⟩ = some (.int .i64 c))
    (first | exact ⟨c00, c01, c02⟩ | exact ⟨(K0.out.alloc _).at_ 0 _ rfl, (K0.out.alloc _).at_ 1 _ rfl, (K0.out.alloc _).at_ 2 _ rfl⟩)
    (first
      | (go_at_call 50; (with_reducible refine (S1.out _ (Near.base (by first | exact Near.same _ | exact Near.one _) B.out)).mono ?_); rintro e wx ⟨rfl, q⟩; replace K0 := Lib.hid (K0.out.near (by first | exact Near.same _ | exact Near.one _) q); replace K1 := Lib.hid (K1.out.near (by first | exact Near.same _ | exact Near.one _) q); replace B := Lib.hid (Near.go (by first | exact Near.same _ | exact Near.one _) B.out q B.out.size); clear q; replace c00 := K0.out.at_ 0 _ rfl; replace c01 := K0.out.at_ 1 _ rfl; replace c02 := K0.out.at_ 2 _ rfl; replace c10 := K1.out.at_ 0 _ rfl; replace c11 := K1.out.at_ 1 _ rfl; replace c12 := K1.out.at_ 2 _ rfl; replace z10 := K1.out.free 0; replace z11 := K1.out.free 1; replace z12 := K1.out.free 2)
      | (go_at_call 50; (with_reducible refine (S2.out _ (Near.base (by first | exact Near.same _ | exact Near.one _) B.out)).mono ?_); rintro e wx ⟨rfl, q⟩; replace K0 := Lib.hid (K0.out.near (by first | exact Near.same _ | exact Near.one _) q); replace K1 := Lib.hid (K1.out.near (by first | exact Near.same _ | exact Near.one _) q); replace B := Lib.hid (Near.go (by first | exact Near.same _ | exact Near.one _) B.out q B.out.size); clear q; replace c00 := K0.out.at_ 0 _ rfl; replace c01 := K0.out.at_ 1 _ rfl; replace c02 := K0.out.at_ 2 _ rfl; replace c10 := K1.out.at_ 0 _ rfl; replace c11 := K1.out.at_ 1 _ rfl; replace c12 := K1.out.at_ 2 _ rfl; replace z10 := K1.out.free 0; replace z11 := K1.out.free 1; replace z12 := K1.out.free 2)
      | fail "arm")
  go_upto_region 4 with (fail)
  have qa := Qa.out
  have wa := Ra.out
  have qb := Qb.out
  have wb := Rb.out
  have qc := Qc.out
  have wc := Rc.out
  go_region_held3 (fun w' => w'.cell? ⟨w.heap.size, 0, none⟩ = some (.int .i64 a) ∧ w'.cell? ⟨w.heap.size, 1, none⟩ = some (.int .i64 b) ∧ w'.cell? ⟨w.heap.size, 2, none⟩ = some (.int .i64 c))
    (first | exact ⟨c00, c01, c02⟩ | exact ⟨(K0.out.alloc _).at_ 0 _ rfl, (K0.out.alloc _).at_ 1 _ rfl, (K0.out.alloc _).at_ 2 _ rfl⟩ | exact ⟨(K0.out.else3 (by omega) _ _ _).at_ 0 _ rfl, (K0.out.else3 (by omega) _ _ _).at_ 1 _ rfl, (K0.out.else3 (by omega) _ _ _).at_ 2 _ rfl⟩)
    (first
      | fail "arm")
  clear qa qb qc wa wb wc c00 c01 c02 c10 c11 c12 z10 z11 z12
  have R3 := K1.out.set3 (.int .i64 (-A)) (.int .i64 (-C)) (.int .i64 (-D))
  have B3 := Lib.hid (B.out.trans (below_else3 wx w.heap.size (w.heap.size + 1) (by omega) (.int .i64 (-A)) (.int .i64 (-C)) (.int .i64 (-D))))
  generalize (((wx.setCell ⟨w.heap.size + 1, 0, none⟩ (.int .i64 (-A))).setCell ⟨w.heap.size + 1, 1, none⟩ (.int .i64 (-C))).setCell ⟨w.heap.size + 1, 2, none⟩ (.int .i64 (-D))) = W3 at *
  have e0 := R3.at_ 0 _ rfl
  have e1 := R3.at_ 1 _ rfl
  have e2 := R3.at_ 2 _ rfl
  clear R3
  clear K0 K1 B
  go_wp2
  exact bodyPost_ret (v := .agg #[.int .i64 (-A), .int .i64 (-C), .int .i64 (-D)]) (by simp [results, Tryz.results21, go_sem, e0, e1, e2]) rfl ⟨rfl, B3.out.drew⟩

set_option maxRecDepth 100000 in
set_option maxHeartbeats 2000000 in
theorem mdown_6 (a b c h A C D : Int) (w : World)
    (g : Nat) (g0 : 0 < g) (g9 : g ≤ 2000)
    (_la : -2000 ≤ a) (_ha : a ≤ 2000) (_lb : -2000 ≤ b) (_hb : b ≤ 2000) (_lc : -2000 ≤ c) (_hc : c ≤ 2000)
    (uc : decide (c > 0) = false) (zc : (c == 0) = true) (tb : decide (b < 0) = false) (zb : (b == 0) = true) (ta : decide (a < 0) = false)
    (s1 : ∀ W, Below w.heap.size w W → Calls Tryz.prog 50 #[.int .i64 a, .int .i64 b] W fun e w' => e = .returned (.int .i64 h) ∧ Below W.heap.size W w')
    (s2 : ∀ W, Below w.heap.size w W → Calls Tryz.prog 50 #[.int .i64 h, .int .i64 c] W fun e w' => e = .returned (.int .i64 (g : Int)) ∧ Below W.heap.size W w')
    (qa : a.tdiv (g : Int) = A) (ra : -2000 ≤ A ∧ A ≤ 2000) (qb : b.tdiv (g : Int) = C) (rb : -2000 ≤ C ∧ C ≤ 2000) (qc : c.tdiv (g : Int) = D) (rc : -2000 ≤ D ∧ D ≤ 2000) :
    Calls Tryz.prog 21 #[.agg #[.int .i64 a, .int .i64 b, .int .i64 c]] w fun e w' => e = .returned (.agg #[.int .i64 A, .int .i64 C, .int .i64 D]) ∧ Below w.heap.size w w' := by
  have hgn : ¬ g = 0 := by omega
  have S1 := Lib.hid s1
  have S2 := Lib.hid s2
  clear s1 s2
  have wa : IntKind.i64.wrap (A) = A := IntWalk.i64_in _ (by omega)
  have Qa := Lib.hid qa
  have Ra := Lib.hid wa
  have wb : IntKind.i64.wrap (C) = C := IntWalk.i64_in _ (by omega)
  have Qb := Lib.hid qb
  have Rb := Lib.hid wb
  have wc : IntKind.i64.wrap (D) = D := IntWalk.i64_in _ (by omega)
  have Qc := Lib.hid qc
  have Rc := Lib.hid wc
  clear qa qb qc wa wb wc ra rb rc
  have k0 := Blk.fresh w #[.int .i64 a, .int .i64 b, .int .i64 c] 27
  replace k0 := k0.alloc (Obj.cells #[.int .i64 0, .int .i64 0, .int .i64 0] 27)
  have k1 := Blk.fresh (w.alloc (Obj.cells #[.int .i64 a, .int .i64 b, .int .i64 c] 27)) #[.int .i64 0, .int .i64 0, .int .i64 0] 27
  rw [show (w.alloc (Obj.cells #[.int .i64 a, .int .i64 b, .int .i64 c] 27)).heap.size = w.heap.size + 1 from World.size_alloc ..] at k1
  have b0 : Below w.heap.size w ((w.alloc (Obj.cells #[.int .i64 a, .int .i64 b, .int .i64 c] 27)).alloc (Obj.cells #[.int .i64 0, .int .i64 0, .int .i64 0] 27)) := (((Below.refl _ _).alloc (Nat.le_refl _) _).alloc (by simp; try omega) _)
  have K0 := Lib.hid k0
  have K1 := Lib.hid k1
  have B := Lib.hid b0
  clear b0 k0 k1
  go_enter Tryz.func21, Tryz.ntmps21
  go_upto_region 1 with (fail)
  generalize ((w.alloc (Obj.cells #[.int .i64 a, .int .i64 b, .int .i64 c] 27)).alloc (Obj.cells #[.int .i64 0, .int .i64 0, .int .i64 0] 27)) = W0 at *
  have c00 := K0.out.at_ 0 _ rfl
  have c01 := K0.out.at_ 1 _ rfl
  have c02 := K0.out.at_ 2 _ rfl
  have c10 := K1.out.at_ 0 _ rfl
  have c11 := K1.out.at_ 1 _ rfl
  have c12 := K1.out.at_ 2 _ rfl
  have z10 := K1.out.free 0
  have z11 := K1.out.free 1
  have z12 := K1.out.free 2
  go_region_held3 (fun w' => w'.cell? ⟨w.heap.size, 0, none⟩ = some (.int .i64 a) ∧ w'.cell? ⟨w.heap.size, 1, none⟩ = some (.int .i64 b) ∧ w'.cell? ⟨w.heap.size, 2, none⟩ = some (.int .i64 c))
    (first | exact ⟨c00, c01, c02⟩ | exact ⟨(K0.out.alloc _).at_ 0 _ rfl, (K0.out.alloc _).at_ 1 _ rfl, (K0.out.alloc _).at_ 2 _ rfl⟩)
    (first
      | (go_at_call 50; (with_reducible refine (S1.out _ (Near.base (by first | exact Near.same _ | exact Near.one _) B.out)).mono ?_); rintro e wx ⟨rfl, q⟩; replace K0 := Lib.hid (K0.out.near (by first | exact Near.same _ | exact Near.one _) q); replace K1 := Lib.hid (K1.out.near (by first | exact Near.same _ | exact Near.one _) q); replace B := Lib.hid (Near.go (by first | exact Near.same _ | exact Near.one _) B.out q B.out.size); clear q; replace c00 := K0.out.at_ 0 _ rfl; replace c01 := K0.out.at_ 1 _ rfl; replace c02 := K0.out.at_ 2 _ rfl; replace c10 := K1.out.at_ 0 _ rfl; replace c11 := K1.out.at_ 1 _ rfl; replace c12 := K1.out.at_ 2 _ rfl; replace z10 := K1.out.free 0; replace z11 := K1.out.free 1; replace z12 := K1.out.free 2)
      | (go_at_call 50; (with_reducible refine (S2.out _ (Near.base (by first | exact Near.same _ | exact Near.one _) B.out)).mono ?_); rintro e wx ⟨rfl, q⟩; replace K0 := Lib.hid (K0.out.near (by first | exact Near.same _ | exact Near.one _) q); replace K1 := Lib.hid (K1.out.near (by first | exact Near.same _ | exact Near.one _) q); replace B := Lib.hid (Near.go (by first | exact Near.same _ | exact Near.one _) B.out q B.out.size); clear q; replace c00 := K0.out.at_ 0 _ rfl; replace c01 := K0.out.at_ 1 _ rfl; replace c02 := K0.out.at_ 2 _ rfl; replace c10 := K1.out.at_ 0 _ rfl; replace c11 := K1.out.at_ 1 _ rfl; replace c12 := K1.out.at_ 2 _ rfl; replace z10 := K1.out.free 0; replace z11 := K1.out.free 1; replace z12 := K1.out.free 2)
      | fail "arm")
  go_upto_region 4 with (fail)
  have qa := Qa.out
  have wa := Ra.out
  have qb := Qb.out
  have wb := Rb.out
  have qc := Qc.out
  have wc := Rc.out
  go_region_held3 (fun w' => w'.cell? ⟨w.heap.size, 0, none⟩ = some (.int .i64 a) ∧ w'.cell? ⟨w.heap.size, 1, none⟩ = some (.int .i64 b) ∧ w'.cell? ⟨w.heap.size, 2, none⟩ = some (.int .i64 c))
    (first | exact ⟨c00, c01, c02⟩ | exact ⟨(K0.out.alloc _).at_ 0 _ rfl, (K0.out.alloc _).at_ 1 _ rfl, (K0.out.alloc _).at_ 2 _ rfl⟩ | exact ⟨(K0.out.else3 (by omega) _ _ _).at_ 0 _ rfl, (K0.out.else3 (by omega) _ _ _).at_ 1 _ rfl, (K0.out.else3 (by omega) _ _ _).at_ 2 _ rfl⟩)
    (first
      | fail "arm")
  clear qa qb qc wa wb wc c00 c01 c02 c10 c11 c12 z10 z11 z12
  have R3 := K1.out.set3 (.int .i64 A) (.int .i64 C) (.int .i64 D)
  have B3 := Lib.hid (B.out.trans (below_else3 wx w.heap.size (w.heap.size + 1) (by omega) (.int .i64 A) (.int .i64 C) (.int .i64 D)))
  generalize (((wx.setCell ⟨w.heap.size + 1, 0, none⟩ (.int .i64 A)).setCell ⟨w.heap.size + 1, 1, none⟩ (.int .i64 C)).setCell ⟨w.heap.size + 1, 2, none⟩ (.int .i64 D)) = W3 at *
  have e0 := R3.at_ 0 _ rfl
  have e1 := R3.at_ 1 _ rfl
  have e2 := R3.at_ 2 _ rfl
  clear R3
  clear K0 K1 B
  go_wp2
  exact bodyPost_ret (v := .agg #[.int .i64 A, .int .i64 C, .int .i64 D]) (by simp [results, Tryz.results21, go_sem, e0, e1, e2]) rfl ⟨rfl, B3.out.drew⟩

end Go.Proofs.YtajkeoapfkkjbaaGreatDoor
