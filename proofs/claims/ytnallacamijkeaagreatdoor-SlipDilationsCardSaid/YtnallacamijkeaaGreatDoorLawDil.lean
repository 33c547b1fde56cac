/- SlipDilations: for every described strip the call returns true. -/
import Derived.Test.YtnallacamijkeaaGreatDoorDilB
namespace Go.Proofs.YtnallacamijkeaaGreatDoor
set_option linter.all false
open Go.RowKit

def pcell (p : Int × Int) : List Value := [.int .i8 p.1, .int .i8 p.2]
theorem dikeElem : StrElem Tryz.prog 32 37 6 96 := ⟨Tryz.underlying32, by kernel_rfl, by omega, by omega⟩
theorem DI.one (d : DI) : ∀ x ∈ d.cells, x.oneCell' = true := by
 intro x hx
 simp only [DI.cells, List.mem_cons, List.not_mem_nil, or_false] at hx
 rcases hx with rfl | rfl | rfl | rfl | rfl | rfl <;> rfl
def dk (U : Int) (i : Nat) (p : Int × Int) : DI := ⟨decide (U = (i : Int) + 1), p.1, p.2⟩
def dks (U : Int) (ps : List (Int × Int)) : List DI := ps.mapIdx (dk U)
theorem dks_len (U : Int) (ps : List (Int × Int)) : (dks U ps).length = ps.length := by unfold dks; simp
theorem dks_snoc (U : Int) (ps : List (Int × Int)) (k : Nat) (h : k < ps.length) : dks U (ps.take (k + 1)) = dks U (ps.take k) ++ [dk U k ps[k]] := by
 unfold dks
 rw [List.take_succ_eq_append_getElem h, List.mapIdx_append]
 simp [Nat.min_eq_left (Nat.le_of_lt h)]
theorem dks_get (U : Int) (ps : List (Int × Int)) (k : Nat) (h : k < ps.length) : (dks U ps)[k]? = some (dk U k ps[k]) := by
 unfold dks
 rw [List.getElem?_mapIdx, List.getElem?_eq_getElem h]
 rfl
def Small8 (ps : List (Int × Int)) : Prop := ∀ p ∈ ps, -128 ≤ p.1 ∧ p.1 ≤ 127 ∧ -128 ≤ p.2 ∧ p.2 ≤ 127
theorem dks_small (U : Int) (ps : List (Int × Int)) (h : Small8 ps) : SmallD (dks U ps) := by
 intro d hd
 obtain ⟨i, hi, e⟩ := List.getElem_of_mem hd
 rw [dks_len] at hi
 have h1 := dks_get U ps i hi
 rw [List.getElem?_eq_getElem (by rw [dks_len]; exact hi), e] at h1
 injection h1 with h1
 have := h ps[i] (List.getElem_mem hi)
 rw [h1]
 show (ps[i]).1.natAbs ≤ 200 ∧ (ps[i]).2.natAbs ≤ 200
 omega
theorem sum_le (f t : Int) (ds : List DI) (hl : ds.length ≤ 4) (h1 : f < t) (h2 : NoBad f t ds ds.length) (h3 : NoHit ds ds.length) : sumB ds ≤ 2 * t - 2 * f := by
 have hb : ∀ d ∈ ds, 0 < d.b ∧ 2 * f ≤ d.a ∧ d.a + d.b ≤ 2 * t := by
  intro d hd
  unfold NoBad at h2
  rw [List.take_of_length_le (by simp)] at h2
  have h4 := List.find?_eq_none.1 h2 (badD f t d) (List.mem_map.2 ⟨d, hd, rfl⟩)
  have h5 : badD f t d = 0 := by simpa using h4
  unfold badD at h5
  split at h5
  ·cases h5
  ·split at h5
   ·cases h5
   ·rename_i h6 h7
    omega
 have hp : ∀ (i j : Nat) (d x : DI), j < i → ds[i]? = some d → ds[j]? = some x → d.a + d.b ≤ x.a ∨ x.a + x.b ≤ d.a := by
  intro i j d x hj hd hx
  have hi := (List.getElem?_eq_some_iff.1 hd).1
  have := h3 i j d x hi hj hd hx
  unfold hitD at this
  omega
 clear h2 h3
 match ds, hl with
 | [], _ => show (0 : Int) ≤ _; omega
 | [d0], _ =>
  have b0 := hb d0 (by simp)
  show d0.b + 0 ≤ _; omega
 | [d0, d1], _ =>
  have b0 := hb d0 (by simp)
  have b1 := hb d1 (by simp)
  have p10 := hp 1 0 d1 d0 (by omega) rfl rfl
  show d0.b + (d1.b + 0) ≤ _; omega
 | [d0, d1, d2], _ =>
  have b0 := hb d0 (by simp)
  have b1 := hb d1 (by simp)
  have b2 := hb d2 (by simp)
  have p10 := hp 1 0 d1 d0 (by omega) rfl rfl
  have p20 := hp 2 0 d2 d0 (by omega) rfl rfl
  have p21 := hp 2 1 d2 d1 (by omega) rfl rfl
  show d0.b + (d1.b + (d2.b + 0)) ≤ _; omega
 | [d0, d1, d2, d3], _ =>
  have b0 := hb d0 (by simp)
  have b1 := hb d1 (by simp)
  have b2 := hb d2 (by simp)
  have b3 := hb d3 (by simp)
  have p10 := hp 1 0 d1 d0 (by omega) rfl rfl
  have p20 := hp 2 0 d2 d0 (by omega) rfl rfl
  have p21 := hp 2 1 d2 d1 (by omega) rfl rfl
  have p30 := hp 3 0 d3 d0 (by omega) rfl rfl
  have p31 := hp 3 1 d3 d1 (by omega) rfl rfl
  have p32 := hp 3 2 d3 d2 (by omega) rfl rfl
  show d0.b + (d1.b + (d2.b + (d3.b + 0))) ≤ _; omega

def stepW (f t : Int) (w : Int) (d : DI) : Int := if w = 0 then badD f t d else w
def wantK (f t : Int) (ds : List DI) (k : Nat) : Int := (ds.take k).foldl (stepW f t) (if t ≤ f then 6 else 0)
theorem wantK_next (f t : Int) (ds : List DI) (k : Nat) (d : DI) (h : ds[k]? = some d) : wantK f t ds (k + 1) = stepW f t (wantK f t ds k) d := by
 obtain ⟨hk, e⟩ := List.getElem?_eq_some_iff.1 h
 unfold wantK
 rw [List.take_succ_eq_append_getElem hk, List.foldl_append, e]
 rfl
theorem fold_bad (f t : Int) : ∀ (ds : List DI) (w : Int), ds.foldl (stepW f t) w = if w = 0 then firstE (ds.map (badD f t)) else w
 | [], w => by
  show w = if w = 0 then 0 else w
  split
  ·assumption
  ·rfl
 | d :: ds, w => by
  rw [List.foldl_cons, fold_bad f t ds]
  unfold stepW firstE
  by_cases hw : w = 0
  ·rw [if_pos hw, if_pos hw, List.map_cons]
   by_cases hb : badD f t d = 0
   ·rw [if_pos hb, List.find?_cons_of_neg (by simp [hb])]
   ·rw [if_neg hb, List.find?_cons_of_pos (by simp [hb])]
    rfl
  ·rw [if_neg hw, if_neg hw, if_neg hw]
theorem wantK_all (f t : Int) (ds : List DI) : wantK f t ds ds.length = if t ≤ f then 6 else firstE (ds.map (badD f t)) := by
 unfold wantK
 rw [List.take_length, fold_bad]
 by_cases h : t ≤ f
 ·rw [if_pos h, if_pos h, if_neg (by decide)]
 ·rw [if_neg h, if_neg h, if_pos rfl]
def WOk (ds : List DI) (w2 W : Int) (P : Prop) : Prop := (w2 ≠ 0 → W = w2) ∧ (w2 = 0 → (W = 0 ∧ P) ∨ (W = 26 ∧ ¬ NoHit ds ds.length))
theorem WOk.fin {f t : Int} {ds : List DI} {W : Int} (h : WOk ds (wantK f t ds ds.length) W (NoHit ds ds.length)) : dilE f t ds = W := by
 have e := wantK_all f t ds
 unfold dilE
 by_cases h1 : t ≤ f
 ·rw [if_pos h1] at e ⊢
  exact (h.1 (by rw [e]; decide)).trans e |>.symm
 ·rw [if_neg h1] at e ⊢
  by_cases h2 : firstE (ds.map (badD f t)) = 0
  ·rw [h2] at e
   rw [if_neg (by rw [h2]; decide)]
   rcases h.2 e with ⟨h3, h4⟩ | ⟨h3, h4⟩
   ·rw [if_pos h4, h3]
   ·rw [if_neg h4, h3]
  ·rw [if_pos h2]
   exact (h.1 (by rw [e]; exact h2)).trans e |>.symm
theorem WOk.keep {ds : List DI} {w2 W : Int} {P P' : Prop} (h : WOk ds w2 W P) (hw : W ≠ 0) : WOk ds w2 W P' := ⟨h.1, fun h0 => (h.2 h0).elim (fun h3 => absurd h3.1 hw) .inr⟩
theorem WOk.go {ds : List DI} {w2 : Int} {P P' : Prop} (h : WOk ds w2 0 P) (hp : P → P') : WOk ds w2 0 P' := ⟨h.1, fun h0 => (h.2 h0).elim (fun h3 => .inl ⟨rfl, hp h3.2⟩) (fun h3 => absurd h3.1 (by decide))⟩
theorem WOk.hit {ds : List DI} {w2 : Int} {P P' : Prop} (h : WOk ds w2 0 P) (hp : ¬ NoHit ds ds.length) : WOk ds w2 26 P' := ⟨fun h0 => absurd (h.1 h0).symm h0, fun _ => .inr ⟨rfl, hp⟩⟩

section
variable (x y : Int) (hx : x.natAbs < 10000) (hy : y.natAbs < 10000) (w : World) (he : Env w)
include hx hy he
theorem addRH : Calls Tryz.prog 8 #[.string (oT x), .string (oT y)] w fun e w' => e = .returned (.string (oT (x + y))) ∧ Below w.heap.size w w' := by
 have h := raddR_any (mkRat x 2) (mkRat y 2) 4 (by omega) (by omega) (dhalf_sz x hx) (dhalf_sz y hy) w he
 rw [half_add] at h
 exact h
theorem cmpRH : Calls Tryz.prog 10 #[.string (oT x), .string (oT y)] w fun e w' => e = .returned (.int .i64 (x - y).sign) ∧ Below w.heap.size w w' := by
 have h := rcompareR_any (mkRat x 2) (mkRat y 2) 4 (by omega) (by omega) (dhalf_sz x hx) (dhalf_sz y hy) w he
 rw [half_cmp] at h
 exact h
theorem subRH : Calls Tryz.prog 12 #[.string (oT x), .string (oT y)] w fun e w' => e = .returned (.string (oT (x - y))) ∧ Below w.heap.size w w' := by
 have h := rsubR_any (mkRat x 2) (mkRat y 2) 4 (by omega) (by omega) (dhalf_sz x hx) (dhalf_sz y hy) w he
 rw [half_sub] at h
 exact h
theorem divRH (h0 : y ≠ 0) : Calls Tryz.prog 11 #[.string (oT x), .string (oT y)] w fun e w' => e = .returned (.string (canonR ((x : Rat) / (y : Rat)))) ∧ Below w.heap.size w w' := by
 have h := rdivR_any (mkRat x 2) (mkRat y 2) 4 (by omega) (by omega) (dhalf_sz x hx) (dhalf_sz y hy) (half_ne y h0) w he
 rw [half_quot] at h
 exact h
theorem cmp1RH (h0 : 0 < y) : Calls Tryz.prog 10 #[.string (canonR ((x : Rat) / (y : Rat))), .string ⟨#[49]⟩] w fun e w' => e = .returned (.int .i64 (x - y).sign) ∧ Below w.heap.size w w' := by
 have h := rcompareR_any ((x : Rat) / (y : Rat)) ((1 : Int) : Rat) 4 (by omega) (by omega) (quot_sz x y hx hy h0) ((S2.int 1 1 (by decide)).sz (by omega) (by omega)) w he
 rw [cmpR_quot x y 1 h0, Int.one_mul, show canonR ((1 : Int) : Rat) = ⟨#[49]⟩ from dig_text 1 (by decide)] at h
 exact h
end
theorem signRH (x : Int) (hx : x.natAbs < 10000) (w : World) : Calls Tryz.prog 9 #[.string (oT x)] w fun e w' => e = .returned (.int .i64 x.sign) ∧ w = w' := by
 have h := rsignR_any (mkRat x 2) w (by have := oT_size x hx; unfold oT at this; omega)
 rw [num_mk_sign _ _ (by decide)] at h
 exact h
theorem ofH1 (x : Int) (hx : -200 ≤ x ∧ x ≤ 200) (w : World) (he : Env w) : Calls Tryz.prog 6 #[.int .i64 x, .int .i64 1] w fun e w' => e = .returned (.string (oT (2 * x))) ∧ Below w.heap.size w w' := by
 have h := refof_any x 1 w he.1 (by omega) (by omega) (by omega)
 rw [half_whole] at h
 exact h
theorem ofH2 (x : Int) (hx : -200 ≤ x ∧ x ≤ 200) (w : World) (he : Env w) : Calls Tryz.prog 6 #[.int .i64 x, .int .i64 2] w fun e w' => e = .returned (.string (oT x)) ∧ Below w.heap.size w w' :=
 refof_any x 2 w he.1 (by omega) (by omega) (by omega)
theorem spotH1 (w : World) (he : Env w) : Calls Tryz.prog 5 #[.int .i64 1, .int .i64 0, .int .i64 2] w fun e w' => e = .returned (.agg #[.string ⟨#[49]⟩, .string ⟨#[48]⟩, .string ⟨#[50]⟩]) ∧ Below w.heap.size w w' := by
 have h := spotR 1 0 2 (by decide) (by decide) (by decide) w he
 have e1 : (ofI ⟨1, 0, 2⟩ 1).t.x = ⟨#[49]⟩ := by show canonR (mkRat 1 1) = _; rw [mk1]; exact dig_text 1 (by decide)
 have e2 : (ofI ⟨1, 0, 2⟩ 1).t.y = ⟨#[48]⟩ := by show canonR (mkRat 0 1) = _; rw [mk1]; exact dig_text 0 (by decide)
 have e3 : (ofI ⟨1, 0, 2⟩ 1).t.z = ⟨#[50]⟩ := by show canonR (mkRat 2 1) = _; rw [mk1]; exact dig_text 2 (by decide)
 rw [e1, e2, e3] at h
 exact h
theorem spotH2 (w : World) (he : Env w) : Calls Tryz.prog 5 #[.int .i64 2, .int .i64 0, .int .i64 4] w fun e w' => e = .returned (.agg #[.string ⟨#[50]⟩, .string ⟨#[48]⟩, .string ⟨#[52]⟩]) ∧ Below w.heap.size w w' := by
 have h := spotR 2 0 4 (by decide) (by decide) (by decide) w he
 have e1 : (ofI ⟨2, 0, 4⟩ 1).t.x = ⟨#[50]⟩ := by show canonR (mkRat 2 1) = _; rw [mk1]; exact dig_text 2 (by decide)
 have e2 : (ofI ⟨2, 0, 4⟩ 1).t.y = ⟨#[48]⟩ := by show canonR (mkRat 0 1) = _; rw [mk1]; exact dig_text 0 (by decide)
 have e3 : (ofI ⟨2, 0, 4⟩ 1).t.z = ⟨#[52]⟩ := by show canonR (mkRat 4 1) = _; rw [mk1]; exact dig_text 4 (by decide)
 rw [e1, e2, e3] at h
 exact h

set_option maxRecDepth 100000 in
set_option maxHeartbeats 16000000 in
theorem lexDil_walk (A : Option Addr) (c : Nat) (ps : List (Int × Int)) (F T U : Int) (hF : -128 ≤ F ∧ F ≤ 127) (hT : -128 ≤ T ∧ T ≤ 127) (hU : 0 ≤ U ∧ U ≤ 255) (hps : Small8 ps) (hc : ps.length ≤ c) (w : World) (he : Env w) (hv : SAt pcell 2 w (.slice A ps.length c) ps) :
  Calls Tryz.prog 3 #[.agg #[.slice A ps.length c, .int .i8 F, .int .i8 T, .int .u8 U]] w fun e w' => e = .returned (.bool true) ∧ Below w.heap.size w w' := by
 have KN := Lib.hid (fun W (hW : Below w.heap.size w W) => known42 W (he.below hW))
 have HV := Lib.hid hv
 have HE := Lib.hid (fun W (hW : Below w.heap.size w W) => he.below hW)
 have B := Lib.hid (below_new w (.cells #[.slice A ps.length c, .int .i8 F, .int .i8 T, .int .u8 U] 25))
 have K1 := Lib.hid (Blk.fresh w #[.slice A ps.length c, .int .i8 F, .int .i8 T, .int .u8 U] 25)
 clear hv he
 by_cases hlim : 4 < ps.length
 ·have t1 : decide ((ps.length : Int) > 4) = true := decide_eq_true (by omega)
  go_enter Tryz.func3, Tryz.ntmps3
  go_wp2_with (first
   | (go_at_call 4; with_reducible refine (KN.out _ B.out).mono ?_; rintro e wx ⟨rfl, q⟩; replace K1 := Lib.hid (K1.out.below q); replace B := Lib.hid (B.out.trans (q.mono B.out.size)); clear q; have x10 := K1.out.at_ 0 _ rfl)
   | fail "arm")
  go_ret
  exact ⟨rfl, B.out⟩
 have t1 : decide ((ps.length : Int) > 4) = false := decide_eq_false (by omega)
 have wF : IntKind.i64.wrap F = F := IntWalk.i64_in _ (by omega)
 have wT : IntKind.i64.wrap T = T := IntWalk.i64_in _ (by omega)
 have HSP := Lib.hid (fun W (hW : Below w.heap.size w W) => spotH1 W (HE.out W hW))
 have HSP2 := Lib.hid (fun W (hW : Below w.heap.size w W) => spotH2 W (HE.out W hW))
 have HOF : Hid (Ret Tryz.prog w 6 #[.int .i64 F, .int .i64 1] (.string (oT (2 * F)))) := Lib.hid (fun W hW => ofH1 F (by omega) W (HE.out W hW))
 have HOT : Hid (Ret Tryz.prog w 6 #[.int .i64 T, .int .i64 1] (.string (oT (2 * T)))) := Lib.hid (fun W hW => ofH1 T (by omega) W (HE.out W hW))
 have HS8 := Lib.hid hps
 clear hps
 have hb1 : w.heap.size < (w.alloc (.cells #[.slice A ps.length c, .int .i8 F, .int .i8 T, .int .u8 U] 25)).heap.size := by simp
 go_enter Tryz.func3, Tryz.ntmps3
 go_upto_region 1 with (fail)
 generalize (w.alloc (.cells #[.slice A ps.length c, .int .i8 F, .int .i8 T, .int .u8 U] 25)) = W1 at *
 obtain ⟨b1, hb1e⟩ : ∃ b1, w.heap.size = b1 := ⟨_, rfl⟩
 rw [hb1e] at K1 ⊢
 have HB1E := Lib.hid hb1e
 clear hb1e hb1
 go_upto_region 3 with (first
  | (go_at_call 4; with_reducible refine (KN.out _ B.out).mono ?_; rintro e wx ⟨rfl, q⟩; replace K1 := Lib.hid (K1.out.below q); replace B := Lib.hid (B.out.trans (q.mono B.out.size)); clear q; have x10 := K1.out.at_ 0 _ rfl)
  | fail "arm")
 clear x10
 go_upto_region 4 with (first
  | (go_at_call 5; with_reducible refine (HSP.out _ B.out).mono ?_; rintro e w2 ⟨rfl, q⟩; replace K1 := Lib.hid (K1.out.below q); replace B := Lib.hid (B.out.trans (q.mono B.out.size)); clear q)
  | fail "arm")
 have K3 := Lib.hid (Blk.fresh w2 #[.string ⟨#[49]⟩, .string ⟨#[48]⟩, .string ⟨#[50]⟩] 29)
 have q := below_new w2 (.cells #[.string ⟨#[49]⟩, .string ⟨#[48]⟩, .string ⟨#[50]⟩] 29)
 have hb13 : b1 < w2.heap.size := K1.out.lt
 replace K1 := Lib.hid (K1.out.below q)
 replace B := Lib.hid (B.out.trans (q.mono B.out.size))
 clear q KN HSP
 generalize (w2.alloc (.cells #[.string ⟨#[49]⟩, .string ⟨#[48]⟩, .string ⟨#[50]⟩] 29)) = W3 at *
 generalize w2.heap.size = b3 at *
 refine wp_tab (.v 31 (.pointer (some ⟨b1, 1, none⟩)) :: .v 32 (.int .i8 F) :: .v 33 (.int .i64 F) :: .v 34 (.string (oT (2 * F))) :: .v 35 (.pointer (some ⟨b1, 2, none⟩)) :: .v 36 (.int .i8 T) :: .v 37 (.int .i64 T) :: .v 38 (.string (oT (2 * T))) :: .v 4 (.string (oT (2 * F))) :: .v 5 (.string (oT (2 * T))) :: []) [] [⟨b1, #[.slice A ps.length c, .int .i8 F, .int .i8 T, .int .u8 U], 25, none⟩, ⟨b3, #[.string ⟨#[49]⟩, .string ⟨#[48]⟩, .string ⟨#[50]⟩], 29, none⟩] [] [] [] [] [] (by kernel_rfl) B.out ⟨K1.out, K3.out, trivial⟩ trivial ⟨pu, ld 0 1, ?_, cl HOF.out, pu, ld 0 2, ?_, cl HOT.out, pu, pu, trivial⟩ ?_
 ·intro L a U ho J hn dd KK kk; refine .free rfl ?_; have r1 := J.read 1 rfl (dd.get 1 rfl); go_simp; exact kk.out _ _ (J.st 2 rfl rfl)
 ·intro L a U ho J hn dd KK kk; refine .free rfl ?_; have r5 := J.read 5 rfl (dd.get 5 rfl); go_simp; exact kk.out _ _ (J.st 6 rfl rfl)
 clear K1 K3 B
 rintro σ W4 _ ⟨K1, K3, _⟩ _ _ B
 simp only [slotsOf, finX, nval, nvalN, nvalA, Nat.reduceBEq, cond_true, cond_false, putAll, Act.put, List.setIfInBounds_toArray, List.set_cons_succ, List.set_cons_zero]
 clear HOF HOT wF wT
 have x10 := K1.out.at_ 0 _ rfl
 go_wp2
 go_loopw [6, 42] (fun lv iv wr => ∃ k : Nat, k ≤ ps.length ∧ iv = .int .i64 k ∧ SRow DI.cells 6 37 wr (b3 + 1) lv (dks U (ps.take k)) ∧ Blk wr b1 #[.slice A ps.length c, .int .i8 F, .int .i8 T, .int .u8 U] 25 ∧ Blk wr b3 #[.string ⟨#[49]⟩, .string ⟨#[48]⟩, .string ⟨#[50]⟩] 29 ∧ Below w.heap.size w wr) (fun _ iv _ => ps.length - (intOf iv).toNat)
 case atStart => exact ⟨0, Nat.zero_le _, rfl, SRow.nil _ _, K1.out, K3.out, B.out⟩
 case round =>
  obtain ⟨k, hk, rfl, hrow, hk1, hk3, hB⟩ := hrel
  clear K1 K3 B x10
  have ROW := Lib.hid hrow
  have K1 := Lib.hid hk1
  have K3 := Lib.hid hk3
  have B := Lib.hid hB
  clear hrow hk1 hk3 hB
  obtain ⟨la, lc, hlv⟩ := ROW.out.len_eval
  subst hlv
  by_cases hlt : k < ps.length
  ·obtain ⟨d, o, c1, e1, _, q1⟩ := (HV.out.below B.out).cell k hlt
   injection e1 with e1 _ e1c
   subst e1 e1c
   have hbd := HS8.out _ (List.getElem_mem hlt)
   have hsn := dks_snoc U ps k hlt
   generalize ps[k] = p at *
   have x0 : wr.cell? ⟨d, o + k * 2, none⟩ = _ := q1 0 _ rfl
   have x1 := q1 1 _ rfl
   clear q1
   have HSN := Lib.hid hsn
   clear hsn
   have hi : (k : Int) < (ps.length : Int) := by omega
   go_upto_region 9 with (fail)
   have K8 := Lib.hid (Blk.fresh wr #[.int .i8 p.1, .int .i8 p.2] 33)
   have qq := below_new wr (.cells #[.int .i8 p.1, .int .i8 p.2] 33)
   replace B := Lib.hid (B.out.trans (qq.mono B.out.size))
   replace K1 := Lib.hid (K1.out.below qq)
   replace K3 := Lib.hid (K3.out.below qq)
   replace ROW := Lib.hid (ROW.out.below qq)
   clear x0 x1 qq
   generalize (wr.alloc (.cells #[.int .i8 p.1, .int .i8 p.2] 33)) = W1 at *
   generalize wr.heap.size = b8 at *
   obtain ⟨hp1, hp2, hp3, hp4⟩ := hbd
   have w1 : IntKind.i64.wrap p.1 = p.1 := IntWalk.i64_in _ (by omega)
   have w2 : IntKind.i64.wrap p.2 = p.2 := IntWalk.i64_in _ (by omega)
   have HO1 : Hid (Ret Tryz.prog W1 6 #[.int .i64 p.1, .int .i64 2] (.string (oT p.1))) := Lib.hid (fun W hW => ofH2 p.1 (by omega) W (HE.out W (B.out.trans (hW.mono B.out.size))))
   have HO2 : Hid (Ret Tryz.prog W1 6 #[.int .i64 p.2, .int .i64 2] (.string (oT p.2))) := Lib.hid (fun W hW => ofH2 p.2 (by omega) W (HE.out W (B.out.trans (hW.mono B.out.size))))
   have lt0 : b8 < W1.heap.size := K8.out.lt
   have lt1 : b3 < W1.heap.size := K3.out.lt
   refine wp_tab (.v 47 (.agg #[.string ⟨#[49]⟩, .string ⟨#[48]⟩, .string ⟨#[50]⟩]) :: .v 48 (.pointer (some ⟨b8, 0, none⟩)) :: .v 49 (.int .i8 p.1) :: .v 50 (.int .i64 p.1) :: .v 51 (.string (oT p.1)) :: .v 52 (.agg #[.string ⟨#[49]⟩, .string ⟨#[48]⟩, .string ⟨#[50]⟩, .string (oT p.1)]) :: .v 53 (.pointer (some ⟨b8, 1, none⟩)) :: .v 54 (.int .i8 p.2) :: .v 55 (.int .i64 p.2) :: .v 56 (.string (oT p.2)) :: .v 57 (.agg #[.string ⟨#[49]⟩, .string ⟨#[48]⟩, .string ⟨#[50]⟩, .string (oT p.1), .string (oT p.2), .string ⟨#[]⟩]) :: .n 9 :: .z :: []) [⟨11, 9, fun g => .pointer (some ⟨g, 0, none⟩), #[.string ⟨#[]⟩, .string ⟨#[]⟩, .string ⟨#[]⟩, .string ⟨#[]⟩, .string ⟨#[]⟩, .string ⟨#[]⟩], 37, some (12, #[.string ⟨#[49]⟩, .string ⟨#[48]⟩, .string ⟨#[50]⟩, .string (oT p.1), .string (oT p.2), .string ⟨#[]⟩])⟩] [⟨b8, #[.int .i8 p.1, .int .i8 p.2], 33, none⟩, ⟨b3, #[.string ⟨#[49]⟩, .string ⟨#[48]⟩, .string ⟨#[50]⟩], 29, none⟩] [] [(12, 11)] [] [] [] (by kernel_rfl) (Below.refl W1.heap.size W1) ⟨K8.out, K3.out, trivial⟩ trivial ⟨ld 1 0, pu, ld 0 0, ?_, cl HO1.out, pu, pu, ld 0 1, ?_, cl HO2.out, pu, ml 0, ?_, trivial⟩ ?_
   ·intro L a U ho J hn dd KK kk; refine .free rfl ?_; have r2 := J.read 2 rfl (dd.get 2 rfl); go_simp; exact kk.out _ _ (J.st 3 rfl rfl)
   ·intro L a U ho J hn dd KK kk; refine .free rfl ?_; have r7 := J.read 7 rfl (dd.get 7 rfl); go_simp; exact kk.out _ _ (J.st 8 rfl rfl)
   ·intro L a U ho J hn dd KK kk; refine .free rfl ?_; have r9 : a.tmps[(9 : Nat)]?.getD undef = .pointer (some ⟨(blkOf (slotOf a 9)), 0, none⟩) := J.readN 0 rfl (dd.get 11 rfl); have r57 := J.read 10 rfl (dd.get 10 rfl); have kb := (J.nwB 0 rfl (dd.get 11 rfl) hn).blk; have c0 := kb.at_ 0 _ rfl; have z0 := kb.free 0; have c1 := kb.at_ 1 _ rfl; have z1 := kb.free 1; have c2 := kb.at_ 2 _ rfl; have z2 := kb.free 2; have c3 := kb.at_ 3 _ rfl; have z3 := kb.free 3; have c4 := kb.at_ 4 _ rfl; have z4 := kb.free 4; have c5 := kb.at_ 5 _ rfl; have z5 := kb.free 5; clear kb; go_simp; exact kk.out undef _ (J.storedN 12 0 rfl rfl rfl rfl rfl 0 [.string ⟨#[49]⟩, .string ⟨#[48]⟩, .string ⟨#[50]⟩, .string (oT p.1), .string (oT p.2), .string ⟨#[]⟩] rfl ⟨lt0, lt1, trivial⟩ (dd.get 11 rfl) hn ⟨.inr (dd.get 11 rfl), trivial⟩)
   rintro σ W5 ⟨⟨L9, K9⟩, _⟩ ⟨_, K3b, _⟩ _ _ QQ
   simp only [slotsOf, finX, nval, nvalN, nvalA, Nat.reduceBEq, cond_true, cond_false, putAll, Act.put, List.setIfInBounds_toArray, List.set_cons_succ, List.set_cons_zero]
   generalize blkOf (σ 9) = b9 at *
   clear K8 lt0 lt1 HO1 HO2
   have wU : IntKind.i64.wrap U = U := IntWalk.i64_in _ (by omega)
   have hl5 : (dks U (ps.take k)).length ≤ 5000 := by rw [dks_len, List.length_take]; omega
   have u3 := (K1.out.below QQ.out).at_ 3 _ rfl
   by_cases hUk : U = (k : Int) + 1
   ·have tU : (U == (k : Int) + 1) = true := by rw [hUk]; exact beq_self_eq_true _
    have hdk : dk U k p = ⟨true, p.1, p.2⟩ := by unfold dk; rw [decide_eq_true hUk]
    clear hUk
    go_upto_region 11 with (fail)
    have Bs := Lib.hid (B.out.trans (QQ.out.mono B.out.size))
    clear u3
    have c0 := K9.out.at_ 0 _ rfl
    have f0 := K9.out.free 0
    have f1 := K9.out.free 1
    have f2 := K9.out.free 2
    go_upto_region 12 with (first
     | (go_at_call 5; with_reducible refine (HSP2.out _ Bs.out).mono ?_; rintro e w8 ⟨rfl, q⟩; replace K9 := Lib.hid (K9.out.below q); replace QQ := Lib.hid (QQ.out.trans (q.mono QQ.out.size)); clear q c0 f0 f1 f2; have c0 := K9.out.at_ 0 _ rfl; have c1 := K9.out.at_ 1 _ rfl; have c2 := K9.out.at_ 2 _ rfl; have f0 := K9.out.free 0; have f1 := K9.out.free 1; have f2 := K9.out.free 2)
     | fail "arm")
    replace QQ := Lib.hid (Below.setCell (p := ⟨b9, 2, none⟩) (Below.setCell (p := ⟨b9, 1, none⟩) (Below.setCell (p := ⟨b9, 0, none⟩) QQ.out L9.out (.string ⟨#[50]⟩)) L9.out (.string ⟨#[48]⟩)) L9.out (.string ⟨#[52]⟩))
    replace K9 : Hid (Blk _ b9 #[.string ⟨#[50]⟩, .string ⟨#[48]⟩, .string ⟨#[52]⟩, .string (oT p.1), .string (oT p.2), .string ⟨#[]⟩] 37) := Lib.hid (((K9.out.set 0 (.string ⟨#[50]⟩)).set 1 (.string ⟨#[48]⟩)).set 2 (.string ⟨#[52]⟩))
    clear c0 c1 c2 f0 f1 f2 Bs
    generalize (((w8.setCell ⟨b9, 0, none⟩ (.string ⟨#[50]⟩)).setCell ⟨b9, 1, none⟩ (.string ⟨#[48]⟩)).setCell ⟨b9, 2, none⟩ (.string ⟨#[52]⟩)) = Wc at *
    go_upto_region 12 with (fail)
    have ROWc := Lib.hid (ROW.out.below QQ.out)
    have K1c := Lib.hid (K1.out.below QQ.out)
    have K3c := Lib.hid (K3.out.below QQ.out)
    have Bc := Lib.hid (B.out.trans (QQ.out.mono B.out.size))
    have z0 := K9.out.at_ 0 _ rfl
    have z1 := K9.out.at_ 1 _ rfl
    have z2 := K9.out.at_ 2 _ rfl
    have z3 := K9.out.at_ 3 _ rfl
    have z4 := K9.out.at_ 4 _ rfl
    have z5 := K9.out.at_ 5 _ rfl
    have hb35 := K3c.out.lt
    have hb15 := K1c.out.lt
    clear ROW K1 K3 B QQ K9
    go_wp2_with (at_builtin; refine app_row dikeElem (fun _ => rfl) DI.one rfl (.tmp 67) (.tmp 69) rfl _ (b3 + 1) hb35 _ _ ROWc.out rfl hl5 (⟨true, p.1, p.2⟩ : DI) rfl ?_; intro v' w9 r1 r2 r3)
    have K19 := r2 b1 _ _ (by omega) K1c.out
    have K39 := r2 b3 _ _ (Nat.lt_succ_self _) K3c.out
    have B9 : Below w.heap.size w w9 := Bc.out.trans (r3.mono (by have := HB1E.out; omega))
    rw [← hdk, ← HSN.out] at r1
    exact ⟨⟨k + 1, by omega, by go_num, r1, K19, K39, B9⟩, by simp [intOf]; omega⟩
   ·have tU : (U == (k : Int) + 1) = false := by rw [beq_eq_false_iff_ne]; exact hUk
    have hdk : dk U k p = ⟨false, p.1, p.2⟩ := by unfold dk; rw [decide_eq_false hUk]
    clear hUk
    go_upto_region 12 with (fail)
    have ROWc := Lib.hid (ROW.out.below QQ.out)
    have K1c := Lib.hid (K1.out.below QQ.out)
    have K3c := Lib.hid (K3.out.below QQ.out)
    have Bc := Lib.hid (B.out.trans (QQ.out.mono B.out.size))
    have z0 := K9.out.at_ 0 _ rfl
    have z1 := K9.out.at_ 1 _ rfl
    have z2 := K9.out.at_ 2 _ rfl
    have z3 := K9.out.at_ 3 _ rfl
    have z4 := K9.out.at_ 4 _ rfl
    have z5 := K9.out.at_ 5 _ rfl
    have hb35 := K3c.out.lt
    have hb15 := K1c.out.lt
    clear ROW K1 K3 B QQ K9
    go_wp2_with (at_builtin; refine app_row dikeElem (fun _ => rfl) DI.one rfl (.tmp 67) (.tmp 69) rfl _ (b3 + 1) hb35 _ _ ROWc.out rfl hl5 (⟨false, p.1, p.2⟩ : DI) rfl ?_; intro v' w9 r1 r2 r3)
    have K19 := r2 b1 _ _ (by omega) K1c.out
    have K39 := r2 b3 _ _ (Nat.lt_succ_self _) K3c.out
    have B9 : Below w.heap.size w w9 := Bc.out.trans (r3.mono (by have := HB1E.out; omega))
    rw [← hdk, ← HSN.out] at r1
    exact ⟨⟨k + 1, by omega, by go_num, r1, K19, K39, B9⟩, by simp [intOf]; omega⟩
  ·have hkl : k = ps.length := by omega
   subst hkl
   have ROWn : Hid (SRow DI.cells 6 37 wr (b3 + 1) (.slice la (dks U ps).length lc) (dks U ps)) := Lib.hid (by have h := ROW.out; rw [List.take_length] at h; exact h)
   rw [List.take_length]
   have hcap : (dks U ps).length ≤ lc := by
    rcases ROWn.out with ⟨h1, _⟩ | ⟨_, _, _, h2, _, _, _, hr⟩
    ·rw [h1]; exact Nat.zero_le _
    ·injection h2 with _ _ h4
     rw [h4]; exact hr.le
   have SL := Lib.hid (ROWn.out.look DI.len)
   have HG := Lib.hid (fun k h => dks_get U ps k h)
   have hsm := dks_small U ps HS8.out
   have hln := dks_len U ps
   clear ROW ROWn HSP2
   generalize dks U ps = ds at *
   have HLN := Lib.hid hln
   have hl4 : ds.length ≤ 4 := by omega
   have LD := Lib.hid (fun W (hW : Below w.heap.size w W) (h : SAt DI.cells 6 W (.slice la ds.length lc) ds) => dilation_any F T (by omega) (by omega) ds hl4 hsm la lc W (HE.out W hW) h hcap)
   have HSM := Lib.hid hsm
   have hlt0 : ¬ (ps.length : Int) < (ps.length : Int) := by omega
   clear hsm hln hcap hlt
   have y0 := K3.out.at_ 0 _ rfl
   have y1 := K3.out.at_ 1 _ rfl
   have y2 := K3.out.at_ 2 _ rfl
   go_upto_region 15 with (first
    | (go_at_call 7; with_reducible refine (LD.out _ B.out SL.out).mono ?_; rintro e wx ⟨⟨S, E, rfl, hE, hS0, hS1⟩, q⟩; replace SL := Lib.hid (SL.out.below q); replace K1 := Lib.hid (K1.out.below q); replace K3 := Lib.hid (K3.out.below q); replace B := Lib.hid (B.out.trans (q.mono B.out.size)); have HEE := Lib.hid hE; have HS0 := Lib.hid hS0; have HS1 := Lib.hid hS1; clear q hE hS0 hS1)
    | fail "arm")
   clear y0 y1 y2 LD hlt0
   have f1 := K1.out.at_ 1 _ rfl
   have f2 := K1.out.at_ 2 _ rfl
   obtain ⟨w0, hw0⟩ : ∃ w0, w0 = (if T ≤ F then (6 : Int) else 0) := ⟨_, rfl⟩
   have HW0 := Lib.hid hw0
   clear hw0
   go_upto_if 84 with (fail)
   clear f1 f2
   go_cut [12] from 84 to 84 (fun wv wc => wv = .int .i64 w0 ∧ wc = wx)
   case first =>
    by_cases hFT : T ≤ F
    ·have d1 : decide (F ≥ T) = true := decide_eq_true hFT
     have HW := Lib.hid (show w0 = 6 by rw [HW0.out, if_pos hFT])
     go_wp2_with (fail)
     go_meet
     case rel => exact ⟨by rw [HW.out], rfl⟩
    ·have d1 : decide (F ≥ T) = false := decide_eq_false hFT
     have HW := Lib.hid (show w0 = 0 by rw [HW0.out, if_neg hFT])
     go_wp2_with (fail)
     go_meet
     case rel => exact ⟨by rw [HW.out], rfl⟩
   case rest =>
    obtain ⟨rfl, rfl⟩ := hcut
    go_wp2
    go_loopw [12, 13, 87] (fun wv sv iv wr => ∃ k : Nat, k ≤ ds.length ∧ iv = .int .i64 k ∧ wv = .int .i64 (wantK F T ds k) ∧ sv = .string (oT (sumB (ds.take k))) ∧ Below wc.heap.size wc wr) (fun _ _ iv _ => ds.length - (intOf iv).toNat)
    case atStart => exact ⟨0, Nat.zero_le _, rfl, by rw [HW0.out]; rfl, by rw [show sumB (ds.take 0) = 0 from rfl, oT_zero], Below.refl _ _⟩
    case round =>
     obtain ⟨k, hk, rfl, rfl, rfl, hQB⟩ := hrel
     have QB := Lib.hid hQB
     clear hQB
     have Bc := Lib.hid (B.out.trans (QB.out.mono B.out.size))
     have K3r := Lib.hid (K3.out.below QB.out)
     have hsb := sumB_bd (ds.take k) (HSM.out.take k)
     have hsb1 : (ds.take k).length ≤ 4 := by rw [List.length_take]; omega
     have hsb2 : (sumB (ds.take k)).natAbs ≤ 800 := by omega
     clear hsb hsb1
     by_cases hlt : k < ds.length
     ·obtain ⟨hda, hdb⟩ := HSM.out _ (List.getElem_mem hlt)
      have hsum : sumB (ds.take (k + 1)) = sumB (ds.take k) + ds[k].b := by rw [List.take_succ_eq_append_getElem hlt, sumB_snoc]
      have HSUM := Lib.hid hsum
      have HWN := Lib.hid (wantK_next F T ds k _ (List.getElem?_eq_getElem hlt))
      clear hsum
      obtain ⟨dd, oo, c1, e1, _, q1⟩ := (SL.out.below QB.out).cell k hlt
      injection e1 with e1 _ e1c
      subst e1 e1c
      generalize ds[k] = d at *
      generalize sumB (ds.take k) = s0 at *
      generalize wantK F T ds k = wk at *
      have x0 : wr.cell? ⟨dd, oo + k * 6, none⟩ = _ := q1 0 _ rfl
      have x1 := q1 1 _ rfl
      have x2 := q1 2 _ rfl
      have x3 := q1 3 _ rfl
      have x4 := q1 4 _ rfl
      have x5 := q1 5 _ rfl
      clear q1
      have hi : (k : Int) < (ds.length : Int) := by omega
      go_upto_region 21 with (fail)
      have K15 := Lib.hid (Blk.fresh wr #[.string (nX d.m), .string ⟨#[48]⟩, .string (nZ d.m), .string (oT d.a), .string (oT d.b), .string ⟨#[]⟩] 37)
      have qq := below_new wr (.cells #[.string (nX d.m), .string ⟨#[48]⟩, .string (nZ d.m), .string (oT d.a), .string (oT d.b), .string ⟨#[]⟩] 37)
      replace QB := Lib.hid (QB.out.trans (qq.mono QB.out.size))
      replace Bc := Lib.hid (Bc.out.trans (qq.mono Bc.out.size))
      replace K3r := Lib.hid (K3r.out.below qq)
      clear x0 x1 x2 x3 x4 x5 qq
      generalize (wr.alloc (.cells #[.string (nX d.m), .string ⟨#[48]⟩, .string (nZ d.m), .string (oT d.a), .string (oT d.b), .string ⟨#[]⟩] 37)) = W1 at *
      generalize wr.heap.size = b15 at *
      have HA1 : Hid (Ret Tryz.prog w 8 #[.string (oT s0), .string (oT d.b)] (.string (oT (s0 + d.b)))) := Lib.hid (fun W hW => addRH s0 d.b (by omega) (by omega) W (HE.out W hW))
      have HA2 : Hid (Ret Tryz.prog w 8 #[.string (oT d.a), .string (oT d.b)] (.string (oT (d.a + d.b)))) := Lib.hid (fun W hW => addRH d.a d.b (by omega) (by omega) W (HE.out W hW))
      have HSG : Hid (∀ W, Calls Tryz.prog 9 #[.string (oT d.b)] W fun e w' => e = .returned (.int .i64 d.b.sign) ∧ W = w') := Lib.hid (fun W => signRH d.b (by omega) W)
      have HC1 : Hid (Ret Tryz.prog w 10 #[.string (oT d.a), .string (oT (2 * F))] (.int .i64 (d.a - 2 * F).sign)) := Lib.hid (fun W hW => cmpRH d.a (2 * F) (by omega) (by omega) W (HE.out W hW))
      have HC3 : Hid (Ret Tryz.prog w 10 #[.string (oT (d.a + d.b)), .string (oT (2 * T))] (.int .i64 (d.a + d.b - 2 * T).sign)) := Lib.hid (fun W hW => cmpRH (d.a + d.b) (2 * T) (by omega) (by omega) W (HE.out W hW))
      have g1 := dsign_le d.b
      have g2 := dsign_lt (d.a - 2 * F)
      have g3 := dsign_gt (d.a + d.b - 2 * T)
      by_cases hwk : wk = 0
      ·subst hwk
       cases hm : d.m with
       | true =>
        have HRES := Lib.hid (show stepW F T 0 d = 7 by unfold stepW badD; rw [if_pos rfl, if_pos hm])
        replace K15 : Hid (Blk W1 b15 #[.string ⟨#[50]⟩, .string ⟨#[48]⟩, .string ⟨#[52]⟩, .string (oT d.a), .string (oT d.b), .string ⟨#[]⟩] 37) := Lib.hid (by have h := K15.out; rw [hm] at h; exact h)
        clear hm g1 g2 g3
        have z0 := K15.out.at_ 0 _ rfl
        have z1 := K15.out.at_ 1 _ rfl
        have z2 := K15.out.at_ 2 _ rfl
        have z3 := K15.out.at_ 3 _ rfl
        have z4 := K15.out.at_ 4 _ rfl
        have y0 := K3r.out.at_ 0 _ rfl
        have y1 := K3r.out.at_ 1 _ rfl
        have y2 := K3r.out.at_ 2 _ rfl
        go_wp2_with (first
         | (go_at_call 8; with_reducible refine (HA1.out _ Bc.out).mono ?_; rintro e wx ⟨rfl, q⟩; replace K15 := Lib.hid (K15.out.below q); replace K3r := Lib.hid (K3r.out.below q); replace Bc := Lib.hid (Bc.out.trans (q.mono Bc.out.size)); replace QB := Lib.hid (QB.out.trans (q.mono QB.out.size)); clear q; have z0 := K15.out.at_ 0 _ rfl; have z1 := K15.out.at_ 1 _ rfl; have z2 := K15.out.at_ 2 _ rfl; have z3 := K15.out.at_ 3 _ rfl; have z4 := K15.out.at_ 4 _ rfl; have y0 := K3r.out.at_ 0 _ rfl; have y1 := K3r.out.at_ 1 _ rfl; have y2 := K3r.out.at_ 2 _ rfl)
         | (go_at_call 8; with_reducible refine (HA2.out _ Bc.out).mono ?_; rintro e wx ⟨rfl, q⟩; replace K15 := Lib.hid (K15.out.below q); replace K3r := Lib.hid (K3r.out.below q); replace Bc := Lib.hid (Bc.out.trans (q.mono Bc.out.size)); replace QB := Lib.hid (QB.out.trans (q.mono QB.out.size)); clear q; have z0 := K15.out.at_ 0 _ rfl; have z1 := K15.out.at_ 1 _ rfl; have z2 := K15.out.at_ 2 _ rfl; have z3 := K15.out.at_ 3 _ rfl; have z4 := K15.out.at_ 4 _ rfl; have y0 := K3r.out.at_ 0 _ rfl; have y1 := K3r.out.at_ 1 _ rfl; have y2 := K3r.out.at_ 2 _ rfl)
         | (go_at_call 9; with_reducible refine (HSG.out _).mono ?_; rintro e wx ⟨rfl, rfl⟩)
         | (go_at_call 10; with_reducible refine (HC1.out _ Bc.out).mono ?_; rintro e wx ⟨rfl, q⟩; replace K15 := Lib.hid (K15.out.below q); replace K3r := Lib.hid (K3r.out.below q); replace Bc := Lib.hid (Bc.out.trans (q.mono Bc.out.size)); replace QB := Lib.hid (QB.out.trans (q.mono QB.out.size)); clear q; have z0 := K15.out.at_ 0 _ rfl; have z1 := K15.out.at_ 1 _ rfl; have z2 := K15.out.at_ 2 _ rfl; have z3 := K15.out.at_ 3 _ rfl; have z4 := K15.out.at_ 4 _ rfl; have y0 := K3r.out.at_ 0 _ rfl; have y1 := K3r.out.at_ 1 _ rfl; have y2 := K3r.out.at_ 2 _ rfl)
         | (go_at_call 10; with_reducible refine (HC3.out _ Bc.out).mono ?_; rintro e wx ⟨rfl, q⟩; replace K15 := Lib.hid (K15.out.below q); replace K3r := Lib.hid (K3r.out.below q); replace Bc := Lib.hid (Bc.out.trans (q.mono Bc.out.size)); replace QB := Lib.hid (QB.out.trans (q.mono QB.out.size)); clear q; have z0 := K15.out.at_ 0 _ rfl; have z1 := K15.out.at_ 1 _ rfl; have z2 := K15.out.at_ 2 _ rfl; have z3 := K15.out.at_ 3 _ rfl; have z4 := K15.out.at_ 4 _ rfl; have y0 := K3r.out.at_ 0 _ rfl; have y1 := K3r.out.at_ 1 _ rfl; have y2 := K3r.out.at_ 2 _ rfl)
         | fail "arm")
        exact ⟨⟨k + 1, by omega, by go_num, by rw [HWN.out, HRES.out], by rw [HSUM.out], QB.out⟩, by simp [intOf]; omega⟩
       | false =>
        replace K15 : Hid (Blk W1 b15 #[.string ⟨#[49]⟩, .string ⟨#[48]⟩, .string ⟨#[50]⟩, .string (oT d.a), .string (oT d.b), .string ⟨#[]⟩] 37) := Lib.hid (by have h := K15.out; rw [hm] at h; exact h)
        have hbf : stepW F T 0 d = if d.b ≤ 0 ∨ d.a < 2 * F ∨ 2 * T < d.a + d.b then 3 else 0 := by unfold stepW badD; rw [if_pos rfl, if_neg (by rw [hm]; decide)]
        clear hm
        by_cases h1 : d.b ≤ 0
        ·have HRES := Lib.hid (show stepW F T 0 d = 3 by rw [hbf, if_pos (.inl h1)])
         rw [decide_eq_true h1] at g1
         clear h1 hbf g2 g3
         generalize d.b.sign = v1 at *
         have z0 := K15.out.at_ 0 _ rfl
         have z1 := K15.out.at_ 1 _ rfl
         have z2 := K15.out.at_ 2 _ rfl
         have z3 := K15.out.at_ 3 _ rfl
         have z4 := K15.out.at_ 4 _ rfl
         have y0 := K3r.out.at_ 0 _ rfl
         have y1 := K3r.out.at_ 1 _ rfl
         have y2 := K3r.out.at_ 2 _ rfl
         go_wp2_with (first
          | (go_at_call 8; with_reducible refine (HA1.out _ Bc.out).mono ?_; rintro e wx ⟨rfl, q⟩; replace K15 := Lib.hid (K15.out.below q); replace K3r := Lib.hid (K3r.out.below q); replace Bc := Lib.hid (Bc.out.trans (q.mono Bc.out.size)); replace QB := Lib.hid (QB.out.trans (q.mono QB.out.size)); clear q; have z0 := K15.out.at_ 0 _ rfl; have z1 := K15.out.at_ 1 _ rfl; have z2 := K15.out.at_ 2 _ rfl; have z3 := K15.out.at_ 3 _ rfl; have z4 := K15.out.at_ 4 _ rfl; have y0 := K3r.out.at_ 0 _ rfl; have y1 := K3r.out.at_ 1 _ rfl; have y2 := K3r.out.at_ 2 _ rfl)
          | (go_at_call 8; with_reducible refine (HA2.out _ Bc.out).mono ?_; rintro e wx ⟨rfl, q⟩; replace K15 := Lib.hid (K15.out.below q); replace K3r := Lib.hid (K3r.out.below q); replace Bc := Lib.hid (Bc.out.trans (q.mono Bc.out.size)); replace QB := Lib.hid (QB.out.trans (q.mono QB.out.size)); clear q; have z0 := K15.out.at_ 0 _ rfl; have z1 := K15.out.at_ 1 _ rfl; have z2 := K15.out.at_ 2 _ rfl; have z3 := K15.out.at_ 3 _ rfl; have z4 := K15.out.at_ 4 _ rfl; have y0 := K3r.out.at_ 0 _ rfl; have y1 := K3r.out.at_ 1 _ rfl; have y2 := K3r.out.at_ 2 _ rfl)
          | (go_at_call 9; with_reducible refine (HSG.out _).mono ?_; rintro e wx ⟨rfl, rfl⟩)
          | (go_at_call 10; with_reducible refine (HC1.out _ Bc.out).mono ?_; rintro e wx ⟨rfl, q⟩; replace K15 := Lib.hid (K15.out.below q); replace K3r := Lib.hid (K3r.out.below q); replace Bc := Lib.hid (Bc.out.trans (q.mono Bc.out.size)); replace QB := Lib.hid (QB.out.trans (q.mono QB.out.size)); clear q; have z0 := K15.out.at_ 0 _ rfl; have z1 := K15.out.at_ 1 _ rfl; have z2 := K15.out.at_ 2 _ rfl; have z3 := K15.out.at_ 3 _ rfl; have z4 := K15.out.at_ 4 _ rfl; have y0 := K3r.out.at_ 0 _ rfl; have y1 := K3r.out.at_ 1 _ rfl; have y2 := K3r.out.at_ 2 _ rfl)
          | (go_at_call 10; with_reducible refine (HC3.out _ Bc.out).mono ?_; rintro e wx ⟨rfl, q⟩; replace K15 := Lib.hid (K15.out.below q); replace K3r := Lib.hid (K3r.out.below q); replace Bc := Lib.hid (Bc.out.trans (q.mono Bc.out.size)); replace QB := Lib.hid (QB.out.trans (q.mono QB.out.size)); clear q; have z0 := K15.out.at_ 0 _ rfl; have z1 := K15.out.at_ 1 _ rfl; have z2 := K15.out.at_ 2 _ rfl; have z3 := K15.out.at_ 3 _ rfl; have z4 := K15.out.at_ 4 _ rfl; have y0 := K3r.out.at_ 0 _ rfl; have y1 := K3r.out.at_ 1 _ rfl; have y2 := K3r.out.at_ 2 _ rfl)
          | fail "arm")
         exact ⟨⟨k + 1, by omega, by go_num, by rw [HWN.out, HRES.out], by rw [HSUM.out], QB.out⟩, by simp [intOf]; omega⟩
        rw [decide_eq_false h1] at g1
        by_cases h2 : d.a < 2 * F
        ·have HRES := Lib.hid (show stepW F T 0 d = 3 by rw [hbf, if_pos (.inr (.inl h2))])
         rw [decide_eq_true (show d.a - 2 * F < 0 by omega)] at g2
         clear h1 h2 hbf g3
         generalize d.b.sign = v1 at *
         generalize (d.a - 2 * F).sign = v2 at *
         have z0 := K15.out.at_ 0 _ rfl
         have z1 := K15.out.at_ 1 _ rfl
         have z2 := K15.out.at_ 2 _ rfl
         have z3 := K15.out.at_ 3 _ rfl
         have z4 := K15.out.at_ 4 _ rfl
         have y0 := K3r.out.at_ 0 _ rfl
         have y1 := K3r.out.at_ 1 _ rfl
         have y2 := K3r.out.at_ 2 _ rfl
         go_wp2_with (first
          | (go_at_call 8; with_reducible refine (HA1.out _ Bc.out).mono ?_; rintro e wx ⟨rfl, q⟩; replace K15 := Lib.hid (K15.out.below q); replace K3r := Lib.hid (K3r.out.below q); replace Bc := Lib.hid (Bc.out.trans (q.mono Bc.out.size)); replace QB := Lib.hid (QB.out.trans (q.mono QB.out.size)); clear q; have z0 := K15.out.at_ 0 _ rfl; have z1 := K15.out.at_ 1 _ rfl; have z2 := K15.out.at_ 2 _ rfl; have z3 := K15.out.at_ 3 _ rfl; have z4 := K15.out.at_ 4 _ rfl; have y0 := K3r.out.at_ 0 _ rfl; have y1 := K3r.out.at_ 1 _ rfl; have y2 := K3r.out.at_ 2 _ rfl)
          | (go_at_call 8; with_reducible refine (HA2.out _ Bc.out).mono ?_; rintro e wx ⟨rfl, q⟩; replace K15 := Lib.hid (K15.out.below q); replace K3r := Lib.hid (K3r.out.below q); replace Bc := Lib.hid (Bc.out.trans (q.mono Bc.out.size)); replace QB := Lib.hid (QB.out.trans (q.mono QB.out.size)); clear q; have z0 := K15.out.at_ 0 _ rfl; have z1 := K15.out.at_ 1 _ rfl; have z2 := K15.out.at_ 2 _ rfl; have z3 := K15.out.at_ 3 _ rfl; have z4 := K15.out.at_ 4 _ rfl; have y0 := K3r.out.at_ 0 _ rfl; have y1 := K3r.out.at_ 1 _ rfl; have y2 := K3r.out.at_ 2 _ rfl)
          | (go_at_call 9; with_reducible refine (HSG.out _).mono ?_; rintro e wx ⟨rfl, rfl⟩)
          | (go_at_call 10; with_reducible refine (HC1.out _ Bc.out).mono ?_; rintro e wx ⟨rfl, q⟩; replace K15 := Lib.hid (K15.out.below q); replace K3r := Lib.hid (K3r.out.below q); replace Bc := Lib.hid (Bc.out.trans (q.mono Bc.out.size)); replace QB := Lib.hid (QB.out.trans (q.mono QB.out.size)); clear q; have z0 := K15.out.at_ 0 _ rfl; have z1 := K15.out.at_ 1 _ rfl; have z2 := K15.out.at_ 2 _ rfl; have z3 := K15.out.at_ 3 _ rfl; have z4 := K15.out.at_ 4 _ rfl; have y0 := K3r.out.at_ 0 _ rfl; have y1 := K3r.out.at_ 1 _ rfl; have y2 := K3r.out.at_ 2 _ rfl)
          | (go_at_call 10; with_reducible refine (HC3.out _ Bc.out).mono ?_; rintro e wx ⟨rfl, q⟩; replace K15 := Lib.hid (K15.out.below q); replace K3r := Lib.hid (K3r.out.below q); replace Bc := Lib.hid (Bc.out.trans (q.mono Bc.out.size)); replace QB := Lib.hid (QB.out.trans (q.mono QB.out.size)); clear q; have z0 := K15.out.at_ 0 _ rfl; have z1 := K15.out.at_ 1 _ rfl; have z2 := K15.out.at_ 2 _ rfl; have z3 := K15.out.at_ 3 _ rfl; have z4 := K15.out.at_ 4 _ rfl; have y0 := K3r.out.at_ 0 _ rfl; have y1 := K3r.out.at_ 1 _ rfl; have y2 := K3r.out.at_ 2 _ rfl)
          | fail "arm")
         exact ⟨⟨k + 1, by omega, by go_num, by rw [HWN.out, HRES.out], by rw [HSUM.out], QB.out⟩, by simp [intOf]; omega⟩
        rw [decide_eq_false (show ¬ d.a - 2 * F < 0 by omega)] at g2
        by_cases h3 : 2 * T < d.a + d.b
        ·have HRES := Lib.hid (show stepW F T 0 d = 3 by rw [hbf, if_pos (.inr (.inr h3))])
         rw [decide_eq_true (show 0 < d.a + d.b - 2 * T by omega)] at g3
         clear h1 h2 h3 hbf
         generalize d.b.sign = v1 at *
         generalize (d.a - 2 * F).sign = v2 at *
         generalize (d.a + d.b - 2 * T).sign = v3 at *
         have z0 := K15.out.at_ 0 _ rfl
         have z1 := K15.out.at_ 1 _ rfl
         have z2 := K15.out.at_ 2 _ rfl
         have z3 := K15.out.at_ 3 _ rfl
         have z4 := K15.out.at_ 4 _ rfl
         have y0 := K3r.out.at_ 0 _ rfl
         have y1 := K3r.out.at_ 1 _ rfl
         have y2 := K3r.out.at_ 2 _ rfl
         go_wp2_with (first
          | (go_at_call 8; with_reducible refine (HA1.out _ Bc.out).mono ?_; rintro e wx ⟨rfl, q⟩; replace K15 := Lib.hid (K15.out.below q); replace K3r := Lib.hid (K3r.out.below q); replace Bc := Lib.hid (Bc.out.trans (q.mono Bc.out.size)); replace QB := Lib.hid (QB.out.trans (q.mono QB.out.size)); clear q; have z0 := K15.out.at_ 0 _ rfl; have z1 := K15.out.at_ 1 _ rfl; have z2 := K15.out.at_ 2 _ rfl; have z3 := K15.out.at_ 3 _ rfl; have z4 := K15.out.at_ 4 _ rfl; have y0 := K3r.out.at_ 0 _ rfl; have y1 := K3r.out.at_ 1 _ rfl; have y2 := K3r.out.at_ 2 _ rfl)
          | (go_at_call 8; with_reducible refine (HA2.out _ Bc.out).mono ?_; rintro e wx ⟨rfl, q⟩; replace K15 := Lib.hid (K15.out.below q); replace K3r := Lib.hid (K3r.out.below q); replace Bc := Lib.hid (Bc.out.trans (q.mono Bc.out.size)); replace QB := Lib.hid (QB.out.trans (q.mono QB.out.size)); clear q; have z0 := K15.out.at_ 0 _ rfl; have z1 := K15.out.at_ 1 _ rfl; have z2 := K15.out.at_ 2 _ rfl; have z3 := K15.out.at_ 3 _ rfl; have z4 := K15.out.at_ 4 _ rfl; have y0 := K3r.out.at_ 0 _ rfl; have y1 := K3r.out.at_ 1 _ rfl; have y2 := K3r.out.at_ 2 _ rfl)
          | (go_at_call 9; with_reducible refine (HSG.out _).mono ?_; rintro e wx ⟨rfl, rfl⟩)
          | (go_at_call 10; with_reducible refine (HC1.out _ Bc.out).mono ?_; rintro e wx ⟨rfl, q⟩; replace K15 := Lib.hid (K15.out.below q); replace K3r := Lib.hid (K3r.out.below q); replace Bc := Lib.hid (Bc.out.trans (q.mono Bc.out.size)); replace QB := Lib.hid (QB.out.trans (q.mono QB.out.size)); clear q; have z0 := K15.out.at_ 0 _ rfl; have z1 := K15.out.at_ 1 _ rfl; have z2 := K15.out.at_ 2 _ rfl; have z3 := K15.out.at_ 3 _ rfl; have z4 := K15.out.at_ 4 _ rfl; have y0 := K3r.out.at_ 0 _ rfl; have y1 := K3r.out.at_ 1 _ rfl; have y2 := K3r.out.at_ 2 _ rfl)
          | (go_at_call 10; with_reducible refine (HC3.out _ Bc.out).mono ?_; rintro e wx ⟨rfl, q⟩; replace K15 := Lib.hid (K15.out.below q); replace K3r := Lib.hid (K3r.out.below q); replace Bc := Lib.hid (Bc.out.trans (q.mono Bc.out.size)); replace QB := Lib.hid (QB.out.trans (q.mono QB.out.size)); clear q; have z0 := K15.out.at_ 0 _ rfl; have z1 := K15.out.at_ 1 _ rfl; have z2 := K15.out.at_ 2 _ rfl; have z3 := K15.out.at_ 3 _ rfl; have z4 := K15.out.at_ 4 _ rfl; have y0 := K3r.out.at_ 0 _ rfl; have y1 := K3r.out.at_ 1 _ rfl; have y2 := K3r.out.at_ 2 _ rfl)
          | fail "arm")
         exact ⟨⟨k + 1, by omega, by go_num, by rw [HWN.out, HRES.out], by rw [HSUM.out], QB.out⟩, by simp [intOf]; omega⟩
        rw [decide_eq_false (show ¬ 0 < d.a + d.b - 2 * T by omega)] at g3
        have HRES := Lib.hid (show stepW F T 0 d = 0 by rw [hbf, if_neg (by omega)])
        clear h1 h2 h3 hbf
        generalize d.b.sign = v1 at *
        generalize (d.a - 2 * F).sign = v2 at *
        generalize (d.a + d.b - 2 * T).sign = v3 at *
        have z0 := K15.out.at_ 0 _ rfl
        have z1 := K15.out.at_ 1 _ rfl
        have z2 := K15.out.at_ 2 _ rfl
        have z3 := K15.out.at_ 3 _ rfl
        have z4 := K15.out.at_ 4 _ rfl
        have y0 := K3r.out.at_ 0 _ rfl
        have y1 := K3r.out.at_ 1 _ rfl
        have y2 := K3r.out.at_ 2 _ rfl
        go_wp2_with (first
         | (go_at_call 8; with_reducible refine (HA1.out _ Bc.out).mono ?_; rintro e wx ⟨rfl, q⟩; replace K15 := Lib.hid (K15.out.below q); replace K3r := Lib.hid (K3r.out.below q); replace Bc := Lib.hid (Bc.out.trans (q.mono Bc.out.size)); replace QB := Lib.hid (QB.out.trans (q.mono QB.out.size)); clear q; have z0 := K15.out.at_ 0 _ rfl; have z1 := K15.out.at_ 1 _ rfl; have z2 := K15.out.at_ 2 _ rfl; have z3 := K15.out.at_ 3 _ rfl; have z4 := K15.out.at_ 4 _ rfl; have y0 := K3r.out.at_ 0 _ rfl; have y1 := K3r.out.at_ 1 _ rfl; have y2 := K3r.out.at_ 2 _ rfl)
         | (go_at_call 8; with_reducible refine (HA2.out _ Bc.out).mono ?_; rintro e wx ⟨rfl, q⟩; replace K15 := Lib.hid (K15.out.below q); replace K3r := Lib.hid (K3r.out.below q); replace Bc := Lib.hid (Bc.out.trans (q.mono Bc.out.size)); replace QB := Lib.hid (QB.out.trans (q.mono QB.out.size)); clear q; have z0 := K15.out.at_ 0 _ rfl; have z1 := K15.out.at_ 1 _ rfl; have z2 := K15.out.at_ 2 _ rfl; have z3 := K15.out.at_ 3 _ rfl; have z4 := K15.out.at_ 4 _ rfl; have y0 := K3r.out.at_ 0 _ rfl; have y1 := K3r.out.at_ 1 _ rfl; have y2 := K3r.out.at_ 2 _ rfl)
         | (go_at_call 9; with_reducible refine (HSG.out _).mono ?_; rintro e wx ⟨rfl, rfl⟩)
         | (go_at_call 10; with_reducible refine (HC1.out _ Bc.out).mono ?_; rintro e wx ⟨rfl, q⟩; replace K15 := Lib.hid (K15.out.below q); replace K3r := Lib.hid (K3r.out.below q); replace Bc := Lib.hid (Bc.out.trans (q.mono Bc.out.size)); replace QB := Lib.hid (QB.out.trans (q.mono QB.out.size)); clear q; have z0 := K15.out.at_ 0 _ rfl; have z1 := K15.out.at_ 1 _ rfl; have z2 := K15.out.at_ 2 _ rfl; have z3 := K15.out.at_ 3 _ rfl; have z4 := K15.out.at_ 4 _ rfl; have y0 := K3r.out.at_ 0 _ rfl; have y1 := K3r.out.at_ 1 _ rfl; have y2 := K3r.out.at_ 2 _ rfl)
         | (go_at_call 10; with_reducible refine (HC3.out _ Bc.out).mono ?_; rintro e wx ⟨rfl, q⟩; replace K15 := Lib.hid (K15.out.below q); replace K3r := Lib.hid (K3r.out.below q); replace Bc := Lib.hid (Bc.out.trans (q.mono Bc.out.size)); replace QB := Lib.hid (QB.out.trans (q.mono QB.out.size)); clear q; have z0 := K15.out.at_ 0 _ rfl; have z1 := K15.out.at_ 1 _ rfl; have z2 := K15.out.at_ 2 _ rfl; have z3 := K15.out.at_ 3 _ rfl; have z4 := K15.out.at_ 4 _ rfl; have y0 := K3r.out.at_ 0 _ rfl; have y1 := K3r.out.at_ 1 _ rfl; have y2 := K3r.out.at_ 2 _ rfl)
         | fail "arm")
        exact ⟨⟨k + 1, by omega, by go_num, by rw [HWN.out, HRES.out], by rw [HSUM.out], QB.out⟩, by simp [intOf]; omega⟩
      ·have t0 : (wk == 0) = false := by rw [beq_eq_false_iff_ne]; exact hwk
       have HRES := Lib.hid (show stepW F T wk d = wk by unfold stepW; rw [if_neg hwk])
       clear hwk g1 g2 g3
       have z0 := K15.out.at_ 0 _ rfl
       have z1 := K15.out.at_ 1 _ rfl
       have z2 := K15.out.at_ 2 _ rfl
       have z3 := K15.out.at_ 3 _ rfl
       have z4 := K15.out.at_ 4 _ rfl
       have y0 := K3r.out.at_ 0 _ rfl
       have y1 := K3r.out.at_ 1 _ rfl
       have y2 := K3r.out.at_ 2 _ rfl
       go_wp2_with (first
        | (go_at_call 8; with_reducible refine (HA1.out _ Bc.out).mono ?_; rintro e wx ⟨rfl, q⟩; replace K15 := Lib.hid (K15.out.below q); replace K3r := Lib.hid (K3r.out.below q); replace Bc := Lib.hid (Bc.out.trans (q.mono Bc.out.size)); replace QB := Lib.hid (QB.out.trans (q.mono QB.out.size)); clear q; have z0 := K15.out.at_ 0 _ rfl; have z1 := K15.out.at_ 1 _ rfl; have z2 := K15.out.at_ 2 _ rfl; have z3 := K15.out.at_ 3 _ rfl; have z4 := K15.out.at_ 4 _ rfl; have y0 := K3r.out.at_ 0 _ rfl; have y1 := K3r.out.at_ 1 _ rfl; have y2 := K3r.out.at_ 2 _ rfl)
        | (go_at_call 8; with_reducible refine (HA2.out _ Bc.out).mono ?_; rintro e wx ⟨rfl, q⟩; replace K15 := Lib.hid (K15.out.below q); replace K3r := Lib.hid (K3r.out.below q); replace Bc := Lib.hid (Bc.out.trans (q.mono Bc.out.size)); replace QB := Lib.hid (QB.out.trans (q.mono QB.out.size)); clear q; have z0 := K15.out.at_ 0 _ rfl; have z1 := K15.out.at_ 1 _ rfl; have z2 := K15.out.at_ 2 _ rfl; have z3 := K15.out.at_ 3 _ rfl; have z4 := K15.out.at_ 4 _ rfl; have y0 := K3r.out.at_ 0 _ rfl; have y1 := K3r.out.at_ 1 _ rfl; have y2 := K3r.out.at_ 2 _ rfl)
        | (go_at_call 9; with_reducible refine (HSG.out _).mono ?_; rintro e wx ⟨rfl, rfl⟩)
        | (go_at_call 10; with_reducible refine (HC1.out _ Bc.out).mono ?_; rintro e wx ⟨rfl, q⟩; replace K15 := Lib.hid (K15.out.below q); replace K3r := Lib.hid (K3r.out.below q); replace Bc := Lib.hid (Bc.out.trans (q.mono Bc.out.size)); replace QB := Lib.hid (QB.out.trans (q.mono QB.out.size)); clear q; have z0 := K15.out.at_ 0 _ rfl; have z1 := K15.out.at_ 1 _ rfl; have z2 := K15.out.at_ 2 _ rfl; have z3 := K15.out.at_ 3 _ rfl; have z4 := K15.out.at_ 4 _ rfl; have y0 := K3r.out.at_ 0 _ rfl; have y1 := K3r.out.at_ 1 _ rfl; have y2 := K3r.out.at_ 2 _ rfl)
        | (go_at_call 10; with_reducible refine (HC3.out _ Bc.out).mono ?_; rintro e wx ⟨rfl, q⟩; replace K15 := Lib.hid (K15.out.below q); replace K3r := Lib.hid (K3r.out.below q); replace Bc := Lib.hid (Bc.out.trans (q.mono Bc.out.size)); replace QB := Lib.hid (QB.out.trans (q.mono QB.out.size)); clear q; have z0 := K15.out.at_ 0 _ rfl; have z1 := K15.out.at_ 1 _ rfl; have z2 := K15.out.at_ 2 _ rfl; have z3 := K15.out.at_ 3 _ rfl; have z4 := K15.out.at_ 4 _ rfl; have y0 := K3r.out.at_ 0 _ rfl; have y1 := K3r.out.at_ 1 _ rfl; have y2 := K3r.out.at_ 2 _ rfl)
        | fail "arm")
       exact ⟨⟨k + 1, by omega, by go_num, by rw [HWN.out, HRES.out], by rw [HSUM.out], QB.out⟩, by simp [intOf]; omega⟩
     ·have hkl : k = ds.length := by omega
      subst hkl
      rw [List.take_length] at hsb2 ⊢
      have hlt0 : ¬ (ds.length : Int) < (ds.length : Int) := by omega
      have HW2 := Lib.hid (show wantK F T ds ds.length = wantK F T ds ds.length from rfl)
      obtain ⟨w2, hw2⟩ : ∃ w2, wantK F T ds ds.length = w2 := ⟨_, rfl⟩
      rw [hw2]
      have HW3 := Lib.hid hw2
      clear hw2 HW2
      have K1z := Lib.hid (K1.out.below QB.out)
      have f0 := K1z.out.at_ 0 _ rfl
      clear SL K3 K3r QB K1 hlt B
      generalize wr = Wz at *
      have hln := HLN.out
      go_wp2
      go_loopw [12, 136] (fun wv iv wr => ∃ (k : Nat) (W : Int), k ≤ ps.length ∧ iv = .int .i64 k ∧ wv = .int .i64 W ∧ WOk ds w2 W (NoHit ds k) ∧ Below Wz.heap.size Wz wr) (fun _ iv _ => ps.length - (intOf iv).toNat)
      case atStart =>
       refine ⟨0, w2, Nat.zero_le _, rfl, rfl, ⟨fun _ => rfl, fun h => .inl ⟨h, fun i j d x h => by omega⟩⟩, Below.refl _ _⟩
      case round =>
       obtain ⟨k, W, hk, rfl, rfl, hwok, hQB⟩ := hrel
       have QB := Lib.hid hQB
       have WK := Lib.hid hwok
       clear hQB hwok f0
       have K1r := Lib.hid (K1z.out.below QB.out)
       have f0 := K1r.out.at_ 0 _ rfl
       by_cases hlt : k < ps.length
       ·obtain ⟨d, o, c1, e1, _, q1⟩ := (HV.out.below (Bc.out.trans (QB.out.mono Bc.out.size))).cell k hlt
        injection e1 with e1 _ e1c
        subst e1 e1c
        obtain ⟨hp1, hp2, hp3, hp4⟩ := HS8.out _ (List.getElem_mem hlt)
        have HDk := Lib.hid (HG.out k hlt)
        generalize ps[k] = p at *
        have x0 : wr.cell? ⟨d, o + k * 2, none⟩ = _ := q1 0 _ rfl
        have x1 := q1 1 _ rfl
        clear q1
        have hi : (k : Int) < (ps.length : Int) := by omega
        have hkc : (k : Int) ≤ (c : Int) := by omega
        have hc0 : c ≠ 0 := by omega
        go_upto_region 31 with (fail)
        have K18 := Lib.hid (Blk.fresh wr #[.int .i8 p.1, .int .i8 p.2] 33)
        have qq := below_new wr (.cells #[.int .i8 p.1, .int .i8 p.2] 33)
        replace QB := Lib.hid (QB.out.trans (qq.mono QB.out.size))
        replace K1r := Lib.hid (K1r.out.below qq)
        clear x0 x1 qq f0
        generalize (wr.alloc (.cells #[.int .i8 p.1, .int .i8 p.2] 33)) = W1 at *
        generalize wr.heap.size = b18 at *
        have f0 := K1r.out.at_ 0 _ rfl
        go_wp2
        go_loopw [12, 146] (fun wv jv wr => ∃ (j : Nat) (W : Int), j ≤ k ∧ jv = .int .i64 j ∧ wv = .int .i64 W ∧ WOk ds w2 W (NoHit ds k ∧ NoHitAt ds (dk U k p) j) ∧ Blk wr b18 #[.int .i8 p.1, .int .i8 p.2] 33 ∧ Below Wz.heap.size Wz wr) (fun _ jv _ => k - (intOf jv).toNat)
        case atStart => exact ⟨0, W, Nat.zero_le _, rfl, rfl, ⟨WK.out.1, fun h0 => (WK.out.2 h0).imp (fun h3 => ⟨h3.1, h3.2, fun i x h => by omega⟩) id⟩, K18.out, QB.out⟩
        case round =>
         obtain ⟨j, W2, hj, rfl, rfl, hwok2, hk18, hQB⟩ := hrel
         clear K18 QB f0
         have K18 := Lib.hid hk18
         have QB := Lib.hid hQB
         have WK2 := Lib.hid hwok2
         clear hk18 hQB hwok2
         by_cases hjk : j < k
         ·have hlt3 : j < ps.length := by omega
          obtain ⟨d3, o3, c3, e3, _, q3⟩ := (HV.out.below (Bc.out.trans (QB.out.mono Bc.out.size))).cell j hlt3
          injection e3 with e3 _ e3c
          injection e3 with e3
          injection e3 with e3a e3b
          subst e3a e3b e3c
          obtain ⟨hx1, hx2, hx3, hx4⟩ := HS8.out _ (List.getElem_mem hlt3)
          have HDj := Lib.hid (HG.out j hlt3)
          generalize ps[j] = x at *
          have x0 : wr.cell? ⟨d, o + j * 2, none⟩ = _ := q3 0 _ rfl
          have x1 := q3 1 _ rfl
          clear q3
          have hji : (j : Int) < (k : Int) := by omega
          go_upto_region 34 with (fail)
          have K20 := Lib.hid (Blk.fresh wr #[.int .i8 x.1, .int .i8 x.2] 33)
          have qq := below_new wr (.cells #[.int .i8 x.1, .int .i8 x.2] 33)
          replace QB := Lib.hid (QB.out.trans (qq.mono QB.out.size))
          replace K18 := Lib.hid (K18.out.below qq)
          clear x0 x1 qq
          generalize (wr.alloc (.cells #[.int .i8 x.1, .int .i8 x.2] 33)) = W3 at *
          generalize wr.heap.size = b20 at *
          have u0 := K18.out.at_ 0 _ rfl
          have u1 := K18.out.at_ 1 _ rfl
          have v0 := K20.out.at_ 0 _ rfl
          have v1 := K20.out.at_ 1 _ rfl
          have a1 : IntKind.i64.wrap p.1 = p.1 := IntWalk.i64_in _ (by omega)
          have a2 : IntKind.i64.wrap p.2 = p.2 := IntWalk.i64_in _ (by omega)
          have a3 : IntKind.i64.wrap x.1 = x.1 := IntWalk.i64_in _ (by omega)
          have a4 : IntKind.i64.wrap x.2 = x.2 := IntWalk.i64_in _ (by omega)
          have a5 : IntKind.i64.wrap (x.1 + x.2) = x.1 + x.2 := IntWalk.i64_in _ (by omega)
          have a6 : IntKind.i64.wrap (p.1 + p.2) = p.1 + p.2 := IntWalk.i64_in _ (by omega)
          by_cases hW : W2 = 0
          ·subst hW
           by_cases h1 : p.1 < x.1 + x.2
           ·have d1 : decide (p.1 < x.1 + x.2) = true := decide_eq_true h1
            by_cases h2 : x.1 < p.1 + p.2
            ·have d2 : decide (x.1 < p.1 + p.2) = true := decide_eq_true h2
             have WN := Lib.hid (WK2.out.hit (P' := NoHit ds k ∧ NoHitAt ds (dk U k p) (j + 1)) (fun hno => hno k j _ _ (by omega) hjk HDk.out HDj.out ⟨h2, h1⟩))
             clear h1 h2
             go_wp2
             exact ⟨⟨j + 1, 26, by omega, by go_num, rfl, WN.out, K18.out, QB.out⟩, by simp [intOf]; omega⟩
            ·have d2 : decide (x.1 < p.1 + p.2) = false := decide_eq_false h2
             have WN := Lib.hid (WK2.out.go (P' := NoHit ds k ∧ NoHitAt ds (dk U k p) (j + 1)) (fun hp => ⟨hp.1, hp.2.next HDj.out (fun hh => h2 hh.1)⟩))
             clear h1 h2
             go_wp2
             exact ⟨⟨j + 1, 0, by omega, by go_num, rfl, WN.out, K18.out, QB.out⟩, by simp [intOf]; omega⟩
           ·have d1 : decide (p.1 < x.1 + x.2) = false := decide_eq_false h1
            have WN := Lib.hid (WK2.out.go (P' := NoHit ds k ∧ NoHitAt ds (dk U k p) (j + 1)) (fun hp => ⟨hp.1, hp.2.next HDj.out (fun hh => h1 hh.2)⟩))
            clear h1
            go_wp2
            exact ⟨⟨j + 1, 0, by omega, by go_num, rfl, WN.out, K18.out, QB.out⟩, by simp [intOf]; omega⟩
          ·have t0 : (W2 == 0) = false := by rw [beq_eq_false_iff_ne]; exact hW
           have WN := Lib.hid (WK2.out.keep (P' := NoHit ds k ∧ NoHitAt ds (dk U k p) (j + 1)) hW)
           clear hW
           go_wp2
           exact ⟨⟨j + 1, W2, by omega, by go_num, rfl, WN.out, K18.out, QB.out⟩, by simp [intOf]; omega⟩
         ·have hjk2 : j = k := by omega
          subst hjk2
          have WN : Hid (WOk ds w2 W2 (NoHit ds (j + 1))) := Lib.hid ⟨WK2.out.1, fun h0 => (WK2.out.2 h0).imp (fun h3 => ⟨h3.1, h3.2.1.next HDk.out h3.2.2⟩) id⟩
          have hlt1 : ¬ (j : Int) < (j : Int) := by omega
          go_wp2
          exact ⟨⟨j + 1, W2, by omega, by go_num, rfl, WN.out, QB.out⟩, by simp [intOf]; omega⟩
       ·have hkl : k = ps.length := by omega
        subst hkl
        have hlt1 : ¬ (ps.length : Int) < (ps.length : Int) := by omega
        have BB := Lib.hid (Bc.out.trans (QB.out.mono Bc.out.size))
        have hfin : dilE F T ds = W := by
         have h := WK.out
         rw [← hln, ← HW3.out] at h
         exact h.fin
        have HEW := Lib.hid (HEE.out.trans hfin)
        have HFIN := Lib.hid hfin
        clear hfin hlt f0
        by_cases hW : W = 0
        ·subst hW
         have hE0 : E = 0 := HEW.out
         have hS := HS1.out hE0
         have hds := HFIN.out
         have hcond : F < T ∧ NoBad F T ds ds.length ∧ NoHit ds ds.length := by
          unfold dilE at hds
          by_cases h1 : T ≤ F
          ·rw [if_pos h1] at hds; cases hds
          ·rw [if_neg h1] at hds
           by_cases h2 : firstE (ds.map (badD F T)) = 0
           ·rw [if_neg (fun h => h h2)] at hds
            by_cases h3 : NoHit ds ds.length
            ·refine ⟨by omega, ?_, h3⟩
             unfold NoBad
             rw [List.take_of_length_le (by simp)]
             unfold firstE at h2
             cases hf : (ds.map (badD F T)).find? (· != 0) with
             | none => rfl
             | some y =>
              rw [hf] at h2
              have := List.find?_some hf
              simp at h2 this
              exact absurd h2 this
            ·rw [if_neg h3] at hds; cases hds
           ·rw [if_pos h2] at hds; exact absurd hds h2
         obtain ⟨hft, hnb, hnh⟩ := hcond
         have hle := sum_le F T ds hl4 hft hnb hnh
         subst hE0
         have hsbx : (sumB ds).natAbs ≤ 800 := hsb2
         have HSB : Hid (Ret Tryz.prog w 12 #[.string (oT (2 * T)), .string (oT (2 * F))] (.string (oT (2 * T - 2 * F)))) := Lib.hid (fun W hW => subRH _ _ (by omega) (by omega) W (HE.out W hW))
         have HDV : Hid (Ret Tryz.prog w 11 #[.string (oT (sumB ds)), .string (oT (2 * T - 2 * F))] (.string S)) := Lib.hid (fun W hW => by rw [hS]; exact divRH _ _ (by omega) (by omega) W (HE.out W hW) (by omega))
         have HCP : Hid (Ret Tryz.prog w 10 #[.string S, .string ⟨#[49]⟩] (.int .i64 (sumB ds - (2 * T - 2 * F)).sign)) := Lib.hid (fun W hW => by rw [hS]; exact cmp1RH _ _ (by omega) (by omega) W (HE.out W hW) (by omega))
         have g1 := dsign_le (sumB ds - (2 * T - 2 * F))
         rw [decide_eq_true (show sumB ds - (2 * T - 2 * F) ≤ 0 by omega)] at g1
         clear hS hds hft hnb hnh hle hsbx hsb2
         generalize (sumB ds - (2 * T - 2 * F)).sign = v1 at *
         go_wp2_with (first
          | (go_at_call 12; with_reducible refine (HSB.out _ BB.out).mono ?_; rintro e wx ⟨rfl, q⟩; replace BB := Lib.hid (BB.out.trans (q.mono BB.out.size)); clear q)
          | (go_at_call 11; with_reducible refine (HDV.out _ BB.out).mono ?_; rintro e wx ⟨rfl, q⟩; replace BB := Lib.hid (BB.out.trans (q.mono BB.out.size)); clear q)
          | (go_at_call 10; with_reducible refine (HCP.out _ BB.out).mono ?_; rintro e wx ⟨rfl, q⟩; replace BB := Lib.hid (BB.out.trans (q.mono BB.out.size)); clear q)
          | fail "arm")
         all_goals
          go_ret
          exact ⟨by simp, BB.out⟩
        ·have hE : E = W := HEW.out
         subst hE
         have hS := HS0.out hW
         subst hS
         have t0 : (E != 0) = true := by rw [bne_iff_ne]; exact hW
         clear hW
         go_wp2
         all_goals
          go_ret
          exact ⟨by simp, BB.out⟩

end Go.Proofs.YtnallacamijkeaaGreatDoor
