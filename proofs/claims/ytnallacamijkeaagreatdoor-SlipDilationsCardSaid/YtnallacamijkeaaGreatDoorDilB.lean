/- Dilation at dikes that are given in halves. -/
import Derived.Test.YtnallacamijkeaaGreatDoorDilA
import Derived.Test.YtnallacamijkeaaGreatDoorGSlipZ
import Derived.Test.YtnallacamijkeaaGreatDoorRatM
import Derived.Test.YtnallacamijkeaaGreatDoorLinR
import Derived.Test.YtnallacamijkeaaGreatDoorElems
namespace Go.Proofs.YtnallacamijkeaaGreatDoor
set_option linter.all false
open Go.RowKit

theorem half_add (x y : Int) : mkRat x 2 + mkRat y 2 = mkRat (x + y) 2 := by
 rw [Rat.mkRat_eq_div, Rat.mkRat_eq_div, Rat.mkRat_eq_div, Rat.intCast_add]
 grind
theorem half_sub (x y : Int) : mkRat x 2 - mkRat y 2 = mkRat (x - y) 2 := by
 rw [Rat.mkRat_eq_div, Rat.mkRat_eq_div, Rat.mkRat_eq_div, Rat.intCast_sub]
 grind
theorem half_whole (x : Int) : mkRat x 1 = mkRat (2 * x) 2 := by
 rw [Rat.mkRat_eq_div, Rat.mkRat_eq_div, Rat.intCast_mul]
 grind
theorem half_quot (x y : Int) : mkRat x 2 / mkRat y 2 = (x : Rat) / (y : Rat) := by
 rw [Rat.mkRat_eq_div, Rat.mkRat_eq_div]
 grind
theorem half_ne (x : Int) (h : x ≠ 0) : mkRat x 2 ≠ 0 := by
 intro e
 rw [Rat.mkRat_eq_zero (by decide)] at e
 exact h e
theorem dsign_lt (z : Int) : decide (z.sign < 0) = decide (z < 0) := by simp
theorem dsign_gt (z : Int) : decide (z.sign > 0) = decide (0 < z) := by simp
theorem dsign_le (z : Int) : decide (z.sign ≤ 0) = decide (z ≤ 0) := by
 rw [decide_eq_decide]
 rcases Int.lt_trichotomy z 0 with h | h | h
 ·rw [Int.sign_eq_neg_one_of_neg h]; omega
 ·subst h; simp
 ·rw [Int.sign_eq_one_of_pos h]; omega
theorem dsign_ge (z : Int) : decide (z.sign ≥ 0) = decide (0 ≤ z) := by
 rw [decide_eq_decide]
 rcases Int.lt_trichotomy z 0 with h | h | h
 ·rw [Int.sign_eq_neg_one_of_neg h]; omega
 ·subst h; simp
 ·rw [Int.sign_eq_one_of_pos h]; omega
theorem dhalf_sz (x : Int) (h : x.natAbs < 10000) : Sz (mkRat x 2) 4 := (S2.of (a := 4) (b := 1) (by decide) rfl h (by decide)).sz (by omega) (by omega)
theorem half_cmp (x y : Int) : cmpR (mkRat x 2) (mkRat y 2) = (x - y).sign := by
 rw [cmpR_sub, half_sub, num_mk_sign _ _ (by decide)]
theorem oT_zero : oT 0 = ⟨#[48]⟩ := by
 unfold oT
 rw [show mkRat 0 2 = 0 from by rw [Rat.mkRat_eq_zero (by decide)], canonR0]
theorem oT_right (x : Int) (h : x.natAbs < 10000) : rightQ (oT x) = true := right_of_sz (dhalf_sz x h) (by omega) (by omega)
theorem oT_size (x : Int) (h : x.natAbs < 10000) : (oT x).size ≤ 20 := by have := (dhalf_sz x h).text (by omega); unfold oT; omega

section
variable (x y : Int) (hx : x.natAbs < 10000) (hy : y.natAbs < 10000) (w : World) (he : Env w)
include hx hy he
theorem addH : Calls Tryz.prog 26 #[.string (oT x), .string (oT y)] w fun e w' => e = .returned (.string (oT (x + y))) ∧ Below w.heap.size w w' := by
 have h := radd_any (mkRat x 2) (mkRat y 2) 4 (by omega) (by omega) (dhalf_sz x hx) (dhalf_sz y hy) w he
 rw [half_add] at h
 exact h
theorem cmpH : Calls Tryz.prog 24 #[.string (oT x), .string (oT y)] w fun e w' => e = .returned (.int .i64 (x - y).sign) ∧ Below w.heap.size w w' := by
 have h := rcompare_any (mkRat x 2) (mkRat y 2) 4 (by omega) (by omega) (dhalf_sz x hx) (dhalf_sz y hy) w he
 rw [show ((mkRat x 2).num * ((mkRat y 2).den : Int) - (mkRat y 2).num * ((mkRat x 2).den : Int)).sign = cmpR (mkRat x 2) (mkRat y 2) from rfl, half_cmp] at h
 exact h
theorem subH : Calls Tryz.prog 28 #[.string (oT x), .string (oT y)] w fun e w' => e = .returned (.string (oT (x - y))) ∧ Below w.heap.size w w' := by
 have h := rsub_any (mkRat x 2) (mkRat y 2) 4 (by omega) (by omega) (dhalf_sz x hx) (dhalf_sz y hy) w he
 rw [half_sub] at h
 exact h
theorem divH (h0 : y ≠ 0) : Calls Tryz.prog 27 #[.string (oT x), .string (oT y)] w fun e w' => e = .returned (.tuple #[.string (canonR ((x : Rat) / (y : Rat))), .int .i64 0]) ∧ Below w.heap.size w w' := by
 have h := rdiv_any (mkRat x 2) (mkRat y 2) 4 (by omega) (by omega) (dhalf_sz x hx) (dhalf_sz y hy) (half_ne y h0) w he
 rw [half_quot] at h
 exact h
end
theorem signH (x : Int) (hx : x.natAbs < 10000) (w : World) : Calls Tryz.prog 25 #[.string (oT x)] w fun e w' => e = .returned (.int .i64 x.sign) ∧ w = w' := by
 have h := rsign_any (mkRat x 2) w (by have := oT_size x hx; unfold oT at this; omega)
 rw [num_mk_sign _ _ (by decide)] at h
 exact h
theorem dshort_ok (A : ByteArray) (w : World) (h_k1 : Ret Tryz.prog w 54 #[.string A] (.int .i64 0)) :
  Calls Tryz.prog 29 #[.string A] w fun e w' => e = .returned (.tuple #[.string A, .int .i64 0]) ∧ Below w.heap.size w w' := by
 have H_K1 := Lib.hid h_k1
 clear h_k1
 have B := Lib.hid (Below.refl w.heap.size w)
 go_enter Tryz.func29, Tryz.ntmps29
 go_wp2_with (first
  | (go_at_call 54; with_reducible refine (H_K1.out _ B.out).mono ?_; rintro e wx ⟨rfl, q⟩; replace B := Lib.hid (B.out.trans (q.mono B.out.size)); clear q)
  | fail "arm")
 go_ret2
 exact ⟨rfl, B.out⟩
theorem quot_sz (x y : Int) (hx : x.natAbs < 10000) (hy : y.natAbs < 10000) (h0 : 0 < y) : Sz ((x : Rat) / (y : Rat)) 4 := by
 obtain ⟨n, rfl⟩ := Int.eq_ofNat_of_zero_le (show 0 ≤ y by omega)
 have e : (x : Rat) / ((n : Int) : Rat) = mkRat x n := (Rat.mkRat_eq_div x n).symm
 exact (S2.of (a := 4) (b := 4) (by omega) e hx (by omega)).sz (by omega) (by omega)
theorem shortH (q : Rat) (hq : Sz q 4) (w : World) (he : Env w) : Calls Tryz.prog 29 #[.string (canonR q)] w fun e w' => e = .returned (.tuple #[.string (canonR q), .int .i64 0]) ∧ Below w.heap.size w w' := by
 refine dshort_ok (canonR q) w (fun W hW => ?_)
 have h := rcheck_any (canonR q) W (he.below hW) (by have := hq.text (by omega); omega)
 rw [if_pos (right_of_sz hq (by omega) (by omega))] at h
 exact h

def sumB : List DI → Int
 | [] => 0
 | d :: ds => d.b + sumB ds
theorem sumB_snoc : ∀ (ds : List DI) (d : DI), sumB (ds ++ [d]) = sumB ds + d.b
 | [], d => by show d.b + 0 = 0 + d.b; omega
 | x :: ds, d => by
  have h := sumB_snoc ds d
  show x.b + sumB (ds ++ [d]) = x.b + sumB ds + d.b
  omega
def SmallD (ds : List DI) : Prop := ∀ d ∈ ds, d.a.natAbs ≤ 200 ∧ d.b.natAbs ≤ 200
theorem sumB_bd : ∀ (ds : List DI), SmallD ds → (sumB ds).natAbs ≤ 200 * ds.length
 | [], _ => Nat.le_refl _
 | d :: ds, h => by
  have h1 := sumB_bd ds (fun x hx => h x (List.mem_cons_of_mem _ hx))
  have h2 := h d List.mem_cons_self
  show (d.b + sumB ds).natAbs ≤ 200 * (ds.length + 1)
  omega
theorem SmallD.take {ds : List DI} (h : SmallD ds) (k : Nat) : SmallD (ds.take k) := fun d hd => h d (List.mem_of_mem_take hd)
def NoHit (ds : List DI) (k : Nat) : Prop := ∀ i j d x, i < k → j < i → ds[i]? = some d → ds[j]? = some x → ¬ hitD d x
def NoHitAt (ds : List DI) (d : DI) (j : Nat) : Prop := ∀ i x, i < j → ds[i]? = some x → ¬ hitD d x
theorem NoHit.next {ds : List DI} {k : Nat} {d : DI} (h : NoHit ds k) (hd : ds[k]? = some d) (h2 : NoHitAt ds d k) : NoHit ds (k + 1) := by
 intro i j d' x hi hj h3 h4
 rcases Nat.lt_or_ge i k with h5 | h5
 ·exact h i j d' x h5 hj h3 h4
 ·obtain rfl : i = k := by omega
  rw [hd] at h3
  injection h3 with h3
  rw [← h3]
  exact h2 j x hj h4
theorem NoHitAt.next {ds : List DI} {j : Nat} {d x : DI} (h : NoHitAt ds d j) (hx : ds[j]? = some x) (h2 : ¬ hitD d x) : NoHitAt ds d (j + 1) := by
 intro i y hi hy
 rcases Nat.lt_or_ge i j with h5 | h5
 ·exact h i y h5 hy
 ·obtain rfl : i = j := by omega
  rw [hx] at hy
  injection hy with hy
  rw [← hy]; exact h2
open Classical in
noncomputable def dilE (f t : Int) (ds : List DI) : Int := if t ≤ f then 6 else if firstE (ds.map (badD f t)) ≠ 0 then firstE (ds.map (badD f t)) else if NoHit ds ds.length then 0 else 26
def NoBad (f t : Int) (ds : List DI) (k : Nat) : Prop := ((ds.map (badD f t)).take k).find? (· != 0) = none
theorem NoBad.next {f t : Int} {ds : List DI} {k : Nat} {d : DI} (h : NoBad f t ds k) (hd : ds[k]? = some d) (hb : badD f t d = 0) : NoBad f t ds (k + 1) := by
 obtain ⟨hk, e⟩ := List.getElem?_eq_some_iff.1 hd
 refine find_take_none _ _ k (by simpa using hk) h ?_
 simp [e, hb]
theorem NoBad.stop {f t : Int} {ds : List DI} {k : Nat} {d : DI} (h : NoBad f t ds k) (hd : ds[k]? = some d) (hb : badD f t d ≠ 0) : firstE (ds.map (badD f t)) = badD f t d := by
 obtain ⟨hk, e⟩ := List.getElem?_eq_some_iff.1 hd
 have := find_take_succ (· != 0) (ds.map (badD f t)) k (by simpa using hk) h (by simp [e, hb])
 unfold firstE
 rw [this]
 simp [e]
theorem NoBad.all {f t : Int} {ds : List DI} (h : NoBad f t ds ds.length) : firstE (ds.map (badD f t)) = 0 := by
 unfold NoBad at h
 rw [List.take_of_length_le (by simp)] at h
 unfold firstE
 rw [h]
 rfl
theorem dilE_order {f t : Int} {ds : List DI} (h : t ≤ f) : dilE f t ds = 6 := by unfold dilE; rw [if_pos h]
theorem dilE_bad {f t : Int} {ds : List DI} {k : Nat} {d : DI} (h : f < t) (hn : NoBad f t ds k) (hd : ds[k]? = some d) (hb : badD f t d ≠ 0) : dilE f t ds = badD f t d := by
 unfold dilE
 rw [if_neg (by omega), hn.stop hd hb, if_pos hb]
theorem dilE_hit {f t : Int} {ds : List DI} {k j : Nat} {d x : DI} (h : f < t) (hn : NoBad f t ds ds.length) (hd : ds[k]? = some d) (hj : j < k) (hx : ds[j]? = some x) (hh : hitD d x) : dilE f t ds = 26 := by
 have hk := (List.getElem?_eq_some_iff.1 hd).1
 unfold dilE
 rw [if_neg (by omega), hn.all, if_neg (by decide), if_neg (fun hno => hno k j d x hk hj hd hx hh)]
theorem dilE_ok {f t : Int} {ds : List DI} (h : f < t) (hn : NoBad f t ds ds.length) (hh : NoHit ds ds.length) : dilE f t ds = 0 := by
 unfold dilE
 rw [if_neg (by omega), hn.all, if_neg (by decide), if_pos hh]
def mT (d : DI) : T3 := ⟨nX d.m, ⟨#[48]⟩, nZ d.m⟩
def n3T : T3 := ⟨⟨#[49]⟩, ⟨#[48]⟩, ⟨#[50]⟩⟩
theorem dig_text (u : Nat) (h : u < 10) : canonR ((u : Int) : Rat) = ⟨#[UInt8.ofNat (48 + u)]⟩ := by
 rw [canonR_int]
 unfold canon
 rw [itoa_of_nat, decDigits_lt u h]
theorem dig_right (u : Nat) (h : u < 10) : rightQ ⟨#[UInt8.ofNat (48 + u)]⟩ = true := by
 rw [← dig_text u h]
 exact right_of_sz ((S2.int (u : Int) 1 (by show (u : Int).natAbs < 10; omega)).sz (N := 1) (by omega) (by omega)) (by omega) (by omega)
theorem T3.one (v : T3) : ∀ x ∈ v.cells, x.oneCell' = true := by
 intro x hx
 simp only [T3.cells, List.mem_cons, List.not_mem_nil, or_false] at hx
 rcases hx with rfl | rfl | rfl <;> rfl
theorem mT_right (d : DI) : (mT d).right = true ∧ (mT d).zero = false ∧ (mT d).small := by
 obtain ⟨m, a, b⟩ := d
 have r0 : rightQ ⟨#[48]⟩ = true := dig_right 0 (by decide)
 have r1 : rightQ ⟨#[49]⟩ = true := dig_right 1 (by decide)
 have r2 : rightQ ⟨#[50]⟩ = true := dig_right 2 (by decide)
 have r4 : rightQ ⟨#[52]⟩ = true := dig_right 4 (by decide)
 have e1 : ((⟨#[49]⟩ : ByteArray).toList == [48]) = false := by rw [ByteArray.toList_eq]; decide
 have e2 : ((⟨#[50]⟩ : ByteArray).toList == [48]) = false := by rw [ByteArray.toList_eq]; decide
 cases m with
 | true =>
  refine ⟨?_, ?_, by show (1 : Nat) ≤ 1000000; omega, by show (1 : Nat) ≤ 1000000; omega, by show (1 : Nat) ≤ 1000000; omega⟩
  ·show (rightQ ⟨#[50]⟩ && (rightQ ⟨#[48]⟩ && rightQ ⟨#[52]⟩)) = true
   rw [r0, r2, r4]; rfl
  ·show (((⟨#[50]⟩ : ByteArray).toList == [48]) && _) = false
   rw [e2]; rfl
 | false =>
  refine ⟨?_, ?_, by show (1 : Nat) ≤ 1000000; omega, by show (1 : Nat) ≤ 1000000; omega, by show (1 : Nat) ≤ 1000000; omega⟩
  ·show (rightQ ⟨#[49]⟩ && (rightQ ⟨#[48]⟩ && rightQ ⟨#[50]⟩)) = true
   rw [r0, r1, r2]; rfl
  ·show (((⟨#[49]⟩ : ByteArray).toList == [48]) && _) = false
   rw [e1]; rfl

set_option maxRecDepth 100000 in
set_option maxHeartbeats 8000000 in
theorem dilation_any (f t : Int) (hf : f.natAbs ≤ 200) (ht : t.natAbs ≤ 200) (ds : List DI) (hl : ds.length ≤ 4) (hs : SmallD ds) (A : Option Addr) (c : Nat) (w : World) (he : Env w) (hv : SAt DI.cells 6 w (.slice A ds.length c) ds) (hc : ds.length ≤ c) :
  Calls Tryz.prog 7 #[.agg #[.string ⟨#[49]⟩, .string ⟨#[48]⟩, .string ⟨#[50]⟩], .string (oT (2 * f)), .string (oT (2 * t)), .slice A ds.length c] w fun e w' => (∃ (S : ByteArray) (E : Int), e = .returned (.tuple #[.string S, .int .i64 E]) ∧ E = dilE f t ds ∧ (E ≠ 0 → S = ⟨#[]⟩) ∧ (E = 0 → S = canonR ((sumB ds : Rat) / ((2 * t - 2 * f : Int) : Rat)))) ∧ Below w.heap.size w w' := by
 have HV := Lib.hid hv
 clear hv
 have HS := Lib.hid hs
 have HE := Lib.hid (fun W (hW : Below w.heap.size w W) => he.below hW)
 have HVC : Hid (∀ (W : World) (b : Nat), Blk W b #[.string ⟨#[49]⟩, .string ⟨#[48]⟩, .string ⟨#[50]⟩] 29 → Below w.heap.size w W → Calls Tryz.prog 20 #[.slice (some ⟨b, 0, none⟩) 1 1] W fun e w' => e = .returned (.int .i64 0) ∧ Below W.heap.size W w') := Lib.hid (fun W b hb hW => by
  have h := svec1 n3T (mT_right ⟨false, 0, 0⟩).2.2 W b (he.below hW) hb
  rw [show n3T.right = true from (mT_right ⟨false, 0, 0⟩).1] at h
  exact h)
 have HNB2 : Hid (∀ (W : World) (b : Nat), Blk W b #[.string (oT (2 * f)), .string (oT (2 * t))] 27 → Below w.heap.size w W → Calls Tryz.prog 21 #[.slice (some ⟨b, 0, none⟩) 2 2] W fun e w' => e = .returned (.int .i64 0) ∧ Below W.heap.size W w') := Lib.hid (fun W b hb hW => by
  have z1 := oT_size (2 * f) (by omega)
  have z2 := oT_size (2 * t) (by omega)
  have h := snumbers_any [oT (2 * f), oT (2 * t)] (by intro x hx; simp only [List.mem_cons, List.not_mem_nil, or_false] at hx; rcases hx with rfl | rfl <;> omega) (by simp) W b hb (he.below hW)
  unfold errN at h
  rw [show [oT (2 * f), oT (2 * t)].all rightQ = true from by simp [oT_right (2 * f) (by omega), oT_right (2 * t) (by omega)], if_pos rfl] at h
  exact h)
 have HF2 : Hid (∀ (W : World) (b : Nat), Blk W b #[.int .i64 0, .int .i64 0] 38 → Below w.heap.size w W → Calls Tryz.prog 19 #[.slice (some ⟨b, 0, none⟩) 2 2] W fun e w' => e = .returned (.int .i64 0) ∧ Below W.heap.size W w') := Lib.hid (fun W b hb hW => sfirst2 true true W b hb)
 have hfx : (2 * f).natAbs < 10000 := by omega
 have htx : (2 * t).natAbs < 10000 := by omega
 have HZ : Hid (∀ (W : World) (b c : Nat) (vs : List DI), vs.length ≤ 4 → Vec3At W b (n3T :: vs.map mT) → Calls Tryz.prog 23 #[.slice (some ⟨b, 0, none⟩) (n3T :: vs.map mT).length c] W fun e w' => e = .returned (.int .i64 0) ∧ Below W.heap.size W w') := Lib.hid (fun W b c vs hvl hb => by
  have h := szeros_any2 (n3T :: vs.map mT) (by rw [List.length_cons, List.length_map]; omega) W b c hb
  have h0 : (n3T :: vs.map mT).any T3.zero = false := by
   rw [List.any_eq_false]
   intro x hx
   rcases List.mem_cons.1 hx with rfl | hx
   ·rw [show n3T.zero = false from (mT_right ⟨false, 0, 0⟩).2.1]; decide
   ·obtain ⟨d, _, rfl⟩ := List.mem_map.1 hx
    rw [(mT_right d).2.1]; decide
  unfold errZ at h
  rw [h0, if_neg (by decide)] at h
  exact h)
 have HCFT : Hid (Ret Tryz.prog w 24 #[.string (oT (2 * f)), .string (oT (2 * t))] (.int .i64 (2 * f - 2 * t).sign)) := Lib.hid (fun W hW => cmpH _ _ hfx htx W (he.below hW))
 clear he hs
 have B := Lib.hid (below_new w (.cells #[.string ⟨#[49]⟩, .string ⟨#[48]⟩, .string ⟨#[50]⟩] 29))
 have K4 := Lib.hid (Blk.fresh w #[.string ⟨#[49]⟩, .string ⟨#[48]⟩, .string ⟨#[50]⟩] 29)
 go_enter Tryz.func7, Tryz.ntmps7
 go_upto_region 1 with (fail)
 have hb4 : w.heap.size < (w.alloc (.cells #[.string ⟨#[49]⟩, .string ⟨#[48]⟩, .string ⟨#[50]⟩] 29)).heap.size := by simp
 generalize (w.alloc (.cells #[.string ⟨#[49]⟩, .string ⟨#[48]⟩, .string ⟨#[50]⟩] 29)) = W1 at *
 obtain ⟨b4, hb4e⟩ : ∃ b4, w.heap.size = b4 := ⟨_, rfl⟩
 rw [hb4e] at K4 ⊢
 have HB4E := Lib.hid hb4e
 clear hb4e
 refine wp_tab (.v 25 (.agg #[.string ⟨#[49]⟩, .string ⟨#[48]⟩, .string ⟨#[50]⟩]) :: .n 26 :: .v 27 (.int .i64 0) :: .v 28 (.string (oT (2 * f))) :: .v 29 (.string (oT (2 * t))) :: .n 30 :: .v 31 (.int .i64 0) :: .n 32 :: .v 33 (.int .i64 0) :: .v 10 (.int .i64 0) :: []) [⟨1, 26, fun g => .slice (some ⟨g, 0, none⟩) 1 1, #[.string ⟨#[49]⟩, .string ⟨#[48]⟩, .string ⟨#[50]⟩], 29, none⟩, ⟨5, 30, fun g => .slice (some ⟨g, 0, none⟩) 2 2, #[.string (oT (2 * f)), .string (oT (2 * t))], 27, none⟩, ⟨7, 32, fun g => .slice (some ⟨g, 0, none⟩) 2 2, #[.int .i64 0, .int .i64 0], 38, none⟩] [⟨b4, #[.string ⟨#[49]⟩, .string ⟨#[48]⟩, .string ⟨#[50]⟩], 29, none⟩] [] [] [] [] [] (by kernel_rfl) B.out ⟨K4.out, trivial⟩ trivial ⟨ld 0 0, ml 0, c1 0 HVC.out, pu, pu, ml 1, c1 1 HNB2.out, ml 2, c1 2 HF2.out, pu, trivial⟩ ?_
 rintro σ W2 _ ⟨K4b, _⟩ _ _ B2
 simp only [slotsOf, finX, nval, nvalN, nvalA, Nat.reduceBEq, cond_true, cond_false, putAll, Act.put, List.setIfInBounds_toArray, List.set_cons_succ, List.set_cons_zero]
 generalize blkOf (σ 26) = g26 at *
 generalize blkOf (σ 30) = g30 at *
 generalize blkOf (σ 32) = g32 at *
 clear K4 B HVC HNB2
 have K4 := K4b
 have B := B2
 clear K4b B2
 have y0 := K4.out.at_ 0 _ rfl
 have y1 := K4.out.at_ 1 _ rfl
 have y2 := K4.out.at_ 2 _ rfl
 go_upto_region 5 with (fail)
 clear y0 y1 y2
 have q4 := below_new W2 (.cells #[.string ⟨#[49]⟩, .string ⟨#[48]⟩, .string ⟨#[50]⟩] 29)
 have hb4W : b4 < W2.heap.size := K4.out.lt
 have ROW : Hid (SRow T3.cells 3 29 (W2.alloc (.cells #[.string ⟨#[49]⟩, .string ⟨#[48]⟩, .string ⟨#[50]⟩] 29)) (b4 + 1) (.slice (some ⟨W2.heap.size, 0, none⟩) 1 1) [n3T]) := Lib.hid (.inr ⟨W2.heap.size, 1, [], rfl, hb4W, by simp, Blk.fresh W2 _ _, ⟨rfl, rfl, Nat.le_refl _, by decide⟩⟩)
 replace K4 := Lib.hid (K4.out.below q4)
 replace B := Lib.hid (B.out.trans (q4.mono B.out.size))
 clear q4 hb4W
 generalize (W2.alloc (.cells #[.string ⟨#[49]⟩, .string ⟨#[48]⟩, .string ⟨#[50]⟩] 29)) = W3 at *
 generalize W2.heap.size = g38 at *
 go_wp2
 go_loopw [11, 41] (fun al iv wr => ∃ k : Nat, k ≤ ds.length ∧ iv = .int .i64 k ∧ SRow T3.cells 3 29 wr (b4 + 1) al (n3T :: (ds.take k).map mT) ∧ Blk wr b4 #[.string ⟨#[49]⟩, .string ⟨#[48]⟩, .string ⟨#[50]⟩] 29 ∧ Below w.heap.size w wr) (fun _ iv _ => ds.length - (intOf iv).toNat)
 case atStart => exact ⟨0, Nat.zero_le _, rfl, ROW.out, K4.out, B.out⟩
 case round =>
  obtain ⟨k, hk, rfl, hrow, hk4, hB⟩ := hrel
  clear ROW K4 B
  have ROW := Lib.hid hrow
  have K4 := Lib.hid hk4
  have B := Lib.hid hB
  clear hrow hk4 hB
  obtain ⟨ra, rc, hrv⟩ := ROW.out.len_eval
  subst hrv
  by_cases hlt : k < ds.length
  ·have hbd := HS.out _ (List.getElem_mem hlt)
   have htk : (ds.take (k + 1)).map mT = (ds.take k).map mT ++ [mT ds[k]] := by rw [List.take_succ_eq_append_getElem hlt, List.map_append]; rfl
   have hrw : Below wr.heap.size wr (wr.alloc (.cells #[.string (nX ds[k].m), .string ⟨#[48]⟩, .string (nZ ds[k].m), .string (oT ds[k].a), .string (oT ds[k].b), .string ⟨#[]⟩] 37)) := below_new _ _
   have ROW1 := Lib.hid (ROW.out.below hrw)
   clear hrw ROW
   obtain ⟨dd, oo, c1, e1, _, q1⟩ := (HV.out.below B.out).cell k hlt
   injection e1 with e1 _ e1c
   subst e1 e1c
   have hd := List.getElem?_eq_getElem hlt
   generalize ds[k] = d at *
   have x0 : wr.cell? ⟨dd, oo + k * 6, none⟩ = _ := q1 0 _ rfl
   have x1 := q1 1 _ rfl
   have x2 := q1 2 _ rfl
   have x3 := q1 3 _ rfl
   have x4 := q1 4 _ rfl
   have x5 := q1 5 _ rfl
   clear q1
   have HD := Lib.hid hd
   clear hd
   have hi : (k : Int) < (ds.length : Int) := by omega
   go_upto_region 8 with (fail)
   have K13 := Lib.hid (Blk.fresh wr #[.string (nX d.m), .string ⟨#[48]⟩, .string (nZ d.m), .string (oT d.a), .string (oT d.b), .string ⟨#[]⟩] 37)
   have qq := below_new wr (.cells #[.string (nX d.m), .string ⟨#[48]⟩, .string (nZ d.m), .string (oT d.a), .string (oT d.b), .string ⟨#[]⟩] 37)
   replace B := Lib.hid (B.out.trans (qq.mono B.out.size))
   replace K4 := Lib.hid (K4.out.below qq)
   clear x0 x1 x2 x3 x4 x5 qq
   generalize (wr.alloc (.cells #[.string (nX d.m), .string ⟨#[48]⟩, .string (nZ d.m), .string (oT d.a), .string (oT d.b), .string ⟨#[]⟩] 37)) = W1 at *
   generalize wr.heap.size = b13 at *
   have HTK := Lib.hid htk
   clear htk
   have go : ∀ W, Below W1.heap.size W1 W → Below w.heap.size w W := fun W hW => B.out.trans (hW.mono B.out.size)
   have HF8 : Hid (∀ (W : World) (b : Nat), Blk W b #[.int .i64 0, .int .i64 0] 38 → Below W1.heap.size W1 W → Calls Tryz.prog 19 #[.slice (some ⟨b, 0, none⟩) 2 2] W fun e w' => e = .returned (.int .i64 0) ∧ Below W.heap.size W w') := Lib.hid (fun W b hb hW => sfirst2 true true W b hb)
   have HPL : Hid (Ret Tryz.prog W1 22 #[.agg #[.string (nX d.m), .string ⟨#[48]⟩, .string (nZ d.m), .string (oT d.a)]] (.int .i64 0)) := Lib.hid (fun W hW => by
    have h := splaneT W (mT d) (oT d.a) (mT_right d).2.2 (by have := oT_size d.a (by omega); omega) (HE.out W (go W hW))
    rw [(mT_right d).1, oT_right d.a (by omega)] at h
    exact h)
   have HN1 : Hid (∀ (W : World) (b : Nat), Blk W b #[.string (oT d.b)] 27 → Below W1.heap.size W1 W → Calls Tryz.prog 21 #[.slice (some ⟨b, 0, none⟩) 1 1] W fun e w' => e = .returned (.int .i64 0) ∧ Below W.heap.size W w') := Lib.hid (fun W b hb hW => by
    have h := snum1 (oT d.b) (by have := oT_size d.b (by omega); omega) W b (HE.out W (go W hW)) hb
    rw [oT_right d.b (by omega)] at h
    exact h)
   refine wp_tab (.v 45 (.pointer (some ⟨b13, 0, none⟩)) :: .v 46 (.agg #[.string (nX d.m), .string ⟨#[48]⟩, .string (nZ d.m), .string (oT d.a)]) :: .v 47 (.int .i64 0) :: .v 48 (.pointer (some ⟨b13, 4, none⟩)) :: .v 49 (.string (oT d.b)) :: .n 50 :: .v 51 (.int .i64 0) :: .n 52 :: .v 53 (.int .i64 0) :: .v 14 (.int .i64 0) :: []) [⟨5, 50, fun g => .slice (some ⟨g, 0, none⟩) 1 1, #[.string (oT d.b)], 27, none⟩, ⟨7, 52, fun g => .slice (some ⟨g, 0, none⟩) 2 2, #[.int .i64 0, .int .i64 0], 38, none⟩] [⟨b13, #[.string (nX d.m), .string ⟨#[48]⟩, .string (nZ d.m), .string (oT d.a), .string (oT d.b), .string ⟨#[]⟩], 37, none⟩, ⟨b4, #[.string ⟨#[49]⟩, .string ⟨#[48]⟩, .string ⟨#[50]⟩], 29, none⟩] [] [] [] [] [] (by kernel_rfl) (Below.refl W1.heap.size W1) ⟨K13.out, K4.out, trivial⟩ trivial ⟨pu, ld 0 0, cl HPL.out, pu, ld 0 4, ml 0, c1 0 HN1.out, ml 1, c1 1 HF8.out, pu, trivial⟩ ?_
   rintro σ W5 _ ⟨K13b, K4b, _⟩ _ _ QQ
   simp only [slotsOf, finX, nval, nvalN, nvalA, Nat.reduceBEq, cond_true, cond_false, putAll, Act.put, List.setIfInBounds_toArray, List.set_cons_succ, List.set_cons_zero]
   generalize blkOf (σ 50) = g50 at *
   generalize blkOf (σ 52) = g52 at *
   have B5 := Lib.hid (go W5 QQ.out)
   have ROW5 := Lib.hid (ROW1.out.below QQ.out)
   clear go QQ ROW1 K13 K4 B HPL HN1 HF8
   have z0 := K13b.out.at_ 0 _ rfl
   have z1 := K13b.out.at_ 1 _ rfl
   have z2 := K13b.out.at_ 2 _ rfl
   have hb45 : b4 + 1 ≤ W5.heap.size := K4b.out.lt
   have hl5 : (n3T :: (ds.take k).map mT).length ≤ 5000 := by rw [List.length_cons, List.length_map, List.length_take]; omega
   go_upto_region 11 with (fail)
   go_wp2_with (at_builtin; refine app_row ElV (fun _ => rfl) T3.one rfl (.tmp 57) (.tmp 61) rfl W5 (b4 + 1) hb45 _ _ ROW5.out rfl hl5 (mT d) rfl ?_; intro v' w9 r1 r2 r3)
   have K49 := r2 b4 _ _ (Nat.lt_succ_self _) K4b.out
   have B9 : Below w.heap.size w w9 := B5.out.trans (r3.mono (by have := HB4E.out; omega))
   rw [List.cons_append, ← HTK.out] at r1
   refine ⟨⟨k + 1, by omega, by go_num, r1, K49, B9⟩, by simp [intOf]; omega⟩
  ·have hkl : k = ds.length := by omega
   subst hkl
   rcases ROW.out with ⟨h, _⟩ | ⟨d9, c9, r9, h9, _, _, hblk, _⟩
   ·cases h
   injection h9 with h9 _ h9c
   subst h9 h9c
   have VEC := Lib.hid (show Vec3At wr d9 (n3T :: (ds.take ds.length).map mT) from ⟨r9, hblk⟩)
   clear hblk ROW
   have HZ2 := Lib.hid (fun (W : World) c (h : Vec3At W d9 (n3T :: (ds.take ds.length).map mT)) => HZ.out W d9 c (ds.take ds.length) (by rw [List.length_take]; omega) h)
   clear HZ
   have hlt0 : ¬ (ds.length : Int) < (ds.length : Int) := by omega
   generalize (n3T :: (ds.take ds.length).map mT) = vs at *
   go_upto_region 16 with (first
    | (go_at_call 23; with_reducible refine (HZ2.out _ _ VEC.out).mono ?_; rintro e wx ⟨rfl, q⟩; replace K4 := Lib.hid (K4.out.below q); replace B := Lib.hid (B.out.trans (q.mono B.out.size)); clear q)
    | fail "arm")
   clear VEC HZ2 hlt0 hlt
   have dg : decide ((2 * f - 2 * t).sign ≥ 0) = decide (t ≤ f) := by rw [dsign_ge, decide_eq_decide]; omega
   generalize (2 * f - 2 * t).sign = sg at *
   by_cases hft : t ≤ f
   ·have hE := dilE_order (ds := ds) hft
    rw [decide_eq_true hft] at dg
    have HEE := Lib.hid hE
    clear hE hft
    go_wp2_with (first
     | (go_at_call 24; with_reducible refine (HCFT.out _ B.out).mono ?_; rintro e wx ⟨rfl, q⟩; replace B := Lib.hid (B.out.trans (q.mono B.out.size)); clear q)
     | fail "arm")
    go_ret2
    exact ⟨⟨_, _, rfl, HEE.out.symm, fun _ => rfl, fun h => by cases h⟩, B.out⟩
   ·rw [decide_eq_false hft] at dg
    have HFT := Lib.hid (show f < t by omega)
    clear hft
    go_upto_region 19 with (first
     | (go_at_call 24; with_reducible refine (HCFT.out _ B.out).mono ?_; rintro e wx ⟨rfl, q⟩; replace K4 := Lib.hid (K4.out.below q); replace B := Lib.hid (B.out.trans (q.mono B.out.size)); clear q)
     | fail "arm")
    clear HCFT dg
    go_wp2
    go_loopw [16, 75] (fun sv iv wr => ∃ k : Nat, k ≤ ds.length ∧ iv = .int .i64 k ∧ sv = .string (oT (sumB (ds.take k))) ∧ NoBad f t ds k ∧ Blk wr b4 #[.string ⟨#[49]⟩, .string ⟨#[48]⟩, .string ⟨#[50]⟩] 29 ∧ Below w.heap.size w wr) (fun _ iv _ => ds.length - (intOf iv).toNat)
    case atStart => exact ⟨0, Nat.zero_le _, rfl, by rw [show sumB (ds.take 0) = 0 from rfl, oT_zero], rfl, K4.out, B.out⟩
    case round =>
     obtain ⟨k, hk, rfl, rfl, hnb, hk4, hB⟩ := hrel
     clear K4 B
     have NB := Lib.hid hnb
     have K4 := Lib.hid hk4
     have B := Lib.hid hB
     clear hnb hk4 hB
     have hsb := sumB_bd (ds.take k) (HS.out.take k)
     have hsb2 : (sumB (ds.take k)).natAbs ≤ 800 := by have := List.length_take_le k ds; have : (ds.take k).length ≤ 4 := by rw [List.length_take]; omega
                                                       omega
     clear hsb
     by_cases hlt : k < ds.length
     ·have hbd := HS.out _ (List.getElem_mem hlt)
      have hsum : sumB (ds.take (k + 1)) = sumB (ds.take k) + ds[k].b := by rw [List.take_succ_eq_append_getElem hlt, sumB_snoc]
      have HSUM := Lib.hid hsum
      clear hsum
      generalize sumB (ds.take k) = s0 at *
      obtain ⟨dd, oo, c1, e1, _, q1⟩ := (HV.out.below B.out).cell k hlt
      injection e1 with e1 _ e1c
      subst e1 e1c
      have hd := List.getElem?_eq_getElem hlt
      generalize ds[k] = d at *
      have x0 : wr.cell? ⟨dd, oo + k * 6, none⟩ = _ := q1 0 _ rfl
      have x1 := q1 1 _ rfl
      have x2 := q1 2 _ rfl
      have x3 := q1 3 _ rfl
      have x4 := q1 4 _ rfl
      have x5 := q1 5 _ rfl
      clear q1
      have HD := Lib.hid hd
      clear hd
      have hi : (k : Int) < (ds.length : Int) := by omega
      go_upto_region 22 with (fail)
      have K18 := Lib.hid (Blk.fresh wr #[.string (nX d.m), .string ⟨#[48]⟩, .string (nZ d.m), .string (oT d.a), .string (oT d.b), .string ⟨#[]⟩] 37)
      have qq := below_new wr (.cells #[.string (nX d.m), .string ⟨#[48]⟩, .string (nZ d.m), .string (oT d.a), .string (oT d.b), .string ⟨#[]⟩] 37)
      replace B := Lib.hid (B.out.trans (qq.mono B.out.size))
      replace K4 := Lib.hid (K4.out.below qq)
      clear x0 x1 x2 x3 x4 x5 qq
      generalize (wr.alloc (.cells #[.string (nX d.m), .string ⟨#[48]⟩, .string (nZ d.m), .string (oT d.a), .string (oT d.b), .string ⟨#[]⟩] 37)) = W1 at *
      generalize wr.heap.size = b18 at *
      obtain ⟨hda, hdb⟩ := hbd
      have HSG : Hid (∀ W, Calls Tryz.prog 25 #[.string (oT d.b)] W fun e w' => e = .returned (.int .i64 d.b.sign) ∧ W = w') := Lib.hid (fun W => signH d.b (by omega) W)
      have HC1 : Hid (Ret Tryz.prog w 24 #[.string (oT d.a), .string (oT (2 * f))] (.int .i64 (d.a - 2 * f).sign)) := Lib.hid (fun W hW => cmpH d.a (2 * f) (by omega) hfx W (HE.out W hW))
      have HAD : Hid (Ret Tryz.prog w 26 #[.string (oT d.a), .string (oT d.b)] (.string (oT (d.a + d.b)))) := Lib.hid (fun W hW => addH d.a d.b (by omega) (by omega) W (HE.out W hW))
      have HC3 : Hid (Ret Tryz.prog w 24 #[.string (oT (d.a + d.b)), .string (oT (2 * t))] (.int .i64 (d.a + d.b - 2 * t).sign)) := Lib.hid (fun W hW => cmpH (d.a + d.b) (2 * t) (by omega) htx W (HE.out W hW))
      have HSM : Hid (Ret Tryz.prog w 26 #[.string (oT s0), .string (oT d.b)] (.string (oT (s0 + d.b)))) := Lib.hid (fun W hW => addH s0 d.b (by omega) (by omega) W (HE.out W hW))
      have g1 := dsign_le d.b
      have g2 := dsign_lt (d.a - 2 * f)
      have g3 := dsign_gt (d.a + d.b - 2 * t)
      cases hm : d.m with
      | true =>
       have hbad : badD f t d = 7 := by unfold badD; rw [if_pos hm]
       replace K18 : Hid (Blk W1 b18 #[.string ⟨#[50]⟩, .string ⟨#[48]⟩, .string ⟨#[52]⟩, .string (oT d.a), .string (oT d.b), .string ⟨#[]⟩] 37) := Lib.hid (by have h := K18.out; rw [hm] at h; exact h)
       clear hm g1 g2 g3
       have z0 := K18.out.at_ 0 _ rfl
       have z1 := K18.out.at_ 1 _ rfl
       have z2 := K18.out.at_ 2 _ rfl
       have z3 := K18.out.at_ 3 _ rfl
       have z4 := K18.out.at_ 4 _ rfl
       have y0 := K4.out.at_ 0 _ rfl
       have y1 := K4.out.at_ 1 _ rfl
       have y2 := K4.out.at_ 2 _ rfl
       have HEE := Lib.hid ((dilE_bad HFT.out NB.out HD.out (by rw [hbad]; decide)).trans hbad)
       clear hbad
       go_wp2_with (first
        | (go_at_call 25; with_reducible refine (HSG.out _).mono ?_; rintro e wx ⟨rfl, rfl⟩)
        | (go_at_call 24; with_reducible refine (HC1.out _ B.out).mono ?_; rintro e wx ⟨rfl, q⟩; replace K18 := Lib.hid (K18.out.below q); replace K4 := Lib.hid (K4.out.below q); replace B := Lib.hid (B.out.trans (q.mono B.out.size)); clear q; have z3 := K18.out.at_ 3 _ rfl; have z4 := K18.out.at_ 4 _ rfl)
        | (go_at_call 24; with_reducible refine (HC3.out _ B.out).mono ?_; rintro e wx ⟨rfl, q⟩; replace K18 := Lib.hid (K18.out.below q); replace K4 := Lib.hid (K4.out.below q); replace B := Lib.hid (B.out.trans (q.mono B.out.size)); clear q; have z3 := K18.out.at_ 3 _ rfl; have z4 := K18.out.at_ 4 _ rfl)
        | (go_at_call 26; with_reducible refine (HAD.out _ B.out).mono ?_; rintro e wx ⟨rfl, q⟩; replace K18 := Lib.hid (K18.out.below q); replace K4 := Lib.hid (K4.out.below q); replace B := Lib.hid (B.out.trans (q.mono B.out.size)); clear q; have z3 := K18.out.at_ 3 _ rfl; have z4 := K18.out.at_ 4 _ rfl)
        | (go_at_call 26; with_reducible refine (HSM.out _ B.out).mono ?_; rintro e wx ⟨rfl, q⟩; replace K18 := Lib.hid (K18.out.below q); replace K4 := Lib.hid (K4.out.below q); replace B := Lib.hid (B.out.trans (q.mono B.out.size)); clear q; have z3 := K18.out.at_ 3 _ rfl; have z4 := K18.out.at_ 4 _ rfl)
        | fail "arm")
       go_ret2
       exact ⟨⟨_, _, rfl, HEE.out.symm, fun _ => rfl, fun h => by cases h⟩, B.out⟩
      | false =>
       replace K18 : Hid (Blk W1 b18 #[.string ⟨#[49]⟩, .string ⟨#[48]⟩, .string ⟨#[50]⟩, .string (oT d.a), .string (oT d.b), .string ⟨#[]⟩] 37) := Lib.hid (by have h := K18.out; rw [hm] at h; exact h)
       have hbf : badD f t d = if d.b ≤ 0 ∨ d.a < 2 * f ∨ 2 * t < d.a + d.b then 3 else 0 := by unfold badD; rw [if_neg (by rw [hm]; decide)]
       clear hm
       by_cases h1 : d.b ≤ 0
       ·have hbad : badD f t d = 3 := by rw [hbf, if_pos (.inl h1)]
        rw [decide_eq_true h1] at g1
        clear h1 hbf g2 g3
        generalize d.b.sign = v1 at *
        have z0 := K18.out.at_ 0 _ rfl
        have z1 := K18.out.at_ 1 _ rfl
        have z2 := K18.out.at_ 2 _ rfl
        have z3 := K18.out.at_ 3 _ rfl
        have z4 := K18.out.at_ 4 _ rfl
        have y0 := K4.out.at_ 0 _ rfl
        have y1 := K4.out.at_ 1 _ rfl
        have y2 := K4.out.at_ 2 _ rfl
        have HEE := Lib.hid ((dilE_bad HFT.out NB.out HD.out (by rw [hbad]; decide)).trans hbad)
        clear hbad
        go_wp2_with (first
         | (go_at_call 25; with_reducible refine (HSG.out _).mono ?_; rintro e wx ⟨rfl, rfl⟩)
         | (go_at_call 24; with_reducible refine (HC1.out _ B.out).mono ?_; rintro e wx ⟨rfl, q⟩; replace K18 := Lib.hid (K18.out.below q); replace K4 := Lib.hid (K4.out.below q); replace B := Lib.hid (B.out.trans (q.mono B.out.size)); clear q; have z3 := K18.out.at_ 3 _ rfl; have z4 := K18.out.at_ 4 _ rfl)
         | (go_at_call 24; with_reducible refine (HC3.out _ B.out).mono ?_; rintro e wx ⟨rfl, q⟩; replace K18 := Lib.hid (K18.out.below q); replace K4 := Lib.hid (K4.out.below q); replace B := Lib.hid (B.out.trans (q.mono B.out.size)); clear q; have z3 := K18.out.at_ 3 _ rfl; have z4 := K18.out.at_ 4 _ rfl)
         | (go_at_call 26; with_reducible refine (HAD.out _ B.out).mono ?_; rintro e wx ⟨rfl, q⟩; replace K18 := Lib.hid (K18.out.below q); replace K4 := Lib.hid (K4.out.below q); replace B := Lib.hid (B.out.trans (q.mono B.out.size)); clear q; have z3 := K18.out.at_ 3 _ rfl; have z4 := K18.out.at_ 4 _ rfl)
         | (go_at_call 26; with_reducible refine (HSM.out _ B.out).mono ?_; rintro e wx ⟨rfl, q⟩; replace K18 := Lib.hid (K18.out.below q); replace K4 := Lib.hid (K4.out.below q); replace B := Lib.hid (B.out.trans (q.mono B.out.size)); clear q; have z3 := K18.out.at_ 3 _ rfl; have z4 := K18.out.at_ 4 _ rfl)
         | fail "arm")
        go_ret2
        exact ⟨⟨_, _, rfl, HEE.out.symm, fun _ => rfl, fun h => by cases h⟩, B.out⟩
       rw [decide_eq_false h1] at g1
       by_cases h2 : d.a < 2 * f
       ·have hbad : badD f t d = 3 := by rw [hbf, if_pos (.inr (.inl h2))]
        rw [decide_eq_true (show d.a - 2 * f < 0 by omega)] at g2
        clear h1 h2 hbf g3
        generalize d.b.sign = v1 at *
        generalize (d.a - 2 * f).sign = v2 at *
        have z0 := K18.out.at_ 0 _ rfl
        have z1 := K18.out.at_ 1 _ rfl
        have z2 := K18.out.at_ 2 _ rfl
        have z3 := K18.out.at_ 3 _ rfl
        have z4 := K18.out.at_ 4 _ rfl
        have y0 := K4.out.at_ 0 _ rfl
        have y1 := K4.out.at_ 1 _ rfl
        have y2 := K4.out.at_ 2 _ rfl
        have HEE := Lib.hid ((dilE_bad HFT.out NB.out HD.out (by rw [hbad]; decide)).trans hbad)
        clear hbad
        go_wp2_with (first
         | (go_at_call 25; with_reducible refine (HSG.out _).mono ?_; rintro e wx ⟨rfl, rfl⟩)
         | (go_at_call 24; with_reducible refine (HC1.out _ B.out).mono ?_; rintro e wx ⟨rfl, q⟩; replace K18 := Lib.hid (K18.out.below q); replace K4 := Lib.hid (K4.out.below q); replace B := Lib.hid (B.out.trans (q.mono B.out.size)); clear q; have z3 := K18.out.at_ 3 _ rfl; have z4 := K18.out.at_ 4 _ rfl)
         | (go_at_call 24; with_reducible refine (HC3.out _ B.out).mono ?_; rintro e wx ⟨rfl, q⟩; replace K18 := Lib.hid (K18.out.below q); replace K4 := Lib.hid (K4.out.below q); replace B := Lib.hid (B.out.trans (q.mono B.out.size)); clear q; have z3 := K18.out.at_ 3 _ rfl; have z4 := K18.out.at_ 4 _ rfl)
         | (go_at_call 26; with_reducible refine (HAD.out _ B.out).mono ?_; rintro e wx ⟨rfl, q⟩; replace K18 := Lib.hid (K18.out.below q); replace K4 := Lib.hid (K4.out.below q); replace B := Lib.hid (B.out.trans (q.mono B.out.size)); clear q; have z3 := K18.out.at_ 3 _ rfl; have z4 := K18.out.at_ 4 _ rfl)
         | (go_at_call 26; with_reducible refine (HSM.out _ B.out).mono ?_; rintro e wx ⟨rfl, q⟩; replace K18 := Lib.hid (K18.out.below q); replace K4 := Lib.hid (K4.out.below q); replace B := Lib.hid (B.out.trans (q.mono B.out.size)); clear q; have z3 := K18.out.at_ 3 _ rfl; have z4 := K18.out.at_ 4 _ rfl)
         | fail "arm")
        go_ret2
        exact ⟨⟨_, _, rfl, HEE.out.symm, fun _ => rfl, fun h => by cases h⟩, B.out⟩
       rw [decide_eq_false (show ¬ d.a - 2 * f < 0 by omega)] at g2
       by_cases h3 : 2 * t < d.a + d.b
       ·have hbad : badD f t d = 3 := by rw [hbf, if_pos (.inr (.inr h3))]
        rw [decide_eq_true (show 0 < d.a + d.b - 2 * t by omega)] at g3
        clear h1 h2 h3 hbf
        generalize d.b.sign = v1 at *
        generalize (d.a - 2 * f).sign = v2 at *
        generalize (d.a + d.b - 2 * t).sign = v3 at *
        have z0 := K18.out.at_ 0 _ rfl
        have z1 := K18.out.at_ 1 _ rfl
        have z2 := K18.out.at_ 2 _ rfl
        have z3 := K18.out.at_ 3 _ rfl
        have z4 := K18.out.at_ 4 _ rfl
        have y0 := K4.out.at_ 0 _ rfl
        have y1 := K4.out.at_ 1 _ rfl
        have y2 := K4.out.at_ 2 _ rfl
        have HEE := Lib.hid ((dilE_bad HFT.out NB.out HD.out (by rw [hbad]; decide)).trans hbad)
        clear hbad
        go_wp2_with (first
         | (go_at_call 25; with_reducible refine (HSG.out _).mono ?_; rintro e wx ⟨rfl, rfl⟩)
         | (go_at_call 24; with_reducible refine (HC1.out _ B.out).mono ?_; rintro e wx ⟨rfl, q⟩; replace K18 := Lib.hid (K18.out.below q); replace K4 := Lib.hid (K4.out.below q); replace B := Lib.hid (B.out.trans (q.mono B.out.size)); clear q; have z3 := K18.out.at_ 3 _ rfl; have z4 := K18.out.at_ 4 _ rfl)
         | (go_at_call 24; with_reducible refine (HC3.out _ B.out).mono ?_; rintro e wx ⟨rfl, q⟩; replace K18 := Lib.hid (K18.out.below q); replace K4 := Lib.hid (K4.out.below q); replace B := Lib.hid (B.out.trans (q.mono B.out.size)); clear q; have z3 := K18.out.at_ 3 _ rfl; have z4 := K18.out.at_ 4 _ rfl)
         | (go_at_call 26; with_reducible refine (HAD.out _ B.out).mono ?_; rintro e wx ⟨rfl, q⟩; replace K18 := Lib.hid (K18.out.below q); replace K4 := Lib.hid (K4.out.below q); replace B := Lib.hid (B.out.trans (q.mono B.out.size)); clear q; have z3 := K18.out.at_ 3 _ rfl; have z4 := K18.out.at_ 4 _ rfl)
         | (go_at_call 26; with_reducible refine (HSM.out _ B.out).mono ?_; rintro e wx ⟨rfl, q⟩; replace K18 := Lib.hid (K18.out.below q); replace K4 := Lib.hid (K4.out.below q); replace B := Lib.hid (B.out.trans (q.mono B.out.size)); clear q; have z3 := K18.out.at_ 3 _ rfl; have z4 := K18.out.at_ 4 _ rfl)
         | fail "arm")
        go_ret2
        exact ⟨⟨_, _, rfl, HEE.out.symm, fun _ => rfl, fun h => by cases h⟩, B.out⟩
       rw [decide_eq_false (show ¬ 0 < d.a + d.b - 2 * t by omega)] at g3
       have hbad : badD f t d = 0 := by rw [hbf, if_neg (by omega)]
       have NB2 := Lib.hid (NB.out.next HD.out hbad)
       clear h1 h2 h3 hbf hbad
       generalize d.b.sign = v1 at *
       generalize (d.a - 2 * f).sign = v2 at *
       generalize (d.a + d.b - 2 * t).sign = v3 at *
       have z0 := K18.out.at_ 0 _ rfl
       have z1 := K18.out.at_ 1 _ rfl
       have z2 := K18.out.at_ 2 _ rfl
       have z3 := K18.out.at_ 3 _ rfl
       have z4 := K18.out.at_ 4 _ rfl
       have y0 := K4.out.at_ 0 _ rfl
       have y1 := K4.out.at_ 1 _ rfl
       have y2 := K4.out.at_ 2 _ rfl
       go_wp2_with (first
        | (go_at_call 25; with_reducible refine (HSG.out _).mono ?_; rintro e wx ⟨rfl, rfl⟩)
        | (go_at_call 24; with_reducible refine (HC1.out _ B.out).mono ?_; rintro e wx ⟨rfl, q⟩; replace K18 := Lib.hid (K18.out.below q); replace K4 := Lib.hid (K4.out.below q); replace B := Lib.hid (B.out.trans (q.mono B.out.size)); clear q; have z3 := K18.out.at_ 3 _ rfl; have z4 := K18.out.at_ 4 _ rfl)
        | (go_at_call 24; with_reducible refine (HC3.out _ B.out).mono ?_; rintro e wx ⟨rfl, q⟩; replace K18 := Lib.hid (K18.out.below q); replace K4 := Lib.hid (K4.out.below q); replace B := Lib.hid (B.out.trans (q.mono B.out.size)); clear q; have z3 := K18.out.at_ 3 _ rfl; have z4 := K18.out.at_ 4 _ rfl)
        | (go_at_call 26; with_reducible refine (HAD.out _ B.out).mono ?_; rintro e wx ⟨rfl, q⟩; replace K18 := Lib.hid (K18.out.below q); replace K4 := Lib.hid (K4.out.below q); replace B := Lib.hid (B.out.trans (q.mono B.out.size)); clear q; have z3 := K18.out.at_ 3 _ rfl; have z4 := K18.out.at_ 4 _ rfl)
        | (go_at_call 26; with_reducible refine (HSM.out _ B.out).mono ?_; rintro e wx ⟨rfl, q⟩; replace K18 := Lib.hid (K18.out.below q); replace K4 := Lib.hid (K4.out.below q); replace B := Lib.hid (B.out.trans (q.mono B.out.size)); clear q; have z3 := K18.out.at_ 3 _ rfl; have z4 := K18.out.at_ 4 _ rfl)
        | fail "arm")
       refine ⟨⟨k + 1, by omega, by go_num, by rw [HSUM.out], NB2.out, K4.out, B.out⟩, by simp [intOf]; omega⟩
     ·have hkl : k = ds.length := by omega
      subst hkl
      rw [List.take_length] at hsb2 ⊢
      have hlt0 : ¬ (ds.length : Int) < (ds.length : Int) := by omega
      clear K4 hlt
      go_wp2
      go_loopw [112] (fun iv wr => ∃ k : Nat, k ≤ ds.length ∧ iv = .int .i64 k ∧ NoHit ds k ∧ Below w.heap.size w wr) (fun iv _ => ds.length - (intOf iv).toNat)
      case atStart => exact ⟨0, Nat.zero_le _, rfl, (fun i j d x h => by omega), B.out⟩
      case round =>
       obtain ⟨k, hk2, rfl, hnh, hB⟩ := hrel
       clear B
       have NH := Lib.hid hnh
       have B := Lib.hid hB
       clear hnh hB
       by_cases hlt : k < ds.length
       ·have hbd := HS.out _ (List.getElem_mem hlt)
        have hkc : (k : Int) ≤ (c : Int) := by omega
        obtain ⟨dd, oo, c1, e1, _, q1⟩ := (HV.out.below B.out).cell k hlt
        injection e1 with e1 _ e1c
        subst e1 e1c
        have hd := List.getElem?_eq_getElem hlt
        generalize ds[k] = d at *
        have x0 : wr.cell? ⟨dd, oo + k * 6, none⟩ = _ := q1 0 _ rfl
        have x1 := q1 1 _ rfl
        have x2 := q1 2 _ rfl
        have x3 := q1 3 _ rfl
        have x4 := q1 4 _ rfl
        have x5 := q1 5 _ rfl
        clear q1
        have HD := Lib.hid hd
        clear hd
        have hi : (k : Int) < (ds.length : Int) := by omega
        go_upto_region 33 with (fail)
        have K20 := Lib.hid (Blk.fresh wr #[.string (nX d.m), .string ⟨#[48]⟩, .string (nZ d.m), .string (oT d.a), .string (oT d.b), .string ⟨#[]⟩] 37)
        have qq := below_new wr (.cells #[.string (nX d.m), .string ⟨#[48]⟩, .string (nZ d.m), .string (oT d.a), .string (oT d.b), .string ⟨#[]⟩] 37)
        replace B := Lib.hid (B.out.trans (qq.mono B.out.size))
        clear x0 x1 x2 x3 x4 x5 qq
        generalize (wr.alloc (.cells #[.string (nX d.m), .string ⟨#[48]⟩, .string (nZ d.m), .string (oT d.a), .string (oT d.b), .string ⟨#[]⟩] 37)) = W1 at *
        generalize wr.heap.size = b20 at *
        obtain ⟨hda, hdb⟩ := hbd
        have hc0 : c ≠ 0 := by omega
        go_wp2
        go_loopw [121] (fun jv wr => ∃ j : Nat, j ≤ k ∧ jv = .int .i64 j ∧ NoHitAt ds d j ∧ Blk wr b20 #[.string (nX d.m), .string ⟨#[48]⟩, .string (nZ d.m), .string (oT d.a), .string (oT d.b), .string ⟨#[]⟩] 37 ∧ Below w.heap.size w wr) (fun jv _ => k - (intOf jv).toNat)
        case atStart => exact ⟨0, Nat.zero_le _, rfl, (fun i x h => by omega), K20.out, B.out⟩
        case round =>
         obtain ⟨j, hj, rfl, hna, hk20, hB⟩ := hrel
         clear K20 B
         have NA := Lib.hid hna
         have K20 := Lib.hid hk20
         have B := Lib.hid hB
         clear hna hk20 hB
         by_cases hjk : j < k
         ·have hlt3 : j < ds.length := by omega
          have hbx := HS.out _ (List.getElem_mem hlt3)
          obtain ⟨dd3, oo3, c3, e3, _, q3⟩ := (HV.out.below B.out).cell j hlt3
          injection e3 with e3 _ e3c
          injection e3 with e3
          injection e3 with e3a e3b
          subst e3a e3b e3c
          have hx := List.getElem?_eq_getElem hlt3
          generalize ds[j] = x at *
          have HX := Lib.hid hx
          clear hx
          have x0 : wr.cell? ⟨dd, oo + j * 6, none⟩ = _ := q3 0 _ rfl
          have x1 := q3 1 _ rfl
          have x2 := q3 2 _ rfl
          have x3 := q3 3 _ rfl
          have x4 := q3 4 _ rfl
          have x5 := q3 5 _ rfl
          clear q3
          have hji : (j : Int) < (k : Int) := by omega
          go_upto_region 36 with (fail)
          have K22 := Lib.hid (Blk.fresh wr #[.string (nX x.m), .string ⟨#[48]⟩, .string (nZ x.m), .string (oT x.a), .string (oT x.b), .string ⟨#[]⟩] 37)
          have qq := below_new wr (.cells #[.string (nX x.m), .string ⟨#[48]⟩, .string (nZ x.m), .string (oT x.a), .string (oT x.b), .string ⟨#[]⟩] 37)
          replace B := Lib.hid (B.out.trans (qq.mono B.out.size))
          replace K20 := Lib.hid (K20.out.below qq)
          clear x0 x1 x2 x3 x4 x5 qq
          generalize (wr.alloc (.cells #[.string (nX x.m), .string ⟨#[48]⟩, .string (nZ x.m), .string (oT x.a), .string (oT x.b), .string ⟨#[]⟩] 37)) = W2 at *
          generalize wr.heap.size = b22 at *
          obtain ⟨hxa, hxb⟩ := hbx
          have HA1 : Hid (Ret Tryz.prog w 26 #[.string (oT d.a), .string (oT d.b)] (.string (oT (d.a + d.b)))) := Lib.hid (fun W hW => addH d.a d.b (by omega) (by omega) W (HE.out W hW))
          have HA2 : Hid (Ret Tryz.prog w 26 #[.string (oT x.a), .string (oT x.b)] (.string (oT (x.a + x.b)))) := Lib.hid (fun W hW => addH x.a x.b (by omega) (by omega) W (HE.out W hW))
          obtain ⟨s1, hs1⟩ : ∃ s1, s1 = (x.a - (d.a + d.b)).sign := ⟨_, rfl⟩
          obtain ⟨s2, hs2⟩ : ∃ s2, s2 = (d.a - (x.a + x.b)).sign := ⟨_, rfl⟩
          have HC1 : Hid (Ret Tryz.prog w 24 #[.string (oT x.a), .string (oT (d.a + d.b))] (.int .i64 s1)) := Lib.hid (fun W hW => by rw [hs1]; exact cmpH x.a (d.a + d.b) (by omega) (by omega) W (HE.out W hW))
          have HC2 : Hid (Ret Tryz.prog w 24 #[.string (oT d.a), .string (oT (x.a + x.b))] (.int .i64 s2)) := Lib.hid (fun W hW => by rw [hs2]; exact cmpH d.a (x.a + x.b) (by omega) (by omega) W (HE.out W hW))
          have g1 : decide (s1 < 0) = decide (x.a < d.a + d.b) := by rw [hs1, dsign_lt, decide_eq_decide]; omega
          have g2 : decide (s2 < 0) = decide (d.a < x.a + x.b) := by rw [hs2, dsign_lt, decide_eq_decide]; omega
          clear hs1 hs2
          by_cases h1 : x.a < d.a + d.b
          ·rw [decide_eq_true h1] at g1
           by_cases h2 : d.a < x.a + x.b
           ·rw [decide_eq_true h2] at g2
            have HEE := Lib.hid (dilE_hit HFT.out NB.out HD.out hjk HX.out ⟨h1, h2⟩)
            clear h1 h2
            refine wp_tab (.v 125 (.pointer (some ⟨b22, 0, none⟩)) :: .v 126 (.pointer (some ⟨b22, 3, none⟩)) :: .v 127 (.string (oT x.a)) :: .v 128 (.pointer (some ⟨b20, 0, none⟩)) :: .v 129 (.pointer (some ⟨b20, 3, none⟩)) :: .v 130 (.string (oT d.a)) :: .v 131 (.pointer (some ⟨b20, 4, none⟩)) :: .v 132 (.string (oT d.b)) :: .v 133 (.string (oT (d.a + d.b))) :: .v 134 (.int .i64 s1) :: .v 135 (.bool true) :: .v 136 (.bool true) :: .v 137 (.pointer (some ⟨b20, 0, none⟩)) :: .v 138 (.pointer (some ⟨b20, 3, none⟩)) :: .v 139 (.string (oT d.a)) :: .v 140 (.pointer (some ⟨b22, 0, none⟩)) :: .v 141 (.pointer (some ⟨b22, 3, none⟩)) :: .v 142 (.string (oT x.a)) :: .v 143 (.pointer (some ⟨b22, 4, none⟩)) :: .v 144 (.string (oT x.b)) :: .v 145 (.string (oT (x.a + x.b))) :: .v 146 (.int .i64 s2) :: .v 147 (.bool true) :: .v 148 (.bool true) :: []) [] [⟨b20, #[.string (nX d.m), .string ⟨#[48]⟩, .string (nZ d.m), .string (oT d.a), .string (oT d.b), .string ⟨#[]⟩], 37, none⟩, ⟨b22, #[.string (nX x.m), .string ⟨#[48]⟩, .string (nZ x.m), .string (oT x.a), .string (oT x.b), .string ⟨#[]⟩], 37, none⟩] [] [] [] [] [] (by kernel_rfl) B.out ⟨K20.out, K22.out, trivial⟩ trivial ⟨pu, pu, ld 1 3, pu, pu, ld 0 3, pu, ld 0 4, cl HA1.out, cl HC1.out, ?_, pu, pu, pu, ld 0 3, pu, pu, ld 1 3, pu, ld 1 4, cl HA2.out, cl HC2.out, ?_, pu, trivial⟩ ?_
            ·intro L a U ho J hn dd KK kk; refine .free rfl ?_; have r9 := J.read 9 rfl (dd.get 9 rfl); go_simp; exact kk.out _ _ (J.st 10 rfl rfl)
            ·intro L a U ho J hn dd KK kk; refine .pos (s := 136) rfl rfl (J.vals 11 _ _ rfl (dd.get 11 rfl)) ?_; have r21 := J.read 21 rfl (dd.get 21 rfl); go_simp; exact kk.out _ _ (J.st 22 rfl rfl)
            rintro σ W9 _ _ _ _ B9
            simp only [slotsOf, finX, nval, nvalN, nvalA, Nat.reduceBEq, cond_true, cond_false, putAll, Act.put, List.setIfInBounds_toArray, List.set_cons_succ, List.set_cons_zero]
            go_wp2
            go_ret2
            exact ⟨⟨_, _, rfl, HEE.out.symm, fun _ => rfl, fun h => by cases h⟩, B9.out⟩
           ·rw [decide_eq_false h2] at g2
            have NA2 := Lib.hid (NA.out.next HX.out (fun h => h2 h.2))
            clear h1 h2
            refine wp_tab (.v 125 (.pointer (some ⟨b22, 0, none⟩)) :: .v 126 (.pointer (some ⟨b22, 3, none⟩)) :: .v 127 (.string (oT x.a)) :: .v 128 (.pointer (some ⟨b20, 0, none⟩)) :: .v 129 (.pointer (some ⟨b20, 3, none⟩)) :: .v 130 (.string (oT d.a)) :: .v 131 (.pointer (some ⟨b20, 4, none⟩)) :: .v 132 (.string (oT d.b)) :: .v 133 (.string (oT (d.a + d.b))) :: .v 134 (.int .i64 s1) :: .v 135 (.bool true) :: .v 136 (.bool true) :: .v 137 (.pointer (some ⟨b20, 0, none⟩)) :: .v 138 (.pointer (some ⟨b20, 3, none⟩)) :: .v 139 (.string (oT d.a)) :: .v 140 (.pointer (some ⟨b22, 0, none⟩)) :: .v 141 (.pointer (some ⟨b22, 3, none⟩)) :: .v 142 (.string (oT x.a)) :: .v 143 (.pointer (some ⟨b22, 4, none⟩)) :: .v 144 (.string (oT x.b)) :: .v 145 (.string (oT (x.a + x.b))) :: .v 146 (.int .i64 s2) :: .v 147 (.bool false) :: .v 148 (.bool false) :: []) [] [⟨b20, #[.string (nX d.m), .string ⟨#[48]⟩, .string (nZ d.m), .string (oT d.a), .string (oT d.b), .string ⟨#[]⟩], 37, none⟩, ⟨b22, #[.string (nX x.m), .string ⟨#[48]⟩, .string (nZ x.m), .string (oT x.a), .string (oT x.b), .string ⟨#[]⟩], 37, none⟩] [] [] [] [] [] (by kernel_rfl) B.out ⟨K20.out, K22.out, trivial⟩ trivial ⟨pu, pu, ld 1 3, pu, pu, ld 0 3, pu, ld 0 4, cl HA1.out, cl HC1.out, ?_, pu, pu, pu, ld 0 3, pu, pu, ld 1 3, pu, ld 1 4, cl HA2.out, cl HC2.out, ?_, pu, trivial⟩ ?_
            ·intro L a U ho J hn dd KK kk; refine .free rfl ?_; have r9 := J.read 9 rfl (dd.get 9 rfl); go_simp; exact kk.out _ _ (J.st 10 rfl rfl)
            ·intro L a U ho J hn dd KK kk; refine .pos (s := 136) rfl rfl (J.vals 11 _ _ rfl (dd.get 11 rfl)) ?_; have r21 := J.read 21 rfl (dd.get 21 rfl); go_simp; exact kk.out _ _ (J.st 22 rfl rfl)
            rintro σ W9 _ ⟨K20b, _⟩ _ _ B9
            simp only [slotsOf, finX, nval, nvalN, nvalA, Nat.reduceBEq, cond_true, cond_false, putAll, Act.put, List.setIfInBounds_toArray, List.set_cons_succ, List.set_cons_zero]
            go_wp2
            refine ⟨⟨j + 1, by omega, by go_num, NA2.out, K20b.out, B9.out⟩, by simp [intOf]; omega⟩
          ·rw [decide_eq_false h1] at g1
           have NA2 := Lib.hid (NA.out.next HX.out (fun h => h1 h.1))
           clear h1
           refine wp_tab (.v 125 (.pointer (some ⟨b22, 0, none⟩)) :: .v 126 (.pointer (some ⟨b22, 3, none⟩)) :: .v 127 (.string (oT x.a)) :: .v 128 (.pointer (some ⟨b20, 0, none⟩)) :: .v 129 (.pointer (some ⟨b20, 3, none⟩)) :: .v 130 (.string (oT d.a)) :: .v 131 (.pointer (some ⟨b20, 4, none⟩)) :: .v 132 (.string (oT d.b)) :: .v 133 (.string (oT (d.a + d.b))) :: .v 134 (.int .i64 s1) :: .v 135 (.bool false) :: .v 136 (.bool false) :: .v 137 undef :: .v 138 undef :: .v 139 undef :: .v 140 undef :: .v 141 undef :: .v 142 undef :: .v 143 undef :: .v 144 undef :: .v 145 undef :: .v 146 undef :: .v 147 undef :: .v 148 (.bool false) :: []) [] [⟨b20, #[.string (nX d.m), .string ⟨#[48]⟩, .string (nZ d.m), .string (oT d.a), .string (oT d.b), .string ⟨#[]⟩], 37, none⟩, ⟨b22, #[.string (nX x.m), .string ⟨#[48]⟩, .string (nZ x.m), .string (oT x.a), .string (oT x.b), .string ⟨#[]⟩], 37, none⟩] [] [] [] [] [] (by kernel_rfl) B.out ⟨K20.out, K22.out, trivial⟩ trivial ⟨pu, pu, ld 1 3, pu, pu, ld 0 3, pu, ld 0 4, cl HA1.out, cl HC1.out, ?_, pu, sk, sk, sk, sk, sk, sk, sk, sk, sk, sk, sk, pu, trivial⟩ ?_
           ·intro L a U ho J hn dd KK kk; refine .free rfl ?_; have r9 := J.read 9 rfl (dd.get 9 rfl); go_simp; exact kk.out _ _ (J.st 10 rfl rfl)
           rintro σ W9 _ ⟨K20b, _⟩ _ _ B9
           simp only [slotsOf, finX, nval, nvalN, nvalA, Nat.reduceBEq, cond_true, cond_false, putAll, Act.put, List.setIfInBounds_toArray, List.set_cons_succ, List.set_cons_zero]
           go_wp2
           refine ⟨⟨j + 1, by omega, by go_num, NA2.out, K20b.out, B9.out⟩, by simp [intOf]; omega⟩
         ·have hjk2 : j = k := by omega
          subst hjk2
          have NH2 := Lib.hid (NH.out.next HD.out NA.out)
          have hlt1 : ¬ (j : Int) < (j : Int) := by omega
          go_wp2
          refine ⟨⟨j + 1, by omega, by go_num, NH2.out, B.out⟩, by simp [intOf]; omega⟩
       ·have hkl : k = ds.length := by omega
        subst hkl
        have hlt1 : ¬ (ds.length : Int) < (ds.length : Int) := by omega
        have HEE := Lib.hid (dilE_ok HFT.out NB.out NH.out)
        have hft := HFT.out
        have HSB : Hid (Ret Tryz.prog w 28 #[.string (oT (2 * t)), .string (oT (2 * f))] (.string (oT (2 * t - 2 * f)))) := Lib.hid (fun W hW => subH _ _ htx hfx W (HE.out W hW))
        have HDV : Hid (Ret Tryz.prog w 27 #[.string (oT (sumB ds)), .string (oT (2 * t - 2 * f))] (.tuple #[.string (canonR ((sumB ds : Rat) / ((2 * t - 2 * f : Int) : Rat))), .int .i64 0])) := Lib.hid (fun W hW => divH _ _ (by omega) (by omega) W (HE.out W hW) (by omega))
        have HSH : Hid (Ret Tryz.prog w 29 #[.string (canonR ((sumB ds : Rat) / ((2 * t - 2 * f : Int) : Rat)))] (.tuple #[.string (canonR ((sumB ds : Rat) / ((2 * t - 2 * f : Int) : Rat))), .int .i64 0])) := Lib.hid (fun W hW => shortH _ (quot_sz _ _ (by omega) (by omega) (by omega)) W (HE.out W hW))
        clear hft hlt NB NH
        generalize hRT : canonR ((sumB ds : Rat) / ((2 * t - 2 * f : Int) : Rat)) = RT at *
        have HRT := Lib.hid hRT
        clear hRT
        go_wp2_with (first
         | (go_at_call 28; with_reducible refine (HSB.out _ B.out).mono ?_; rintro e wx ⟨rfl, q⟩; replace B := Lib.hid (B.out.trans (q.mono B.out.size)); clear q)
         | (go_at_call 27; with_reducible refine (HDV.out _ B.out).mono ?_; rintro e wx ⟨rfl, q⟩; replace B := Lib.hid (B.out.trans (q.mono B.out.size)); clear q)
         | (go_at_call 29; with_reducible refine (HSH.out _ B.out).mono ?_; rintro e wx ⟨rfl, q⟩; replace B := Lib.hid (B.out.trans (q.mono B.out.size)); clear q)
         | fail "arm")
        go_ret2
        exact ⟨⟨_, _, rfl, HEE.out.symm, fun h => absurd rfl h, fun _ => HRT.out.symm⟩, B.out⟩

end Go.Proofs.YtnallacamijkeaaGreatDoor
