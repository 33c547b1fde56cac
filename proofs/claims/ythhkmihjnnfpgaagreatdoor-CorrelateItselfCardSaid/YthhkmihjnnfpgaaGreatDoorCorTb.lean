/- Total of whatever steps. -/
import Derived.Test.YthhkmihjnnfpgaaGreatDoorCorTa
namespace Go.Proofs.YthhkmihjnnfpgaaGreatDoor
set_option linter.all false
open Go.RowKit

attribute [local go_sem] Oper.semAt_some

theorem runF_bd (q : CQ) (ok : OkQ q) : ∀ (l : List (Int × Int × Int)) (i j : Nat) (s : Int), (0 ≤ s ∧ s ≤ 60000 * ((i : Int) + (j : Int))) → (runF q i j s l).1 = 0 → 0 ≤ (runF q i j s l).2 ∧ (runF q i j s l).2 ≤ 720000
 | [], i, j, s, hb, h => by
  unfold runF at h ⊢
  by_cases hc : i = q.L.length ∧ j = q.R.length
  ·rw [if_pos hc]
   have h1 := ok.hl
   have h2 := ok.hr
   show 0 ≤ s ∧ s ≤ 720000
   omega
  ·rw [if_neg hc] at h
   cases h
 | (k, a, b) :: l, i, j, s, hb, h => by
  unfold runF at h ⊢
  by_cases h1 : a ≠ (i : Int) ∨ b ≠ (j : Int)
  ·rw [if_pos h1] at h
   cases h
  ·rw [if_neg h1] at h ⊢
   by_cases h2 : errI q k a b ≠ 0
   ·rw [if_pos h2] at h
    exact absurd h h2
   ·rw [if_neg h2] at h ⊢
    obtain ⟨k', i', j', rfl, hi, hj, hk, h3, h4, ho⟩ := errI_ok (Classical.byContradiction h2)
    obtain rfl : i = i' := by omega
    obtain rfl : j = j' := by omega
    rw [Int.toNat_natCast] at h ⊢
    have hcb := cst_bdS q ok k' i j hk
    have hst := (nx_more (i := i) (j := j) hk).1
    exact runF_bd q ok l _ _ _ ⟨by omega, by omega⟩ h
set_option maxRecDepth 100000 in
set_option maxHeartbeats 8000000 in
theorem total_any (q : CQ) (ok : OkQ q) (l : List (Int × Int × Int)) (hl : l.length ≤ 1000) (sl sr v : Value) (w : World) (he : Env w) (hq : QAt w sl sr q) (hv : SAt stI 3 w v l) :
  Calls Tryz.prog 25 #[.agg #[sl, sr, .string (qT (2 * q.ch)), .string (qT (2 * q.mi)), .string (qT (2 * q.ga)), .string (qT (2 * q.re))], v] w fun e w' => e = .returned (totV (runF q 0 0 0 l)) ∧ Below w.heap.size w w' := by
 have HT := Lib.hid (fun W (h : Below w.heap.size w W) => qtotal_any q ok l hl sl sr v W (he.below h) (hq.below h) (hv.below h))
 have HE := Lib.hid he
 have HBD := Lib.hid (runF_bd q ok l 0 0 0 ⟨Int.le_refl _, by omega⟩)
 obtain ⟨A1, n1, rfl, _⟩ := hq.l
 obtain ⟨A2, n2, rfl, _⟩ := hq.r
 clear he hq ok hv
 generalize runF q 0 0 0 l = R at *
 obtain ⟨er, s⟩ := R
 have B := Lib.hid (Below.refl w.heap.size w)
 generalize q.L.length = l1 at *
 generalize q.R.length = l2 at *
 generalize qT (2 * q.ch) = c1 at *
 generalize qT (2 * q.mi) = c2 at *
 generalize qT (2 * q.ga) = c3 at *
 generalize qT (2 * q.re) = c4 at *
 go_enter Tryz.func25, Tryz.ntmps25
 go_upto_region 1 with (fail)
 have K2 := Lib.hid (Blk.fresh w #[.slice A1 l1 n1, .slice A2 l2 n2, .string c1, .string c2, .string c3, .string c4] 32)
 have q2 := below_new w (.cells #[.slice A1 l1 n1, .slice A2 l2 n2, .string c1, .string c2, .string c3, .string c4] 32)
 replace B := Lib.hid (B.out.trans (q2.mono B.out.size))
 clear q2
 generalize (w.alloc (.cells #[.slice A1 l1 n1, .slice A2 l2 n2, .string c1, .string c2, .string c3, .string c4] 32)) = W1 at *
 obtain ⟨b2, hb2e⟩ : ∃ b2, w.heap.size = b2 := ⟨_, rfl⟩
 have HB2E := Lib.hid hb2e
 rw [hb2e] at K2 ⊢
 clear hb2e
 have y0 := K2.out.at_ 0 _ rfl
 have y1 := K2.out.at_ 1 _ rfl
 have y2 := K2.out.at_ 2 _ rfl
 have y3 := K2.out.at_ 3 _ rfl
 have y4 := K2.out.at_ 4 _ rfl
 have y5 := K2.out.at_ 5 _ rfl
 by_cases her : er = 0
 ·subst her
  have hb := HBD.out rfl
  have HRT := Lib.hid (cright_any s (by have h : 0 ≤ s ∧ s ≤ 720000 := hb; omega) w HE.out)
  clear HBD hb
  go_wp2_with (first
   | (go_at_call 66; with_reducible refine (HT.out _ B.out).mono ?_; rintro e9 wx ⟨rfl, q9⟩; simp only [totV, if_true]; replace B := Lib.hid (B.out.trans (q9.mono B.out.size)); clear q9)
   | (go_at_call 49; with_reducible refine (HRT.out _ B.out).mono ?_; rintro e9 wx ⟨rfl, q9⟩; replace B := Lib.hid (B.out.trans (q9.mono B.out.size)); clear q9)
   | fail "arm")
  go_ret2
  rw [← HB2E.out]
  exact ⟨rfl, B.out⟩
 ·have hn : (er == 0) = false := by rw [beq_eq_false_iff_ne]; exact her
  have HTV : Hid (totV (er, s) = .tuple #[.string ⟨#[]⟩, .int .i64 er]) := Lib.hid (by unfold totV; dsimp only; rw [if_neg her])
  rw [HTV.out] at HT
  clear HBD
  go_wp2_with (first
   | (go_at_call 66; with_reducible refine (HT.out _ B.out).mono ?_; rintro e9 wx ⟨rfl, q9⟩; replace B := Lib.hid (B.out.trans (q9.mono B.out.size)); clear q9)
   | fail "arm")
  go_ret2
  rw [HTV.out, ← HB2E.out]
  exact ⟨rfl, B.out⟩

end Go.Proofs.YthhkmihjnnfpgaaGreatDoor
