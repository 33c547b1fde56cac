/- CorrelateBest: the walk. -/
import Derived.Test.YthhkmihjnnfpgaaGreatDoorGCorB
import Derived.Test.YthhkmihjnnfpgaaGreatDoorGCorRa
import Derived.Test.YthhkmihjnnfpgaaGreatDoorGCorU
namespace Go.Proofs.YthhkmihjnnfpgaaGreatDoor
set_option linter.all false
open Go.RowKit

attribute [local go_sem] Oper.semAt_some

set_option maxRecDepth 100000 in
set_option maxHeartbeats 8000000 in
theorem corBest_walk (p : PL) (hp : p.ok) (vl vr : Value) (w : World) (he : Env w) (hl : BAt w vl p.l) (hr : BAt w vr p.r) :
  Calls Tryz.prog 3 #[.agg #[vl, vr, .int .u8 p.c0, .int .u8 p.c1, .int .u8 p.c2, .int .u8 p.c3]] w fun e w' => e = .returned (.bool true) ∧ Below w.heap.size w w' := by
 obtain ⟨A1, k1, rfl, hk1⟩ := hl.cap
 obtain ⟨A2, k2, rfl, hk2⟩ := hr.cap
 have HE := Lib.hid he
 have HL := Lib.hid hl
 have HR := Lib.hid hr
 have B := Lib.hid (Below.refl w.heap.size w)
 clear he hl hr
 go_enter Tryz.func3, Tryz.ntmps3
 go_upto_region 1 with (fail)
 have k_ := Blk.fresh w #[.slice A1 p.l.length k1, .slice A2 p.r.length k2, .int .u8 p.c0, .int .u8 p.c1, .int .u8 p.c2, .int .u8 p.c3] 25
 have q_ := below_new w (.cells #[.slice A1 p.l.length k1, .slice A2 p.r.length k2, .int .u8 p.c0, .int .u8 p.c1, .int .u8 p.c2, .int .u8 p.c3] 25)
 generalize (w.alloc (.cells #[.slice A1 p.l.length k1, .slice A2 p.r.length k2, .int .u8 p.c0, .int .u8 p.c1, .int .u8 p.c2, .int .u8 p.c3] 25)) = W1 at *
 obtain ⟨b2, hg_⟩ : ∃ g, w.heap.size = g := ⟨_, rfl⟩
 rw [hg_] at k_ ⊢
 replace B := Lib.hid (B.out.trans (q_.mono B.out.size))
 have K2 := Lib.hid k_
 clear q_ k_ hg_
 have HKN := Lib.hid (known44_any W1 (HE.out.below B.out))
 go_upto_region 3 with (first
  | (go_at_call 13; with_reducible refine HKN.out.mono ?_; rintro e W3 ⟨rfl, q_W3⟩)
  | fail "arm")
 replace K2 := Lib.hid (K2.out.below q_W3)
 replace B := Lib.hid (B.out.trans (q_W3.mono B.out.size))
 clear q_W3
 clear HKN
 have y0 := K2.out.at_ 0 _ rfl
 have y1 := K2.out.at_ 1 _ rfl
 have y2 := K2.out.at_ 2 _ rfl
 have y3 := K2.out.at_ 3 _ rfl
 have y4 := K2.out.at_ 4 _ rfl
 have y5 := K2.out.at_ 5 _ rfl
 go_wp2_with (fail)
 clear y0 y1 y2 y3 y4 y5
 with_reducible refine (make44_any p hp _ _ W3 (HE.out.below B.out) (HL.out.below B.out) (HR.out.below B.out)).mono ?_
 rintro e W4 ⟨v1, v2, rfl, hq4, q_W4⟩
 replace K2 := Lib.hid (K2.out.below q_W4)
 replace B := Lib.hid (B.out.trans (q_W4.mono B.out.size))
 clear q_W4
 obtain ⟨a1, g1, e1, _⟩ := hq4.l
 obtain ⟨a2, g2, e2, _⟩ := hq4.r
 subst e1 e2
 have HQ := Lib.hid hq4
 clear hq4
 have OK := Lib.hid p.qok
 generalize p.q = q at *
 go_upto_region 4 with (fail)
 have k_ := Blk.fresh W4 #[.slice a1 q.L.length g1, .slice a2 q.R.length g2, .string (qT (2 * q.ch)), .string (qT (2 * q.mi)), .string (qT (2 * q.ga)), .string (qT (2 * q.re))] 32
 have q_ := below_new W4 (.cells #[.slice a1 q.L.length g1, .slice a2 q.R.length g2, .string (qT (2 * q.ch)), .string (qT (2 * q.mi)), .string (qT (2 * q.ga)), .string (qT (2 * q.re))] 32)
 generalize (W4.alloc (.cells #[.slice a1 q.L.length g1, .slice a2 q.R.length g2, .string (qT (2 * q.ch)), .string (qT (2 * q.mi)), .string (qT (2 * q.ga)), .string (qT (2 * q.re))] 32)) = W5 at *
 obtain ⟨b5, hg_⟩ : ∃ g, W4.heap.size = g := ⟨_, rfl⟩
 rw [hg_] at k_ ⊢
 replace K2 := Lib.hid (K2.out.below q_)
 replace HQ := Lib.hid (HQ.out.below q_)
 replace B := Lib.hid (B.out.trans (q_.mono B.out.size))
 have K5 := Lib.hid k_
 clear q_ k_ hg_
 have y0 := K5.out.at_ 0 _ rfl
 have y1 := K5.out.at_ 1 _ rfl
 have y2 := K5.out.at_ 2 _ rfl
 have y3 := K5.out.at_ 3 _ rfl
 have y4 := K5.out.at_ 4 _ rfl
 have y5 := K5.out.at_ 5 _ rfl
 go_wp2_with (fail)
 clear y0 y1 y2 y3 y4 y5
 with_reducible refine (best_any q OK.out _ _ W5 (HE.out.below B.out) HQ.out).mono ?_
 rintro e W6 ⟨v, rfl, hrow, q_W6⟩
 obtain ⟨va, vc, e1⟩ := hrow.len_eval
 subst e1
 have HROW := Lib.hid (cast_SAB (row_lookB stC_len hrow))
 clear hrow
 replace K2 := Lib.hid (K2.out.below q_W6)
 replace HQ := Lib.hid (HQ.out.below q_W6)
 replace K5 := Lib.hid (K5.out.below q_W6)
 replace B := Lib.hid (B.out.trans (q_W6.mono B.out.size))
 clear q_W6
 have hwl : (castS (way q 0 0)).length ≤ 12 := by
  unfold castS
  rw [List.length_map]
  have h := way_len q _ 0 0 rfl (Nat.zero_le _) (Nat.zero_le _)
  have h1 := OK.out.hl
  have h2 := OK.out.hr
  unfold left at h
  omega
 have HWL := Lib.hid hwl
 clear hwl
 obtain ⟨na, hna⟩ : ∃ n, (way q 0 0).length = n := ⟨_, rfl⟩
 have HNA := Lib.hid hna
 rw [hna]
 rw [castS_len, hna] at HROW
 clear hna
 go_upto_region 5 with (fail)
 have k_ := Blk.fresh W6 #[.slice va na vc, .string (qT (rst q 0 0))] 36
 have q_ := below_new W6 (.cells #[.slice va na vc, .string (qT (rst q 0 0))] 36)
 generalize (W6.alloc (.cells #[.slice va na vc, .string (qT (rst q 0 0))] 36)) = W7 at *
 obtain ⟨b6, hg_⟩ : ∃ g, W6.heap.size = g := ⟨_, rfl⟩
 rw [hg_] at k_ ⊢
 replace K2 := Lib.hid (K2.out.below q_)
 replace HQ := Lib.hid (HQ.out.below q_)
 replace K5 := Lib.hid (K5.out.below q_)
 replace HROW := Lib.hid (HROW.out.below q_)
 replace B := Lib.hid (B.out.trans (q_.mono B.out.size))
 have K6 := Lib.hid k_
 clear q_ k_ hg_
 have y0 := K5.out.at_ 0 _ rfl
 have y1 := K5.out.at_ 1 _ rfl
 have y2 := K5.out.at_ 2 _ rfl
 have y3 := K5.out.at_ 3 _ rfl
 have y4 := K5.out.at_ 4 _ rfl
 have y5 := K5.out.at_ 5 _ rfl
 go_wp2_with (fail)
 clear y0 y1 y2 y3 y4 y5
 with_reducible refine (count_any q OK.out _ _ W7 (HE.out.below B.out) HQ.out).mono ?_
 rintro e W8 ⟨rfl, q_W8⟩
 replace K2 := Lib.hid (K2.out.below q_W8)
 replace HQ := Lib.hid (HQ.out.below q_W8)
 replace K5 := Lib.hid (K5.out.below q_W8)
 replace HROW := Lib.hid (HROW.out.below q_W8)
 replace K6 := Lib.hid (K6.out.below q_W8)
 replace B := Lib.hid (B.out.trans (q_W8.mono B.out.size))
 clear q_W8
 have y0 := K5.out.at_ 0 _ rfl
 have y1 := K5.out.at_ 1 _ rfl
 have y2 := K5.out.at_ 2 _ rfl
 have y3 := K5.out.at_ 3 _ rfl
 have y4 := K5.out.at_ 4 _ rfl
 have y5 := K5.out.at_ 5 _ rfl
 go_wp2_with (fail)
 clear y0 y1 y2 y3 y4 y5
 with_reducible refine (lbest_any q OK.out _ _ W8 (HE.out.below B.out) HQ.out).mono ?_
 rintro e W9 ⟨v, rfl, hrow, q_W9⟩
 obtain ⟨vb, vd, e1⟩ := hrow.len_eval
 subst e1
 have HROX := Lib.hid (cast_SAB (row_lookB stC_len hrow))
 clear hrow
 replace K2 := Lib.hid (K2.out.below q_W9)
 replace HQ := Lib.hid (HQ.out.below q_W9)
 replace K5 := Lib.hid (K5.out.below q_W9)
 replace HROW := Lib.hid (HROW.out.below q_W9)
 replace K6 := Lib.hid (K6.out.below q_W9)
 replace B := Lib.hid (B.out.trans (q_W9.mono B.out.size))
 clear q_W9
 rw [HNA.out]
 rw [castS_len, HNA.out] at HROX
 go_upto_region 7 with (fail)
 have k_ := Blk.fresh W9 #[.slice vb na vd, .string (qT (rst q 0 0))] 36
 have q_ := below_new W9 (.cells #[.slice vb na vd, .string (qT (rst q 0 0))] 36)
 generalize (W9.alloc (.cells #[.slice vb na vd, .string (qT (rst q 0 0))] 36)) = W10 at *
 obtain ⟨b8, hg_⟩ : ∃ g, W9.heap.size = g := ⟨_, rfl⟩
 rw [hg_] at k_ ⊢
 replace K2 := Lib.hid (K2.out.below q_)
 replace HQ := Lib.hid (HQ.out.below q_)
 replace K5 := Lib.hid (K5.out.below q_)
 replace HROW := Lib.hid (HROW.out.below q_)
 replace K6 := Lib.hid (K6.out.below q_)
 replace HROX := Lib.hid (HROX.out.below q_)
 replace B := Lib.hid (B.out.trans (q_.mono B.out.size))
 have K8 := Lib.hid k_
 clear q_ k_ hg_
 have y0 := K5.out.at_ 0 _ rfl
 have y1 := K5.out.at_ 1 _ rfl
 have y2 := K5.out.at_ 2 _ rfl
 have y3 := K5.out.at_ 3 _ rfl
 have y4 := K5.out.at_ 4 _ rfl
 have y5 := K5.out.at_ 5 _ rfl
 go_wp2_with (fail)
 clear y0 y1 y2 y3 y4 y5
 with_reducible refine (lrests_any q OK.out _ _ W10 (HE.out.below B.out) HQ.out).mono ?_
 rintro e W11 ⟨lb, wb, rl, rw_, rfl, htl, htw, hs1, hs2, hs3, q_W11⟩
 clear htl hs1 hs2 hs3
 replace K2 := Lib.hid (K2.out.below q_W11)
 replace HQ := Lib.hid (HQ.out.below q_W11)
 replace K5 := Lib.hid (K5.out.below q_W11)
 replace HROW := Lib.hid (HROW.out.below q_W11)
 replace K6 := Lib.hid (K6.out.below q_W11)
 replace HROX := Lib.hid (HROX.out.below q_W11)
 replace K8 := Lib.hid (K8.out.below q_W11)
 replace B := Lib.hid (B.out.trans (q_W11.mono B.out.size))
 clear q_W11
 have x1 := htw.cell1 0 (Nat.le_refl _) (Nat.succ_pos _)
 have x2 := htw.cell2 0 0 (Nat.le_refl _) (Nat.succ_pos _) (Nat.succ_pos _)
 have TW := Lib.hid htw
 clear htw
 have HSM := Lib.hid (same_refl (castS (way q 0 0)) (by have := HWL.out; omega) (.slice va na vc) (.slice vb na vd) W11 HROW.out HROX.out)
 have hcb := cnt_bdQ q OK.out 0 0 (Nat.zero_le _) (Nat.zero_le _)
 have HOF := Lib.hid (fun W (hW : Below w.heap.size w W) => of_any ((cnt q 0 0 : Nat) : Int) (by omega) (by omega) W (HE.out.below hW).1)
 clear hcb
 generalize hr0 : rw_ 0 = r0 at x1 x2
 have HR0 := Lib.hid hr0
 clear hr0
 generalize ((cnt q 0 0 : Nat) : Int) = cn at *
 generalize qT (rst q 0 0) = tx at *
 generalize canon cn = tn at *
 have t1 : (0 : Int) < (q.L.length : Int) + 1 := by omega
 have t2 : (0 : Int) < (q.R.length : Int) + 1 := by omega
 have a0 := K6.out.at_ 0 _ rfl
 have a1x := K6.out.at_ 1 _ rfl
 have b0 := K8.out.at_ 0 _ rfl
 have b1x := K8.out.at_ 1 _ rfl
 go_wp2_with (first
  | (go_at_call 19; with_reducible refine HSM.out.mono ?_; rintro e W12 ⟨rfl, q12⟩; have x3 := (q12.cell (p := ⟨wb, 0, none⟩) TW.out.out.lt).trans x1; have x4 := (q12.cell (p := ⟨r0, 0, none⟩) (by have h := (TW.out.row 0 (Nat.le_refl _) (Nat.succ_pos _)).lt; rw [HR0.out] at h; exact h)).trans x2; replace B := Lib.hid (B.out.trans (q12.mono B.out.size)); clear q12 x1 x2)
  | (go_at_call 20; with_reducible refine (HOF.out _ B.out).mono ?_; rintro e W13 ⟨rfl, q13⟩; replace B := Lib.hid (B.out.trans (q13.mono B.out.size)); clear q13)
  | fail "arm")
 exact bodyPost_ret (v := .bool true) (by kernel_rfl) rfl ⟨rfl, B.out⟩

end Go.Proofs.YthhkmihjnnfpgaaGreatDoor
