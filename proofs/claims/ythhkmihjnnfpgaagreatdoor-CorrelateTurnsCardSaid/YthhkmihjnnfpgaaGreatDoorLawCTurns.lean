/- CorrelateTurns: the walk. -/
import Derived.Test.YthhkmihjnnfpgaaGreatDoorCorZ
namespace Go.Proofs.YthhkmihjnnfpgaaGreatDoor
set_option linter.all false
open Go.RowKit

attribute [local go_sem] Oper.semAt_some

set_option maxRecDepth 100000 in
set_option maxHeartbeats 8000000 in
theorem corTurns_walk (p : PL) (hp : p.ok) (m0 m1 m2 m3 : Nat) (hm : m0 < 256 ∧ m1 < 256 ∧ m2 < 256 ∧ m3 < 256) (vl vr : Value) (w : World) (he : Env w) (hl : BAt w vl p.l) (hr : BAt w vr p.r) :
  Calls Tryz.prog 4 #[.agg #[vl, vr, .int .u8 p.c0, .int .u8 p.c1, .int .u8 p.c2, .int .u8 p.c3], .agg #[.int .u8 m0, .int .u8 m1, .int .u8 m2, .int .u8 m3]] w fun e w' => e = .returned (.bool true) ∧ Below w.heap.size w w' := by
 obtain ⟨A1, k1, rfl, hk1⟩ := hl.cap
 obtain ⟨A2, k2, rfl, hk2⟩ := hr.cap
 have HE := Lib.hid he
 have HL := Lib.hid hl
 have HR := Lib.hid hr
 have B := Lib.hid (Below.refl w.heap.size w)
 clear he hl hr
 go_enter Tryz.func4, Tryz.ntmps4
 go_upto_region 1 with (fail)
 have hz_ : (w.alloc (.cells #[.slice A1 p.l.length k1, .slice A2 p.r.length k2, .int .u8 p.c0, .int .u8 p.c1, .int .u8 p.c2, .int .u8 p.c3] 25)).heap.size = w.heap.size + 1 := by simp
 have k_ := Blk.fresh w #[.slice A1 p.l.length k1, .slice A2 p.r.length k2, .int .u8 p.c0, .int .u8 p.c1, .int .u8 p.c2, .int .u8 p.c3] 25
 have q_ := below_new w (.cells #[.slice A1 p.l.length k1, .slice A2 p.r.length k2, .int .u8 p.c0, .int .u8 p.c1, .int .u8 p.c2, .int .u8 p.c3] 25)
 generalize (w.alloc (.cells #[.slice A1 p.l.length k1, .slice A2 p.r.length k2, .int .u8 p.c0, .int .u8 p.c1, .int .u8 p.c2, .int .u8 p.c3] 25)) = W1 at *
 obtain ⟨b2, hg_⟩ : ∃ g, w.heap.size = g := ⟨_, rfl⟩
 rw [hg_] at k_ ⊢
 rw [hg_] at hz_
 have HZ := Lib.hid hz_
 clear hz_
 replace B := Lib.hid (B.out.trans (q_.mono B.out.size))
 have K2 := Lib.hid k_
 clear q_ k_ hg_
 have k_ := Blk.fresh W1 #[.int .u8 m0, .int .u8 m1, .int .u8 m2, .int .u8 m3] 23
 have q_ := below_new W1 (.cells #[.int .u8 m0, .int .u8 m1, .int .u8 m2, .int .u8 m3] 23)
 generalize (W1.alloc (.cells #[.int .u8 m0, .int .u8 m1, .int .u8 m2, .int .u8 m3] 23)) = W2 at *
 rw [HZ.out] at k_
 replace K2 := Lib.hid (K2.out.below q_)
 replace B := Lib.hid (B.out.trans (q_.mono B.out.size))
 have K3 := Lib.hid k_
 clear q_ k_ HZ
 have HBA : Hid (BAt W2 (.slice A1 p.l.length k1) p.l ∧ BAt W2 (.slice A2 p.r.length k2) p.r) := Lib.hid ⟨HL.out.below B.out, HR.out.below B.out⟩
 have HKN := Lib.hid (known44_any W2 (HE.out.below B.out))
 go_upto_region 3 with (first
  | (go_at_call 13; with_reducible refine HKN.out.mono ?_; rintro e W3 ⟨rfl, q_W3⟩)
  | fail "arm")
 replace K2 := Lib.hid (K2.out.below q_W3)
 replace K3 := Lib.hid (K3.out.below q_W3)
 replace B := Lib.hid (B.out.trans (q_W3.mono B.out.size))
 clear q_W3
 clear HKN
 have y0 := K2.out.at_ 0 _ rfl
 have y1 := K2.out.at_ 1 _ rfl
 have y2 := K2.out.at_ 2 _ rfl
 have y3 := K2.out.at_ 3 _ rfl
 have y4 := K2.out.at_ 4 _ rfl
 have y5 := K2.out.at_ 5 _ rfl
 go_wp2_with (fail)
 clear HBA
 clear y0 y1 y2 y3 y4 y5
 with_reducible refine (make44_any p hp _ _ W3 (HE.out.below B.out) (HL.out.below B.out) (HR.out.below B.out)).mono ?_
 rintro e W4 ⟨v1, v2, rfl, hq4, q_W4⟩
 replace K2 := Lib.hid (K2.out.below q_W4)
 replace K3 := Lib.hid (K3.out.below q_W4)
 replace B := Lib.hid (B.out.trans (q_W4.mono B.out.size))
 clear q_W4
 obtain ⟨a1, g1, e1, _⟩ := hq4.l
 obtain ⟨a2, g2, e2, _⟩ := hq4.r
 subst e1 e2
 have HQ := Lib.hid hq4
 clear hq4
 have OK := Lib.hid p.qok
 have HC : Hid (p.q.ch ≤ 5 ∧ p.q.mi ≤ 5 ∧ p.q.ga ≤ 5 ∧ p.q.re ≤ 5) := Lib.hid (by
  have h1 : p.q.ch = ((p.c0 % 6 : Nat) : Int) := rfl
  have h2 : p.q.mi = ((p.c1 % 6 : Nat) : Int) := rfl
  have h3 : p.q.ga = ((p.c2 % 6 : Nat) : Int) := rfl
  have h4 : p.q.re = ((p.c3 % 6 : Nat) : Int) := rfl
  omega)
 generalize p.q = q at *
 have OKR : Hid (OkQ (swapQ q)) := Lib.hid ⟨OK.out.hr, OK.out.hl, OK.out.okr, OK.out.okl, OK.out.ch, OK.out.mi, OK.out.ga, OK.out.re⟩
 go_upto_region 4 with (fail)
 have k_ := Blk.fresh W4 #[.slice a1 q.L.length g1, .slice a2 q.R.length g2, .string (qT (2 * q.ch)), .string (qT (2 * q.mi)), .string (qT (2 * q.ga)), .string (qT (2 * q.re))] 32
 have q_ := below_new W4 (.cells #[.slice a1 q.L.length g1, .slice a2 q.R.length g2, .string (qT (2 * q.ch)), .string (qT (2 * q.mi)), .string (qT (2 * q.ga)), .string (qT (2 * q.re))] 32)
 generalize (W4.alloc (.cells #[.slice a1 q.L.length g1, .slice a2 q.R.length g2, .string (qT (2 * q.ch)), .string (qT (2 * q.mi)), .string (qT (2 * q.ga)), .string (qT (2 * q.re))] 32)) = W5 at *
 obtain ⟨b5, hg_⟩ : ∃ g, W4.heap.size = g := ⟨_, rfl⟩
 rw [hg_] at k_ ⊢
 replace K2 := Lib.hid (K2.out.below q_)
 replace K3 := Lib.hid (K3.out.below q_)
 replace HQ := Lib.hid (HQ.out.below q_)
 replace B := Lib.hid (B.out.trans (q_.mono B.out.size))
 have K5 := Lib.hid k_
 clear q_ k_ hg_
 have y0 := K5.out.at_ 0 _ rfl
 have y1 := K5.out.at_ 1 _ rfl
 have y2 := K5.out.at_ 2 _ rfl
 have y3 := K5.out.at_ 3 _ rfl
 have y4 := K5.out.at_ 4 _ rfl
 have y5 := K5.out.at_ 5 _ rfl
 go_wp2_with (fail)
 clear y0 y1 y2 y3 y4 y5
 with_reducible refine (best_any q OK.out _ _ W5 (HE.out.below B.out) HQ.out).mono ?_
 rintro e W6 ⟨v, rfl, hrow, q_W6⟩
 obtain ⟨va, vc, e1⟩ := hrow.len_eval
 subst e1
 clear hrow
 replace K2 := Lib.hid (K2.out.below q_W6)
 replace K3 := Lib.hid (K3.out.below q_W6)
 replace HQ := Lib.hid (HQ.out.below q_W6)
 replace K5 := Lib.hid (K5.out.below q_W6)
 replace B := Lib.hid (B.out.trans (q_W6.mono B.out.size))
 clear q_W6
 go_upto_region 5 with (fail)
 obtain ⟨na, hna⟩ : ∃ n, (way q 0 0).length = n := ⟨_, rfl⟩
 rw [hna]
 clear hna
 have k_ := Blk.fresh W6 #[.slice va na vc, .string (qT (rst q 0 0))] 36
 have q_ := below_new W6 (.cells #[.slice va na vc, .string (qT (rst q 0 0))] 36)
 generalize (W6.alloc (.cells #[.slice va na vc, .string (qT (rst q 0 0))] 36)) = W7 at *
 obtain ⟨b6, hg_⟩ : ∃ g, W6.heap.size = g := ⟨_, rfl⟩
 rw [hg_] at k_ ⊢
 replace K2 := Lib.hid (K2.out.below q_)
 replace K3 := Lib.hid (K3.out.below q_)
 replace HQ := Lib.hid (HQ.out.below q_)
 replace K5 := Lib.hid (K5.out.below q_)
 replace B := Lib.hid (B.out.trans (q_.mono B.out.size))
 have K6 := Lib.hid k_
 clear q_ k_ hg_
 have y0 := K5.out.at_ 0 _ rfl
 have y1 := K5.out.at_ 1 _ rfl
 have y2 := K5.out.at_ 2 _ rfl
 have y3 := K5.out.at_ 3 _ rfl
 have y4 := K5.out.at_ 4 _ rfl
 have y5 := K5.out.at_ 5 _ rfl
 go_wp2_with (fail)
 clear y0 y1 y2 y3 y4 y5
 with_reducible refine (count_any q OK.out _ _ W7 (HE.out.below B.out) HQ.out).mono ?_
 rintro e W8 ⟨rfl, q_W8⟩
 replace K2 := Lib.hid (K2.out.below q_W8)
 replace K3 := Lib.hid (K3.out.below q_W8)
 replace HQ := Lib.hid (HQ.out.below q_W8)
 replace K5 := Lib.hid (K5.out.below q_W8)
 replace K6 := Lib.hid (K6.out.below q_W8)
 replace B := Lib.hid (B.out.trans (q_W8.mono B.out.size))
 clear q_W8
 have y0 := K5.out.at_ 0 _ rfl
 have y1 := K5.out.at_ 1 _ rfl
 have y2 := K5.out.at_ 2 _ rfl
 have y3 := K5.out.at_ 3 _ rfl
 have y4 := K5.out.at_ 4 _ rfl
 have y5 := K5.out.at_ 5 _ rfl
 go_upto_region 7 with (fail)
 clear y0 y1 y2 y3 y4 y5
 have HQ8 := HQ
 have k_ := Blk.fresh W8 #[.slice a2 q.R.length g2, .slice a1 q.L.length g1, .string (qT (2 * q.ch)), .string (qT (2 * q.mi)), .string (qT (2 * q.ga)), .string (qT (2 * q.re))] 32
 have q_ := below_new W8 (.cells #[.slice a2 q.R.length g2, .slice a1 q.L.length g1, .string (qT (2 * q.ch)), .string (qT (2 * q.mi)), .string (qT (2 * q.ga)), .string (qT (2 * q.re))] 32)
 generalize (W8.alloc (.cells #[.slice a2 q.R.length g2, .slice a1 q.L.length g1, .string (qT (2 * q.ch)), .string (qT (2 * q.mi)), .string (qT (2 * q.ga)), .string (qT (2 * q.re))] 32)) = W9 at *
 obtain ⟨b10, hg_⟩ : ∃ g, W8.heap.size = g := ⟨_, rfl⟩
 rw [hg_] at k_ ⊢
 have HB10 := Lib.hid B.out.size
 rw [hg_] at HB10
 have B8 := Lib.hid q_
 have HGB8 := Lib.hid hg_
 have L5 := Lib.hid K5.out.lt
 rw [hg_] at L5
 have L6 := Lib.hid K6.out.lt
 rw [hg_] at L6
 replace K2 := Lib.hid (K2.out.below q_)
 replace K3 := Lib.hid (K3.out.below q_)
 replace HQ := Lib.hid (HQ.out.below q_)
 replace K5 := Lib.hid (K5.out.below q_)
 replace K6 := Lib.hid (K6.out.below q_)
 replace B := Lib.hid (B.out.trans (q_.mono B.out.size))
 have K10 := Lib.hid k_
 clear q_ k_ hg_
 have HQR : Hid (QAt W9 (.slice a2 q.R.length g2) (.slice a1 q.L.length g1) (swapQ q)) := Lib.hid ⟨HQ.out.r, HQ.out.l⟩
 have HBR := best_any (swapQ q) OKR.out _ _ W9 (HE.out.below B.out) HQR.out
 rw [show (swapQ q).ch = q.ch from rfl, show (swapQ q).mi = q.mi from rfl, show (swapQ q).ga = q.ga from rfl, show (swapQ q).re = q.re from rfl, rst_swap q 0 0 (Nat.zero_le _) (Nat.zero_le _)] at HBR
 have y0 := K10.out.at_ 0 _ rfl
 have y1 := K10.out.at_ 1 _ rfl
 have y2 := K10.out.at_ 2 _ rfl
 have y3 := K10.out.at_ 3 _ rfl
 have y4 := K10.out.at_ 4 _ rfl
 have y5 := K10.out.at_ 5 _ rfl
 go_wp2_with (fail)
 clear y0 y1 y2 y3 y4 y5
 with_reducible refine HBR.mono ?_
 clear HBR
 rintro e W10 ⟨v, rfl, hrow, q_W10⟩
 obtain ⟨vb, vd, e1⟩ := hrow.len_eval
 subst e1
 clear hrow HQR
 replace K2 := Lib.hid (K2.out.below q_W10)
 replace K3 := Lib.hid (K3.out.below q_W10)
 replace HQ := Lib.hid (HQ.out.below q_W10)
 replace K5 := Lib.hid (K5.out.below q_W10)
 replace K6 := Lib.hid (K6.out.below q_W10)
 replace K10 := Lib.hid (K10.out.below q_W10)
 replace B := Lib.hid (B.out.trans (q_W10.mono B.out.size))
 replace B8 := Lib.hid (B8.out.trans (q_W10.mono B8.out.size))
 clear q_W10
 go_upto_region 8 with (fail)
 obtain ⟨nb, hnb⟩ : ∃ n, (way (swapQ q) 0 0).length = n := ⟨_, rfl⟩
 rw [hnb]
 clear hnb
 have k_ := Blk.fresh W10 #[.slice vb nb vd, .string (qT (rst q 0 0))] 36
 have q_ := below_new W10 (.cells #[.slice vb nb vd, .string (qT (rst q 0 0))] 36)
 generalize (W10.alloc (.cells #[.slice vb nb vd, .string (qT (rst q 0 0))] 36)) = W11 at *
 obtain ⟨b11, hg_⟩ : ∃ g, W10.heap.size = g := ⟨_, rfl⟩
 rw [hg_] at k_ ⊢
 replace K2 := Lib.hid (K2.out.below q_)
 replace K3 := Lib.hid (K3.out.below q_)
 replace HQ := Lib.hid (HQ.out.below q_)
 replace K5 := Lib.hid (K5.out.below q_)
 replace K6 := Lib.hid (K6.out.below q_)
 replace K10 := Lib.hid (K10.out.below q_)
 replace B := Lib.hid (B.out.trans (q_.mono B.out.size))
 replace B8 := Lib.hid (B8.out.trans (q_.mono B8.out.size))
 have K11 := Lib.hid k_
 clear q_ k_ hg_
 have HQR : Hid (QAt W11 (.slice a2 q.R.length g2) (.slice a1 q.L.length g1) (swapQ q)) := Lib.hid ⟨HQ.out.r, HQ.out.l⟩
 have HCR := count_any (swapQ q) OKR.out _ _ W11 (HE.out.below B.out) HQR.out
 rw [show (swapQ q).ch = q.ch from rfl, show (swapQ q).mi = q.mi from rfl, show (swapQ q).ga = q.ga from rfl, show (swapQ q).re = q.re from rfl, cnt_swap q _ 0 0 rfl (Nat.zero_le _) (Nat.zero_le _)] at HCR
 have y0 := K10.out.at_ 0 _ rfl
 have y1 := K10.out.at_ 1 _ rfl
 have y2 := K10.out.at_ 2 _ rfl
 have y3 := K10.out.at_ 3 _ rfl
 have y4 := K10.out.at_ 4 _ rfl
 have y5 := K10.out.at_ 5 _ rfl
 go_wp2_with (fail)
 clear y0 y1 y2 y3 y4 y5
 with_reducible refine HCR.mono ?_
 clear HCR HQR
 rintro e W12 ⟨rfl, q_W12⟩
 replace K2 := Lib.hid (K2.out.below q_W12)
 replace K3 := Lib.hid (K3.out.below q_W12)
 replace HQ := Lib.hid (HQ.out.below q_W12)
 replace K5 := Lib.hid (K5.out.below q_W12)
 replace K6 := Lib.hid (K6.out.below q_W12)
 replace K10 := Lib.hid (K10.out.below q_W12)
 replace K11 := Lib.hid (K11.out.below q_W12)
 replace B := Lib.hid (B.out.trans (q_W12.mono B.out.size))
 replace B8 := Lib.hid (B8.out.trans (q_W12.mono B8.out.size))
 clear q_W12
 have a0 := K6.out.at_ 0 _ rfl
 have a1x := K6.out.at_ 1 _ rfl
 have b0 := K11.out.at_ 0 _ rfl
 have b1x := K11.out.at_ 1 _ rfl
 have y0 := K3.out.at_ 0 _ rfl
 have y1 := K3.out.at_ 1 _ rfl
 have y2 := K3.out.at_ 2 _ rfl
 have y3 := K3.out.at_ 3 _ rfl
 go_wp2_with (fail)
 obtain ⟨p2, hp2⟩ : ∃ p2 : PL, p2 = ⟨[], [], m0, m1, m2, m3⟩ := ⟨_, rfl⟩
 have HM2 : Calls Tryz.prog 14 #[.agg #[.slice none 0 0, .slice none 0 0, .int .u8 m0, .int .u8 m1, .int .u8 m2, .int .u8 m3]] W12 fun e w' => ∃ v1 v2, e = .returned (.agg #[v1, v2, .string (qT (2 * p2.q.ch)), .string (qT (2 * p2.q.mi)), .string (qT (2 * p2.q.ga)), .string (qT (2 * p2.q.re))]) ∧ QAt w' v1 v2 p2.q ∧ Below W12.heap.size W12 w' := by
  subst hp2
  exact make44_any ⟨[], [], m0, m1, m2, m3⟩ ⟨fun b hb => (by cases hb), fun b hb => (by cases hb), hm⟩ _ _ W12 (HE.out.below B.out) ⟨⟨none, 0, rfl, fun i t h => by simp at h⟩, none, 0, rfl, Nat.le_refl 0⟩ ⟨⟨none, 0, rfl, fun i t h => by simp at h⟩, none, 0, rfl, Nat.le_refl 0⟩
 have HC2 : Hid ((0 ≤ p2.q.ch ∧ p2.q.ch ≤ 5) ∧ (0 ≤ p2.q.mi ∧ p2.q.mi ≤ 5) ∧ (0 ≤ p2.q.ga ∧ p2.q.ga ≤ 5) ∧ (0 ≤ p2.q.re ∧ p2.q.re ≤ 5)) := Lib.hid (by
  subst hp2
  have h1 : (PL.q ⟨[], [], m0, m1, m2, m3⟩).ch = ((m0 % 6 : Nat) : Int) := rfl
  have h2 : (PL.q ⟨[], [], m0, m1, m2, m3⟩).mi = ((m1 % 6 : Nat) : Int) := rfl
  have h3 : (PL.q ⟨[], [], m0, m1, m2, m3⟩).ga = ((m2 % 6 : Nat) : Int) := rfl
  have h4 : (PL.q ⟨[], [], m0, m1, m2, m3⟩).re = ((m3 % 6 : Nat) : Int) := rfl
  omega)
 clear hp2
 generalize p2.q.ch = x0 at *
 generalize p2.q.mi = x1 at *
 generalize p2.q.ga = x2 at *
 generalize p2.q.re = x3 at *
 clear y0 y1 y2 y3
 clear a0 a1x b0 b1x
 with_reducible refine HM2.mono ?_
 clear HM2
 rintro e W13 ⟨v1, v2, rfl, hq5, q_W13⟩
 obtain ⟨ax, gx, e1, _⟩ := hq5.l
 obtain ⟨ay, gy, e2, _⟩ := hq5.r
 subst e1 e2
 clear hq5
 replace K2 := Lib.hid (K2.out.below q_W13)
 replace K3 := Lib.hid (K3.out.below q_W13)
 replace HQ := Lib.hid (HQ.out.below q_W13)
 replace K5 := Lib.hid (K5.out.below q_W13)
 replace K6 := Lib.hid (K6.out.below q_W13)
 replace K10 := Lib.hid (K10.out.below q_W13)
 replace K11 := Lib.hid (K11.out.below q_W13)
 replace B := Lib.hid (B.out.trans (q_W13.mono B.out.size))
 replace B8 := Lib.hid (B8.out.trans (q_W13.mono B8.out.size))
 clear q_W13
 obtain ⟨nx, hnx⟩ : ∃ n, p2.q.L.length = n := ⟨_, rfl⟩
 obtain ⟨ny, hny⟩ : ∃ n, p2.q.R.length = n := ⟨_, rfl⟩
 rw [hnx, hny]
 clear hnx hny
 have hfd : ∀ W, (Instr.field 32 (.agg #[.slice ax nx gx, .slice ay ny gy, .string (qT (2 * x0)), .string (qT (2 * x1)), .string (qT (2 * x2)), .string (qT (2 * x3))]) 2).run Tryz.prog W = .ok (.agg #[.string (qT (2 * x0)), .string (qT (2 * x1)), .string (qT (2 * x2)), .string (qT (2 * x3))]) W := fun W => by kernel_rfl
 go_upto_region 12 with (fail)
 clear hfd
 have k_ := Blk.fresh W13 #[.string (qT (2 * x0)), .string (qT (2 * x1)), .string (qT (2 * x2)), .string (qT (2 * x3))] 30
 have q_ := below_new W13 (.cells #[.string (qT (2 * x0)), .string (qT (2 * x1)), .string (qT (2 * x2)), .string (qT (2 * x3))] 30)
 generalize (W13.alloc (.cells #[.string (qT (2 * x0)), .string (qT (2 * x1)), .string (qT (2 * x2)), .string (qT (2 * x3))] 30)) = W14 at *
 obtain ⟨b15, hg_⟩ : ∃ g, W13.heap.size = g := ⟨_, rfl⟩
 rw [hg_] at k_ ⊢
 have L10 := Lib.hid K10.out.lt
 rw [hg_] at L10
 replace K2 := Lib.hid (K2.out.below q_)
 replace K3 := Lib.hid (K3.out.below q_)
 replace HQ := Lib.hid (HQ.out.below q_)
 replace K5 := Lib.hid (K5.out.below q_)
 replace K6 := Lib.hid (K6.out.below q_)
 replace K10 := Lib.hid (K10.out.below q_)
 replace K11 := Lib.hid (K11.out.below q_)
 replace B := Lib.hid (B.out.trans (q_.mono B.out.size))
 replace B8 := Lib.hid (B8.out.trans (q_.mono B8.out.size))
 have K15 := Lib.hid k_
 clear q_ k_ hg_
 have y0 := K5.out.at_ 0 _ rfl
 have y1 := K5.out.at_ 1 _ rfl
 have y2 := K5.out.at_ 2 _ rfl
 have y3 := K5.out.at_ 3 _ rfl
 have y4 := K5.out.at_ 4 _ rfl
 have y5 := K5.out.at_ 5 _ rfl
 have g_0 := K10.out.at_ 0 _ rfl
 have g_1 := K10.out.at_ 1 _ rfl
 have g_2 := K10.out.at_ 2 _ rfl
 have g_3 := K10.out.at_ 3 _ rfl
 have g_4 := K10.out.at_ 4 _ rfl
 have g_5 := K10.out.at_ 5 _ rfl
 have f_0 := K10.out.free 0
 have f_1 := K10.out.free 1
 have f_2 := K10.out.free 2
 have f_3 := K10.out.free 3
 have f_4 := K10.out.free 4
 have f_5 := K10.out.free 5
 go_upto_region 13 with (fail)
 clear y0 y1 y2 y3 y4 y5
 clear g_0 g_1 g_2 g_3 g_4 g_5
 clear f_0 f_1 f_2 f_3 f_4 f_5
 have KF : Hid (Blk (setAll W14 b10 0 (#[.slice a1 q.L.length g1, .slice a2 q.R.length g2, .string (qT (2 * q.ch)), .string (qT (2 * q.mi)), .string (qT (2 * q.ga)), .string (qT (2 * q.re))] : Array Value).toList) b10 #[.slice a1 q.L.length g1, .slice a2 q.R.length g2, .string (qT (2 * q.ch)), .string (qT (2 * q.mi)), .string (qT (2 * q.ga)), .string (qT (2 * q.re))] 32) := Lib.hid (K10.out.setA 0 _)
 have BF : Hid (Below w.heap.size w (setAll W14 b10 0 (#[.slice a1 q.L.length g1, .slice a2 q.R.length g2, .string (qT (2 * q.ch)), .string (qT (2 * q.mi)), .string (qT (2 * q.ga)), .string (qT (2 * q.re))] : Array Value).toList)) := Lib.hid (B.out.trans (below_setA W14 w.heap.size b10 HB10.out 0 _))
 have B8F : Hid (Below W8.heap.size W8 (setAll W14 b10 0 (#[.slice a1 q.L.length g1, .slice a2 q.R.length g2, .string (qT (2 * q.ch)), .string (qT (2 * q.mi)), .string (qT (2 * q.ga)), .string (qT (2 * q.re))] : Array Value).toList)) := Lib.hid (B8.out.trans (below_setA W14 W8.heap.size b10 (Nat.le_of_eq HGB8.out) 0 _))
 replace K5 := Lib.hid (K5.out.elseA (k := b10) (by have := L5.out; omega) 0 (#[.slice a1 q.L.length g1, .slice a2 q.R.length g2, .string (qT (2 * q.ch)), .string (qT (2 * q.mi)), .string (qT (2 * q.ga)), .string (qT (2 * q.re))] : Array Value).toList)
 replace K6 := Lib.hid (K6.out.elseA (k := b10) (by have := L6.out; omega) 0 (#[.slice a1 q.L.length g1, .slice a2 q.R.length g2, .string (qT (2 * q.ch)), .string (qT (2 * q.mi)), .string (qT (2 * q.ga)), .string (qT (2 * q.re))] : Array Value).toList)
 replace K15 := Lib.hid (K15.out.elseA (k := b10) (by have := L10.out; omega) 0 (#[.slice a1 q.L.length g1, .slice a2 q.R.length g2, .string (qT (2 * q.ch)), .string (qT (2 * q.mi)), .string (qT (2 * q.ga)), .string (qT (2 * q.re))] : Array Value).toList)
 clear B B8 HQ K2 K3 K11 K10
 dsimp only [List.toList_toArray, setAll, Nat.zero_add, Nat.reduceAdd] at KF BF B8F K5 K6 K15
 generalize (World.setCell (World.setCell (World.setCell (World.setCell (World.setCell (World.setCell W14 ⟨b10, 0, none⟩ (.slice a1 q.L.length g1)) ⟨b10, 1, none⟩ (.slice a2 q.R.length g2)) ⟨b10, 2, none⟩ (.string (qT (2 * q.ch)))) ⟨b10, 3, none⟩ (.string (qT (2 * q.mi)))) ⟨b10, 4, none⟩ (.string (qT (2 * q.ga)))) ⟨b10, 5, none⟩ (.string (qT (2 * q.re)))) = W15 at *
 have HA0 := Lib.hid (rAddQ (2 * q.ch) (2 * x0) (by have := OK.out.ch; omega) (by have := HC2.out; omega) W15 (HE.out.below BF.out))
 have HA1 := Lib.hid (rAddQ (2 * q.mi) (2 * x1) (by have := OK.out.mi; omega) (by have := HC2.out; omega) W15 (HE.out.below BF.out))
 have HA2 := Lib.hid (rAddQ (2 * q.ga) (2 * x2) (by have := OK.out.ga; omega) (by have := HC2.out; omega) W15 (HE.out.below BF.out))
 have HA3 := Lib.hid (rAddQ (2 * q.re) (2 * x3) (by have := OK.out.re; omega) (by have := HC2.out; omega) W15 (HE.out.below BF.out))
 have e2 : ∀ a b : Int, 2 * a + 2 * b = 2 * (a + b) := fun a b => (Int.mul_add 2 a b).symm
 rw [e2] at HA0 HA1 HA2 HA3
 clear e2
 obtain ⟨s0, hs0⟩ : ∃ s, qT (2 * (q.ch + x0)) = s := ⟨_, rfl⟩
 rw [hs0] at HA0
 obtain ⟨s1, hs1⟩ : ∃ s, qT (2 * (q.mi + x1)) = s := ⟨_, rfl⟩
 rw [hs1] at HA1
 obtain ⟨s2, hs2⟩ : ∃ s, qT (2 * (q.ga + x2)) = s := ⟨_, rfl⟩
 rw [hs2] at HA2
 obtain ⟨s3, hs3⟩ : ∃ s, qT (2 * (q.re + x3)) = s := ⟨_, rfl⟩
 rw [hs3] at HA3
 refine wpIn_wide.1 (wpIn_phase (n := 9) (.inl rfl) 31 26 (.v 79 (.pointer (some ⟨b5, 2, none⟩)) :: .v 80 (.pointer (some ⟨b5, 2, none⟩)) :: .v 81 (.string (qT (2 * q.ch))) :: .v 82 (.pointer (some ⟨b15, 0, none⟩)) :: .v 83 (.string (qT (2 * x0))) :: .v 84 (.string s0) :: .v 85 (.pointer (some ⟨b5, 2, none⟩)) :: .v 86 (.pointer (some ⟨b5, 3, none⟩)) :: .v 87 (.string (qT (2 * q.mi))) :: .v 88 (.pointer (some ⟨b15, 1, none⟩)) :: .v 89 (.string (qT (2 * x1))) :: .v 90 (.string s1) :: .v 91 (.pointer (some ⟨b5, 2, none⟩)) :: .v 92 (.pointer (some ⟨b5, 4, none⟩)) :: .v 93 (.string (qT (2 * q.ga))) :: .v 94 (.pointer (some ⟨b15, 2, none⟩)) :: .v 95 (.string (qT (2 * x2))) :: .v 96 (.string s2) :: .v 97 (.pointer (some ⟨b5, 2, none⟩)) :: .v 98 (.pointer (some ⟨b5, 5, none⟩)) :: .v 99 (.string (qT (2 * q.re))) :: .v 100 (.pointer (some ⟨b15, 3, none⟩)) :: .v 101 (.string (qT (2 * x3))) :: .v 102 (.string s3) :: .v 103 (.agg #[.string s0, .string s1, .string s2, .string s3]) :: .v 104 (.pointer (some ⟨b10, 2, none⟩)) :: []) [] [⟨b5, #[.slice a1 q.L.length g1, .slice a2 q.R.length g2, .string (qT (2 * q.ch)), .string (qT (2 * q.mi)), .string (qT (2 * q.ga)), .string (qT (2 * q.re))], 32, none⟩, ⟨b15, #[.string (qT (2 * x0)), .string (qT (2 * x1)), .string (qT (2 * x2)), .string (qT (2 * x3))], 30, none⟩] [] [] [] [] [] (by kernel_rfl) (by intro hL; obtain ⟨_, _, hL⟩ := hL; exact absurd hL.1 (by intro h; cases h)) (Below.refl _ _) ⟨K5.out, K15.out, trivial⟩ trivial ⟨pu, pu, ld 0 2, pu, ld 1 0, cl HA0.out, pu, pu, ld 0 3, pu, ld 1 1, cl HA1.out, pu, pu, ld 0 4, pu, ld 1 2, cl HA2.out, pu, pu, ld 0 5, pu, ld 1 3, cl HA3.out, pu, pu, trivial⟩ ?_)
 rintro σ W16 _ _ _ _ q_W16
 simp only [slotsOf, finX, nval, nvalN, nvalA, Nat.reduceBEq, cond_true, cond_false, putAll, Act.put, List.setIfInBounds_toArray, List.set_cons_succ, List.set_cons_zero]
 simp only [List.drop_succ_cons, List.drop_zero]
 clear HA0 HA1 HA2 HA3
 replace KF := Lib.hid (KF.out.below q_W16)
 replace K5 := Lib.hid (K5.out.below q_W16)
 replace K6 := Lib.hid (K6.out.below q_W16)
 replace BF := Lib.hid (BF.out.trans (q_W16.mono BF.out.size))
 replace B8F := Lib.hid (B8F.out.trans (q_W16.mono B8F.out.size))
 clear q_W16 K15
 have g_0 := KF.out.at_ 0 _ rfl
 have g_1 := KF.out.at_ 1 _ rfl
 have g_2 := KF.out.at_ 2 _ rfl
 have g_3 := KF.out.at_ 3 _ rfl
 have g_4 := KF.out.at_ 4 _ rfl
 have g_5 := KF.out.at_ 5 _ rfl
 have f_0 := KF.out.free 0
 have f_1 := KF.out.free 1
 have f_2 := KF.out.free 2
 have f_3 := KF.out.free 3
 have f_4 := KF.out.free 4
 have f_5 := KF.out.free 5
 gi_wp2
 go_upto_region 14 with (fail)
 clear g_0 g_1 g_2 g_3 g_4 g_5
 clear f_0 f_1 f_2 f_3 f_4 f_5
 replace KF : Hid (Blk (setAll W16 b10 2 [.string s0, .string s1, .string s2, .string s3]) b10 #[.slice a1 q.L.length g1, .slice a2 q.R.length g2, .string s0, .string s1, .string s2, .string s3] 32) := Lib.hid (KF.out.setA 2 _)
 replace BF : Hid (Below w.heap.size w (setAll W16 b10 2 [.string s0, .string s1, .string s2, .string s3])) := Lib.hid (BF.out.trans (below_setA W16 w.heap.size b10 HB10.out 2 _))
 replace B8F : Hid (Below W8.heap.size W8 (setAll W16 b10 2 [.string s0, .string s1, .string s2, .string s3])) := Lib.hid (B8F.out.trans (below_setA W16 W8.heap.size b10 (Nat.le_of_eq HGB8.out) 2 _))
 replace K6 := Lib.hid (K6.out.elseA (k := b10) (by have := L6.out; omega) 2 [.string s0, .string s1, .string s2, .string s3])
 clear K5
 dsimp only [List.toList_toArray, setAll, Nat.reduceAdd] at KF BF B8F K6
 generalize (World.setCell (World.setCell (World.setCell (World.setCell W16 ⟨b10, 2, none⟩ (.string s0)) ⟨b10, 3, none⟩ (.string s1)) ⟨b10, 4, none⟩ (.string s2)) ⟨b10, 5, none⟩ (.string s3)) = W17 at *
 obtain ⟨q3, hq3⟩ : ∃ q3 : CQ, q3 = ⟨q.L, q.R, q.ch + x0, q.mi + x1, q.ga + x2, q.re + x3⟩ := ⟨_, rfl⟩
 have OK3 : Hid (OkQ q3) := Lib.hid (by
  have h1 := OK.out.ch
  have h2 := OK.out.mi
  have h3 := OK.out.ga
  have h4 := OK.out.re
  have h5 := HC.out
  have h6 := HC2.out
  subst hq3
  exact ⟨OK.out.hl, OK.out.hr, OK.out.okl, OK.out.okr, (by show 0 ≤ q.ch + x0 ∧ q.ch + x0 ≤ 20; omega), (by show 0 ≤ q.mi + x1 ∧ q.mi + x1 ≤ 20; omega), (by show 0 ≤ q.ga + x2 ∧ q.ga + x2 ≤ 20; omega), (by show 0 ≤ q.re + x3 ∧ q.re + x3 ≤ 20; omega)⟩)
 have LE : Hid (rst q 0 0 ≤ rst q3 0 0) := Lib.hid (by
  have h6 := HC2.out
  subst hq3
  have hle : LeQ q ⟨q.L, q.R, q.ch + x0, q.mi + x1, q.ga + x2, q.re + x3⟩ := ⟨rfl, rfl, (by show q.ch ≤ q.ch + x0; omega), (by show q.mi ≤ q.mi + x1; omega), (by show q.ga ≤ q.ga + x2; omega), (by show q.re ≤ q.re + x3; omega)⟩
  exact rst_mono hle (fun i => (thk_bd _ OK.out.okl i).1) (fun j => (thk_bd _ OK.out.okr j).1) _ 0 0 rfl (Nat.zero_le _) (Nat.zero_le _))
 have HB3 : Calls Tryz.prog 15 #[.agg #[.slice a1 q.L.length g1, .slice a2 q.R.length g2, .string s0, .string s1, .string s2, .string s3]] W17 fun e w' => ∃ v, e = .returned (.tuple #[.agg #[v, .string (qT (rst q3 0 0))], .int .i64 0]) ∧ SRow stC 3 56 w' W17.heap.size v (way q3 0 0) ∧ Below W17.heap.size W17 w' := by
  have h := best_any q3 OK3.out (.slice a1 q.L.length g1) (.slice a2 q.R.length g2) W17 (HE.out.below BF.out) (by subst hq3; exact ⟨(HQ8.out.below B8F.out).l, (HQ8.out.below B8F.out).r⟩)
  subst hq3
  dsimp only at h
  rw [hs0, hs1, hs2, hs3] at h
  exact h
 have HR3 := Lib.hid (rst_bdQ q3 OK3.out 0 0 (Nat.zero_le _) (Nat.zero_le _))
 have HR0 := Lib.hid (rst_bdQ q OK.out 0 0 (Nat.zero_le _) (Nat.zero_le _))
 clear hq3 hs0 hs1 hs2 hs3 OK3 OKR OK HC HC2 HQ8 B8F HGB8
 generalize rst q3 0 0 = r3 at *
 generalize rst q 0 0 = r0 at *
 have y0 := KF.out.at_ 0 _ rfl
 have y1 := KF.out.at_ 1 _ rfl
 have y2 := KF.out.at_ 2 _ rfl
 have y3 := KF.out.at_ 3 _ rfl
 have y4 := KF.out.at_ 4 _ rfl
 have y5 := KF.out.at_ 5 _ rfl
 go_wp2_with (fail)
 clear y0 y1 y2 y3 y4 y5
 with_reducible refine HB3.mono ?_
 clear HB3
 rintro e W18 ⟨v, rfl, hrow, q_W18⟩
 obtain ⟨vb3, vd3, e1⟩ := hrow.len_eval
 subst e1
 clear hrow KF
 replace K6 := Lib.hid (K6.out.below q_W18)
 replace BF := Lib.hid (BF.out.trans (q_W18.mono BF.out.size))
 clear q_W18
 go_upto_region 15 with (fail)
 obtain ⟨n3, hn3⟩ : ∃ n, (way q3 0 0).length = n := ⟨_, rfl⟩
 rw [hn3]
 clear hn3
 have k_ := Blk.fresh W18 #[.slice vb3 n3 vd3, .string (qT r3)] 36
 have q_ := below_new W18 (.cells #[.slice vb3 n3 vd3, .string (qT r3)] 36)
 generalize (W18.alloc (.cells #[.slice vb3 n3 vd3, .string (qT r3)] 36)) = W19 at *
 obtain ⟨b16, hg_⟩ : ∃ g, W18.heap.size = g := ⟨_, rfl⟩
 rw [hg_] at k_ ⊢
 replace K6 := Lib.hid (K6.out.below q_)
 replace BF := Lib.hid (BF.out.trans (q_.mono BF.out.size))
 have K16 := Lib.hid k_
 clear q_ k_ hg_
 have HCM := rCmpQ r3 r0 (by have := HR3.out; omega) (by have := HR0.out; omega) W19 (HE.out.below BF.out) W19 (Below.refl _ _)
 have HSG : Hid (¬ (r3 - r0).sign < 0) := Lib.hid (by have := LE.out; rw [Int.sign_neg_iff] <;> omega)
 have a0 := K6.out.at_ 0 _ rfl
 have a1x := K6.out.at_ 1 _ rfl
 have b0 := K16.out.at_ 0 _ rfl
 have b1x := K16.out.at_ 1 _ rfl
 clear LE HR3 HR0
 go_wp2_with (fail)
 with_reducible refine HCM.mono ?_
 clear HCM
 rintro e W20 ⟨rfl, q_W20⟩
 clear a0 a1x b0 b1x
 replace K6 := Lib.hid (K6.out.below q_W20)
 replace K16 := Lib.hid (K16.out.below q_W20)
 replace BF := Lib.hid (BF.out.trans (q_W20.mono BF.out.size))
 clear q_W20
 have hs := HSG.out
 generalize (r3 - r0).sign = sg at *
 go_wp2_with (fail)
 exact bodyPost_ret (v := .bool true) (by kernel_rfl) rfl ⟨rfl, BF.out⟩

end Go.Proofs.YthhkmihjnnfpgaaGreatDoor
