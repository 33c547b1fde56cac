/- CorrelateCosts: the walk. -/
import Derived.Test.YthhkmihjnnfpgaaGreatDoorGCorTc
namespace Go.Proofs.YthhkmihjnnfpgaaGreatDoor
set_option linter.all false
open Go.RowKit

attribute [local go_sem] Oper.semAt_some

set_option maxRecDepth 100000 in
set_option maxHeartbeats 8000000 in
theorem corCosts_walk (p : PL) (hp : p.ok) (k i j : Int) (vl vr : Value) (w : World) (he : Env w) (hl : BAt w vl p.l) (hr : BAt w vr p.r) :
  Calls Tryz.prog 5 #[.agg #[vl, vr, .int .u8 p.c0, .int .u8 p.c1, .int .u8 p.c2, .int .u8 p.c3], .agg #[.int .i64 k, .int .i64 i, .int .i64 j]] w fun e w' => e = .returned (.bool true) ∧ Below w.heap.size w w' := by
 obtain ⟨A1, k1, rfl, hk1⟩ := hl.cap
 obtain ⟨A2, k2, rfl, hk2⟩ := hr.cap
 have HE := Lib.hid he
 have HL := Lib.hid hl
 have HR := Lib.hid hr
 have B := Lib.hid (Below.refl w.heap.size w)
 clear he hl hr
 go_enter Tryz.func5, Tryz.ntmps5
 go_upto_region 1 with (fail)
 have hz_ : (w.alloc (.cells #[.slice A1 p.l.length k1, .slice A2 p.r.length k2, .int .u8 p.c0, .int .u8 p.c1, .int .u8 p.c2, .int .u8 p.c3] 25)).heap.size = w.heap.size + 1 := by simp
 have k_ := Blk.fresh w #[.slice A1 p.l.length k1, .slice A2 p.r.length k2, .int .u8 p.c0, .int .u8 p.c1, .int .u8 p.c2, .int .u8 p.c3] 25
 have q_ := below_new w (.cells #[.slice A1 p.l.length k1, .slice A2 p.r.length k2, .int .u8 p.c0, .int .u8 p.c1, .int .u8 p.c2, .int .u8 p.c3] 25)
 generalize (w.alloc (.cells #[.slice A1 p.l.length k1, .slice A2 p.r.length k2, .int .u8 p.c0, .int .u8 p.c1, .int .u8 p.c2, .int .u8 p.c3] 25)) = W1 at *
 obtain ⟨b2, hg_⟩ : ∃ g, w.heap.size = g := ⟨_, rfl⟩
 rw [hg_] at k_ ⊢
 rw [hg_] at hz_
 have HZ := Lib.hid hz_
 clear hz_
 replace B := Lib.hid (B.out.trans (q_.mono B.out.size))
 have K2 := Lib.hid k_
 clear q_ k_ hg_
 have k_ := Blk.fresh W1 #[.int .i64 k, .int .i64 i, .int .i64 j] 56
 have q_ := below_new W1 (.cells #[.int .i64 k, .int .i64 i, .int .i64 j] 56)
 generalize (W1.alloc (.cells #[.int .i64 k, .int .i64 i, .int .i64 j] 56)) = W2 at *
 rw [HZ.out] at k_
 replace K2 := Lib.hid (K2.out.below q_)
 replace B := Lib.hid (B.out.trans (q_.mono B.out.size))
 have K3 := Lib.hid k_
 clear q_ k_ HZ
 have HBA : Hid (BAt W2 (.slice A1 p.l.length k1) p.l ∧ BAt W2 (.slice A2 p.r.length k2) p.r) := Lib.hid ⟨HL.out.below B.out, HR.out.below B.out⟩
 have HKN := Lib.hid (known44_any W2 (HE.out.below B.out))
 go_upto_region 3 with (first
  | (go_at_call 13; with_reducible refine HKN.out.mono ?_; rintro e W3 ⟨rfl, q_W3⟩)
  | fail "arm")
 replace K2 := Lib.hid (K2.out.below q_W3)
 replace K3 := Lib.hid (K3.out.below q_W3)
 replace B := Lib.hid (B.out.trans (q_W3.mono B.out.size))
 clear q_W3
 clear HKN
 have y0 := K2.out.at_ 0 _ rfl
 have y1 := K2.out.at_ 1 _ rfl
 have y2 := K2.out.at_ 2 _ rfl
 have y3 := K2.out.at_ 3 _ rfl
 have y4 := K2.out.at_ 4 _ rfl
 have y5 := K2.out.at_ 5 _ rfl
 go_wp2_with (fail)
 clear HBA
 clear y0 y1 y2 y3 y4 y5
 with_reducible refine (make44_any p hp _ _ W3 (HE.out.below B.out) (HL.out.below B.out) (HR.out.below B.out)).mono ?_
 rintro e W4 ⟨v1, v2, rfl, hq4, q_W4⟩
 replace K2 := Lib.hid (K2.out.below q_W4)
 replace K3 := Lib.hid (K3.out.below q_W4)
 replace B := Lib.hid (B.out.trans (q_W4.mono B.out.size))
 clear q_W4
 obtain ⟨a1, g1, e1, _⟩ := hq4.l
 obtain ⟨a2, g2, e2, _⟩ := hq4.r
 subst e1 e2
 have HQ := Lib.hid hq4
 clear hq4
 have OK := Lib.hid p.qok
 generalize p.q = q at *
 go_upto_region 4 with (fail)
 have k_ := Blk.fresh W4 #[.slice a1 q.L.length g1, .slice a2 q.R.length g2, .string (qT (2 * q.ch)), .string (qT (2 * q.mi)), .string (qT (2 * q.ga)), .string (qT (2 * q.re))] 32
 have q_ := below_new W4 (.cells #[.slice a1 q.L.length g1, .slice a2 q.R.length g2, .string (qT (2 * q.ch)), .string (qT (2 * q.mi)), .string (qT (2 * q.ga)), .string (qT (2 * q.re))] 32)
 generalize (W4.alloc (.cells #[.slice a1 q.L.length g1, .slice a2 q.R.length g2, .string (qT (2 * q.ch)), .string (qT (2 * q.mi)), .string (qT (2 * q.ga)), .string (qT (2 * q.re))] 32)) = W5 at *
 obtain ⟨b5, hg_⟩ : ∃ g, W4.heap.size = g := ⟨_, rfl⟩
 rw [hg_] at k_ ⊢
 replace K2 := Lib.hid (K2.out.below q_)
 replace K3 := Lib.hid (K3.out.below q_)
 replace HQ := Lib.hid (HQ.out.below q_)
 replace B := Lib.hid (B.out.trans (q_.mono B.out.size))
 have K5 := Lib.hid k_
 clear q_ k_ hg_
 obtain ⟨X, hX⟩ : ∃ X, (if errI q k i j = 0 then qT (cst q k.toNat i.toNat j.toNat) else ⟨#[]⟩) = X := ⟨_, rfl⟩
 obtain ⟨er, hE⟩ : ∃ e, errI q k i j = e := ⟨_, rfl⟩
 have hV : costV q k i j = .tuple #[.string X, .int .i64 er] := by unfold costV; rw [hX, hE]
 have HV := Lib.hid hV
 clear hV hX hE
 have HC1 := costP_any q OK.out k i j _ _ W5 (HE.out.below B.out) HQ.out
 rw [HV.out] at HC1
 have y0 := K5.out.at_ 0 _ rfl
 have y1 := K5.out.at_ 1 _ rfl
 have y2 := K5.out.at_ 2 _ rfl
 have y3 := K5.out.at_ 3 _ rfl
 have y4 := K5.out.at_ 4 _ rfl
 have y5 := K5.out.at_ 5 _ rfl
 have z0 := K3.out.at_ 0 _ rfl
 have z1 := K3.out.at_ 1 _ rfl
 have z2 := K3.out.at_ 2 _ rfl
 go_wp2_with (fail)
 clear y0 y1 y2 y3 y4 y5
 clear z0 z1 z2
 with_reducible refine HC1.mono ?_
 clear HC1
 rintro e W6 ⟨rfl, q_W6⟩
 replace K2 := Lib.hid (K2.out.below q_W6)
 replace K3 := Lib.hid (K3.out.below q_W6)
 replace HQ := Lib.hid (HQ.out.below q_W6)
 replace K5 := Lib.hid (K5.out.below q_W6)
 replace B := Lib.hid (B.out.trans (q_W6.mono B.out.size))
 clear q_W6
 have HC2 := lcost_any q OK.out k i j _ _ W6 (HE.out.below B.out) HQ.out W6 (Below.refl _ _)
 rw [HV.out] at HC2
 have y0 := K5.out.at_ 0 _ rfl
 have y1 := K5.out.at_ 1 _ rfl
 have y2 := K5.out.at_ 2 _ rfl
 have y3 := K5.out.at_ 3 _ rfl
 have y4 := K5.out.at_ 4 _ rfl
 have y5 := K5.out.at_ 5 _ rfl
 have z0 := K3.out.at_ 0 _ rfl
 have z1 := K3.out.at_ 1 _ rfl
 have z2 := K3.out.at_ 2 _ rfl
 go_wp2_with (fail)
 clear y0 y1 y2 y3 y4 y5
 clear z0 z1 z2
 with_reducible refine HC2.mono ?_
 clear HC2
 rintro e W7 ⟨rfl, q_W7⟩
 replace K2 := Lib.hid (K2.out.below q_W7)
 replace K3 := Lib.hid (K3.out.below q_W7)
 replace HQ := Lib.hid (HQ.out.below q_W7)
 replace K5 := Lib.hid (K5.out.below q_W7)
 replace B := Lib.hid (B.out.trans (q_W7.mono B.out.size))
 clear q_W7
 go_wp2
 exact bodyPost_ret (v := .bool true) (by kernel_rfl) rfl ⟨rfl, B.out⟩

end Go.Proofs.YthhkmihjnnfpgaaGreatDoor
