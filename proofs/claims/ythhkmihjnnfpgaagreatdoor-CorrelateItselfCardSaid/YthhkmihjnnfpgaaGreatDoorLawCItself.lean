/- CorrelateItself: the walk. -/
import Derived.Test.YthhkmihjnnfpgaaGreatDoorCorTb
namespace Go.Proofs.YthhkmihjnnfpgaaGreatDoor
set_option linter.all false
open Go.RowKit

attribute [local go_sem] Oper.semAt_some

theorem row_look {α : Type} {f : α → List Value} {sz : Nat} (hf : ∀ u, (f u).length = sz) {T : TypeId} {W : World} {base : Nat} {v : Value} {us : List α} (h : SRow f sz T W base v us) : SAt f sz W v us := by
 rcases h with ⟨rfl, rfl⟩ | ⟨d, c, r, rfl, h2, h3, h4, h5⟩
 ·exact ⟨none, 0, rfl, fun i t h => by simp at h⟩
 ·exact row_SAt hf h4 c
set_option maxRecDepth 100000 in
set_option maxHeartbeats 8000000 in
theorem corItself_walk (l : List Bt) (hok : ∀ b ∈ l, b.ok) (m0 m1 m2 m3 : Nat) (hm : m0 < 256 ∧ m1 < 256 ∧ m2 < 256 ∧ m3 < 256) (vl : Value) (w : World) (he : Env w) (hl : BAt w vl l) :
  Calls Tryz.prog 6 #[vl, .agg #[.int .u8 m0, .int .u8 m1, .int .u8 m2, .int .u8 m3]] w fun e w' => e = .returned (.bool true) ∧ Below w.heap.size w w' := by
 obtain ⟨A1, k1, rfl, hk1⟩ := hl.cap
 have HE := Lib.hid he
 have HL := Lib.hid hl
 have HOK := Lib.hid hok
 have B := Lib.hid (Below.refl w.heap.size w)
 clear he hl hok
 go_enter Tryz.func6, Tryz.ntmps6
 go_upto_region 1 with (fail)
 have k_ := Blk.fresh w #[.int .u8 m0, .int .u8 m1, .int .u8 m2, .int .u8 m3] 23
 have q_ := below_new w (.cells #[.int .u8 m0, .int .u8 m1, .int .u8 m2, .int .u8 m3] 23)
 generalize (w.alloc (.cells #[.int .u8 m0, .int .u8 m1, .int .u8 m2, .int .u8 m3] 23)) = W1 at *
 obtain ⟨b3, hg_⟩ : ∃ g, w.heap.size = g := ⟨_, rfl⟩
 rw [hg_] at k_ ⊢
 replace B := Lib.hid (B.out.trans (q_.mono B.out.size))
 have K3 := Lib.hid k_
 clear q_ k_ hg_
 have HKN := Lib.hid (known44_any W1 (HE.out.below B.out))
 go_upto_region 3 with (first
  | (go_at_call 13; with_reducible refine HKN.out.mono ?_; rintro e W3 ⟨rfl, q_W3⟩)
  | fail "arm")
 replace K3 := Lib.hid (K3.out.below q_W3)
 replace B := Lib.hid (B.out.trans (q_W3.mono B.out.size))
 clear q_W3
 clear HKN
 obtain ⟨p2, hp2⟩ : ∃ p2 : PL, p2 = ⟨l, l, m0, m1, m2, m3⟩ := ⟨_, rfl⟩
 have HM2 : Calls Tryz.prog 14 #[.agg #[.slice A1 l.length k1, .slice A1 l.length k1, .int .u8 m0, .int .u8 m1, .int .u8 m2, .int .u8 m3]] W3 fun e w' => ∃ v1 v2, e = .returned (.agg #[v1, v2, .string (qT (2 * p2.q.ch)), .string (qT (2 * p2.q.mi)), .string (qT (2 * p2.q.ga)), .string (qT (2 * p2.q.re))]) ∧ QAt w' v1 v2 p2.q ∧ Below W3.heap.size W3 w' := by
  subst hp2
  exact make44_any ⟨l, l, m0, m1, m2, m3⟩ ⟨HOK.out, HOK.out, hm⟩ _ _ W3 (HE.out.below B.out) (HL.out.below B.out) (HL.out.below B.out)
 have HLR : Hid (p2.q.L = p2.q.R) := Lib.hid (by rw [hp2]; rfl)
 clear hp2
 have y0 := K3.out.at_ 0 _ rfl
 have y1 := K3.out.at_ 1 _ rfl
 have y2 := K3.out.at_ 2 _ rfl
 have y3 := K3.out.at_ 3 _ rfl
 go_wp2_with (fail)
 clear y0 y1 y2 y3
 with_reducible refine HM2.mono ?_
 clear HM2
 rintro e W4 ⟨v1, v2, rfl, hq4, q_W4⟩
 replace K3 := Lib.hid (K3.out.below q_W4)
 replace B := Lib.hid (B.out.trans (q_W4.mono B.out.size))
 clear q_W4
 obtain ⟨a1, g1, e1, _⟩ := hq4.l
 obtain ⟨a2, g2, e2, _⟩ := hq4.r
 subst e1 e2
 have HQ := Lib.hid hq4
 clear hq4
 have OK := Lib.hid p2.qok
 generalize p2.q = q at *
 have hr0 : rst q 0 0 = 0 := by
  have h1 := rst_self q HLR.out q.L.length 0 rfl (Nat.zero_le _)
  have h2 := rst_bdQ q OK.out 0 0 (Nat.zero_le _) (Nat.zero_le _)
  omega
 have HR0 := Lib.hid hr0
 clear hr0
 go_upto_region 4 with (fail)
 have HQ4 := HQ
 have k_ := Blk.fresh W4 #[.slice a1 q.L.length g1, .slice a2 q.R.length g2, .string (qT (2 * q.ch)), .string (qT (2 * q.mi)), .string (qT (2 * q.ga)), .string (qT (2 * q.re))] 32
 have q_ := below_new W4 (.cells #[.slice a1 q.L.length g1, .slice a2 q.R.length g2, .string (qT (2 * q.ch)), .string (qT (2 * q.mi)), .string (qT (2 * q.ga)), .string (qT (2 * q.re))] 32)
 generalize (W4.alloc (.cells #[.slice a1 q.L.length g1, .slice a2 q.R.length g2, .string (qT (2 * q.ch)), .string (qT (2 * q.mi)), .string (qT (2 * q.ga)), .string (qT (2 * q.re))] 32)) = W5 at *
 obtain ⟨b5, hg_⟩ : ∃ g, W4.heap.size = g := ⟨_, rfl⟩
 rw [hg_] at k_ ⊢
 have HB5 := Lib.hid B.out.size
 rw [hg_] at HB5
 have B5 := Lib.hid q_
 have HGB5 := Lib.hid hg_
 replace K3 := Lib.hid (K3.out.below q_)
 replace HQ := Lib.hid (HQ.out.below q_)
 replace B := Lib.hid (B.out.trans (q_.mono B.out.size))
 have K5 := Lib.hid k_
 clear q_ k_ hg_
 have y0 := K5.out.at_ 0 _ rfl
 have y1 := K5.out.at_ 1 _ rfl
 have y2 := K5.out.at_ 2 _ rfl
 have y3 := K5.out.at_ 3 _ rfl
 have y4 := K5.out.at_ 4 _ rfl
 have y5 := K5.out.at_ 5 _ rfl
 have HBE := best_any q OK.out _ _ W5 (HE.out.below B.out) HQ.out
 rw [HR0.out, qT_zero] at HBE
 go_wp2_with (fail)
 clear y0 y1 y2 y3 y4 y5
 with_reducible refine HBE.mono ?_
 clear HBE
 rintro e W6 ⟨v, rfl, hrow, q_W6⟩
 obtain ⟨va, vc, e1⟩ := hrow.len_eval
 subst e1
 clear hrow
 replace K3 := Lib.hid (K3.out.below q_W6)
 replace HQ := Lib.hid (HQ.out.below q_W6)
 replace K5 := Lib.hid (K5.out.below q_W6)
 replace B := Lib.hid (B.out.trans (q_W6.mono B.out.size))
 replace B5 := Lib.hid (B5.out.trans (q_W6.mono B5.out.size))
 clear q_W6
 go_upto_region 5 with (fail)
 obtain ⟨na, hna⟩ : ∃ n, (way q 0 0).length = n := ⟨_, rfl⟩
 rw [hna]
 clear hna
 have k_ := Blk.fresh W6 #[.slice va na vc, .string ⟨#[48]⟩] 36
 have q_ := below_new W6 (.cells #[.slice va na vc, .string ⟨#[48]⟩] 36)
 generalize (W6.alloc (.cells #[.slice va na vc, .string ⟨#[48]⟩] 36)) = W7 at *
 obtain ⟨b6, hg_⟩ : ∃ g, W6.heap.size = g := ⟨_, rfl⟩
 rw [hg_] at k_ ⊢
 replace K3 := Lib.hid (K3.out.below q_)
 replace HQ := Lib.hid (HQ.out.below q_)
 replace K5 := Lib.hid (K5.out.below q_)
 replace B := Lib.hid (B.out.trans (q_.mono B.out.size))
 replace B5 := Lib.hid (B5.out.trans (q_.mono B5.out.size))
 have K6 := Lib.hid k_
 clear q_ k_ hg_
 have a0 := K6.out.at_ 0 _ rfl
 have a1x := K6.out.at_ 1 _ rfl
 go_wp2
 clear a0 a1x K6 K3 HQ
 have hb5 := K5.out.lt
 go_loopw [8, 9] (fun v8 v9 wr => ∃ k : Nat, k ≤ q.L.length ∧ v9 = .int .i64 k ∧ SRow stC 3 56 wr (b5 + 1) v8 (diagS k) ∧ Blk wr b5 #[.slice a1 q.L.length g1, .slice a2 q.R.length g2, .string (qT (2 * q.ch)), .string (qT (2 * q.mi)), .string (qT (2 * q.ga)), .string (qT (2 * q.re))] 32 ∧ Below W4.heap.size W4 wr ∧ Below w.heap.size w wr) (fun _ v9 _ => q.L.length - (intOf v9).toNat)
 case atStart => exact ⟨0, Nat.zero_le _, rfl, SRow.nil _ _, K5.out, B5.out, B.out⟩
 case round =>
  clear B K5 B5 hb5
  obtain ⟨k, hk, rfl, row, k5, bb5, b⟩ := hrel
  have ROW := Lib.hid row
  have B := Lib.hid b
  have B5 := Lib.hid bb5
  have K5 := Lib.hid k5
  obtain ⟨rA, rc, hre⟩ := row.len_eval
  subst hre
  clear row b bb5 k5
  have hl6 := OK.out.hl
  by_cases hlt : k < q.L.length
  ·have hi : (k : Int) < (q.L.length : Int) := by omega
   have y0 := K5.out.at_ 0 _ rfl
   have HN : Hid (diagS k ++ [(1, k, k)] = diagS (k + 1)) := Lib.hid (by unfold diagS; rw [List.range_succ, List.map_append]; rfl)
   have HL5 : (diagS k).length ≤ 5000 := by unfold diagS; rw [List.length_map, List.length_range]; omega
   have hbs : b5 + 1 ≤ wr.heap.size := K5.out.lt
   generalize q.L.length = n1 at *
   generalize q.R.length = n2 at *
   go_upto_region 10 with (first
    | (at_builtin; refine app_row ElT (fun _ => rfl) stC_one rfl (.tmp 38) (.tmp 42) rfl wr (b5 + 1) hbs _ _ ROW.out rfl HL5 ((1, k, k) : Nat × Nat × Nat) rfl ?_; intro v' w9 r1 r2 r3)
    | fail "arm")
   have B9 := Lib.hid (B.out.trans (r3.mono (by have := HB5.out; omega)))
   have B59 := Lib.hid (B5.out.trans (r3.mono (by have := HGB5.out; omega)))
   have K59 := Lib.hid (r2 b5 _ _ (Nat.lt_succ_self _) K5.out)
   rw [HN.out] at r1
   have R1 := Lib.hid r1
   clear r1 r2 r3 y0 ROW K5 B5 B HN
   go_wp2
   exact ⟨⟨k + 1, by omega, by go_num, R1.out, K59.out, B59.out, B9.out⟩, by simp [intOf]; omega⟩
  ·have hkl : k = q.L.length := by omega
   subst hkl
   have hi : ¬ (q.L.length : Int) < (q.L.length : Int) := by omega
   have hi2 : decide ((q.L.length : Int) < (q.L.length : Int)) = false := decide_eq_false hi
   have hst : SAt stI 3 wr (.slice rA (castS (diagS q.L.length)).length rc) (castS (diagS q.L.length)) := by
    obtain ⟨a, c, e, h⟩ := row_look stC_len ROW.out
    injection e with e1 _ e3
    subst e1 e3
    refine ⟨rA, rc, rfl, fun i t ht => ?_⟩
    unfold castS at ht
    rw [List.getElem?_map] at ht
    cases hx : (diagS q.L.length)[i]? with
    | none => rw [hx] at ht; cases ht
    | some y =>
     rw [hx] at ht
     injection ht with ht
     subst ht
     exact h i y hx
   have HTO := total_any q OK.out (castS (diagS q.L.length)) (by unfold castS diagS; rw [List.length_map, List.length_map, List.length_range]; omega) _ _ _ wr (HE.out.below B.out) (HQ4.out.below B5.out) hst
   have hdr := diag_run q HLR.out q.L.length 0 rfl (Nat.zero_le _)
   rw [List.drop_zero] at hdr
   rw [show runF q 0 0 0 (castS (diagS q.L.length)) = (0, 0) from hdr, show totV (0, 0) = .tuple #[.string ⟨#[48]⟩, .int .i64 0] from by unfold totV; rw [if_pos rfl, qT_zero]] at HTO
   have hcl : (castS (diagS q.L.length)).length = (diagS q.L.length).length := by unfold castS; rw [List.length_map]
   rw [hcl] at HTO
   clear hdr hcl hst
   have y0 := K5.out.at_ 0 _ rfl
   have y1 := K5.out.at_ 1 _ rfl
   have y2 := K5.out.at_ 2 _ rfl
   have y3 := K5.out.at_ 3 _ rfl
   have y4 := K5.out.at_ 4 _ rfl
   have y5 := K5.out.at_ 5 _ rfl
   go_wp2_with (first
    | (go_at_call 25; with_reducible refine HTO.mono ?_; rintro e9 wx ⟨rfl, q9⟩; replace B := Lib.hid (B.out.trans (q9.mono B.out.size)); clear q9)
    | fail "arm")
   go_ret
   exact ⟨rfl, B.out⟩

end Go.Proofs.YthhkmihjnnfpgaaGreatDoor
