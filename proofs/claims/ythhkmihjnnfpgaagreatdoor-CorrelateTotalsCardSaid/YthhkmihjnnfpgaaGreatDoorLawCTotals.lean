/- CorrelateTotals: the walk. -/
import Derived.Test.YthhkmihjnnfpgaaGreatDoorGCorTh
namespace Go.Proofs.YthhkmihjnnfpgaaGreatDoor
set_option linter.all false
open Go.RowKit

attribute [local go_sem] Oper.semAt_some

theorem row_lookT {α : Type} {f : α → List Value} {sz : Nat} (hf : ∀ u, (f u).length = sz) {T : TypeId} {W : World} {base : Nat} {v : Value} {us : List α} (h : SRow f sz T W base v us) : SAt f sz W v us := by
 rcases h with ⟨rfl, rfl⟩ | ⟨d, c, r, rfl, h2, h3, h4, h5⟩
 ·exact ⟨none, 0, rfl, fun i t h => by simp at h⟩
 ·exact row_SAt hf h4 c
theorem cast_SAt {W : World} {a : Option Addr} {c : Nat} {us : List (Nat × Nat × Nat)} (h : SAt stC 3 W (.slice a us.length c) us) : SAt stI 3 W (.slice a (castS us).length c) (castS us) := by
 obtain ⟨a', c', e, h⟩ := h
 injection e with e1 _ e3
 subst e1 e3
 refine ⟨a, c, rfl, fun i t ht => ?_⟩
 unfold castS at ht
 rw [List.getElem?_map] at ht
 cases hx : us[i]? with
 | none => rw [hx] at ht; cases ht
 | some y =>
  rw [hx] at ht
  injection ht with ht
  subst ht
  exact h i y hx
set_option maxHeartbeats 1000000 in
theorem eqI2 (a b d e : Int) (w : World) : (Op.equalIn 10000 66 (.agg #[.int .i64 a, .int .i64 b]) (.agg #[.int .i64 d, .int .i64 e])).run Tryz.prog w = .ok (a == d && b == e) w := by
 have u3 := Tryz.underlying3
 have a3 := Tryz.isAgg3
 have z3 := Tryz.sizeOf3
 rw [show (10000 : Nat) = 9999 + 1 from rfl, Op.equalIn]
 simp only [Sem.run_bind, run_underlying Tryz.underlying66, Result.andThen_ok]
 simp only [Std.Legacy.Range.forIn_eq_forIn_range', Std.Legacy.Range.size, Nat.sub_zero, Nat.add_sub_cancel, Nat.div_one, List.range'_succ, List.range'_zero, List.forIn_cons, List.forIn_nil]
 go_simp
 by_cases h1 : a = d <;> by_cases h2 : b = e <;> simp [h1, h2]
set_option maxRecDepth 100000 in
set_option maxHeartbeats 8000000 in
theorem corTotals_walk (p : PL) (hp : p.ok) (l : List (Int × Int × Int)) (vl vr v : Value) (w : World) (he : Env w) (hl : BAt w vl p.l) (hr : BAt w vr p.r) (hv : SAt stI 3 w v l) :
  Calls Tryz.prog 7 #[.agg #[vl, vr, .int .u8 p.c0, .int .u8 p.c1, .int .u8 p.c2, .int .u8 p.c3], v] w fun e w' => e = .returned (.bool true) ∧ Below w.heap.size w w' := by
 obtain ⟨A1, k1, rfl, hk1⟩ := hl.cap
 obtain ⟨A2, k2, rfl, hk2⟩ := hr.cap
 have HE := Lib.hid he
 have HL := Lib.hid hl
 have HR := Lib.hid hr
 have HV := Lib.hid hv
 obtain ⟨A0, c0, rfl, _⟩ := hv
 have B := Lib.hid (Below.refl w.heap.size w)
 clear he hl hr
 go_enter Tryz.func7, Tryz.ntmps7
 go_upto_region 1 with (fail)
 have k_ := Blk.fresh w #[.slice A1 p.l.length k1, .slice A2 p.r.length k2, .int .u8 p.c0, .int .u8 p.c1, .int .u8 p.c2, .int .u8 p.c3] 25
 have q_ := below_new w (.cells #[.slice A1 p.l.length k1, .slice A2 p.r.length k2, .int .u8 p.c0, .int .u8 p.c1, .int .u8 p.c2, .int .u8 p.c3] 25)
 generalize (w.alloc (.cells #[.slice A1 p.l.length k1, .slice A2 p.r.length k2, .int .u8 p.c0, .int .u8 p.c1, .int .u8 p.c2, .int .u8 p.c3] 25)) = W1 at *
 obtain ⟨b2, hg_⟩ : ∃ g, w.heap.size = g := ⟨_, rfl⟩
 rw [hg_] at k_ ⊢
 replace B := Lib.hid (B.out.trans (q_.mono B.out.size))
 have K2 := Lib.hid k_
 clear q_ k_ hg_
 have HKN := Lib.hid (fun W (h : Below w.heap.size w W) => known44_any W (HE.out.below h))
 by_cases hlen : l.length > 10
 ·have g1 : (l.length : Int) > 10 := by omega
  have g2 : decide ((l.length : Int) > 10) = true := decide_eq_true g1
  have g3 : 10 < l.length := hlen
  go_wp2_with (first
   | (go_at_call 13; with_reducible refine (HKN.out _ B.out).mono ?_; rintro e W3 ⟨rfl, q_W3⟩; replace K2 := Lib.hid (K2.out.below q_W3); replace B := Lib.hid (B.out.trans (q_W3.mono B.out.size)); clear q_W3)
   | fail "arm")
  exact bodyPost_ret (v := .bool true) (by kernel_rfl) rfl ⟨rfl, B.out⟩
 have g1 : ¬ (l.length : Int) > 10 := by omega
 have g2 : decide ((l.length : Int) > 10) = false := decide_eq_false g1
 have g3 : ¬ 10 < l.length := by omega
 have HLEN := Lib.hid hlen
 clear hlen
 go_upto_region 3 with (first
  | (go_at_call 13; with_reducible refine (HKN.out _ B.out).mono ?_; rintro e W3 ⟨rfl, q_W3⟩; replace K2 := Lib.hid (K2.out.below q_W3); replace B := Lib.hid (B.out.trans (q_W3.mono B.out.size)); clear q_W3)
  | fail "arm")
 clear HKN g1 g2 g3
 have y0 := K2.out.at_ 0 _ rfl
 have y1 := K2.out.at_ 1 _ rfl
 have y2 := K2.out.at_ 2 _ rfl
 have y3 := K2.out.at_ 3 _ rfl
 have y4 := K2.out.at_ 4 _ rfl
 have y5 := K2.out.at_ 5 _ rfl
 go_wp2_with (fail)
 clear y0 y1 y2 y3 y4 y5
 with_reducible refine (make44_any p hp _ _ _ (HE.out.below B.out) (HL.out.below B.out) (HR.out.below B.out)).mono ?_
 rintro e W4 ⟨v1, v2, rfl, hq4, q_W4⟩
 replace K2 := Lib.hid (K2.out.below q_W4)
 replace B := Lib.hid (B.out.trans (q_W4.mono B.out.size))
 clear q_W4
 obtain ⟨a1, g1, e1, _⟩ := hq4.l
 obtain ⟨a2, g2, e2, _⟩ := hq4.r
 subst e1 e2
 have HQ := Lib.hid hq4
 clear hq4
 have OK := Lib.hid p.qok
 generalize p.q = q at *
 go_upto_region 4 with (fail)
 have k_ := Blk.fresh W4 #[.slice a1 q.L.length g1, .slice a2 q.R.length g2, .string (qT (2 * q.ch)), .string (qT (2 * q.mi)), .string (qT (2 * q.ga)), .string (qT (2 * q.re))] 32
 have q_ := below_new W4 (.cells #[.slice a1 q.L.length g1, .slice a2 q.R.length g2, .string (qT (2 * q.ch)), .string (qT (2 * q.mi)), .string (qT (2 * q.ga)), .string (qT (2 * q.re))] 32)
 generalize (W4.alloc (.cells #[.slice a1 q.L.length g1, .slice a2 q.R.length g2, .string (qT (2 * q.ch)), .string (qT (2 * q.mi)), .string (qT (2 * q.ga)), .string (qT (2 * q.re))] 32)) = W5 at *
 obtain ⟨b5, hg_⟩ : ∃ g, W4.heap.size = g := ⟨_, rfl⟩
 rw [hg_] at k_ ⊢
 replace K2 := Lib.hid (K2.out.below q_)
 replace HQ := Lib.hid (HQ.out.below q_)
 replace B := Lib.hid (B.out.trans (q_.mono B.out.size))
 have K5 := Lib.hid k_
 clear q_ k_ hg_
 have y0 := K5.out.at_ 0 _ rfl
 have y1 := K5.out.at_ 1 _ rfl
 have y2 := K5.out.at_ 2 _ rfl
 have y3 := K5.out.at_ 3 _ rfl
 have y4 := K5.out.at_ 4 _ rfl
 have y5 := K5.out.at_ 5 _ rfl
 go_wp2_with (fail)
 clear y0 y1 y2 y3 y4 y5
 with_reducible refine (best_any q OK.out _ _ W5 (HE.out.below B.out) HQ.out).mono ?_
 rintro e W6 ⟨v, rfl, hrow, q_W6⟩
 obtain ⟨va, vc, e1⟩ := hrow.len_eval
 subst e1
 have HROW := Lib.hid (cast_SAt (row_lookT stC_len hrow))
 clear hrow
 replace K2 := Lib.hid (K2.out.below q_W6)
 replace HQ := Lib.hid (HQ.out.below q_W6)
 replace K5 := Lib.hid (K5.out.below q_W6)
 replace B := Lib.hid (B.out.trans (q_W6.mono B.out.size))
 clear q_W6
 have hwl : (castS (way q 0 0)).length ≤ 12 := by
  unfold castS
  rw [List.length_map]
  have h := way_len q _ 0 0 rfl (Nat.zero_le _) (Nat.zero_le _)
  have h1 := OK.out.hl
  have h2 := OK.out.hr
  unfold left at h
  omega
 have HWL := Lib.hid hwl
 clear hwl
 rw [show (way q 0 0).length = (castS (way q 0 0)).length from by unfold castS; rw [List.length_map]]
 generalize castS (way q 0 0) = lw at *
 go_upto_region 5 with (fail)
 have k_ := Blk.fresh W6 #[.slice va lw.length vc, .string (qT (rst q 0 0))] 36
 have q_ := below_new W6 (.cells #[.slice va lw.length vc, .string (qT (rst q 0 0))] 36)
 generalize (W6.alloc (.cells #[.slice va lw.length vc, .string (qT (rst q 0 0))] 36)) = W7 at *
 obtain ⟨b6, hg_⟩ : ∃ g, W6.heap.size = g := ⟨_, rfl⟩
 rw [hg_] at k_ ⊢
 replace K2 := Lib.hid (K2.out.below q_)
 replace HQ := Lib.hid (HQ.out.below q_)
 replace K5 := Lib.hid (K5.out.below q_)
 replace HROW := Lib.hid (HROW.out.below q_)
 replace B := Lib.hid (B.out.trans (q_.mono B.out.size))
 have K6 := Lib.hid k_
 clear q_ k_ hg_
 have a0 := K6.out.at_ 0 _ rfl
 have a1x := K6.out.at_ 1 _ rfl
 go_wp2
 clear a0 a1x
 have k_ := Blk.fresh W7 #[.slice A0 l.length c0, .slice va lw.length vc] 34
 have q_ := below_new W7 (.cells #[.slice A0 l.length c0, .slice va lw.length vc] 34)
 generalize (W7.alloc (.cells #[.slice A0 l.length c0, .slice va lw.length vc] 34)) = W8 at *
 obtain ⟨b38, hg_⟩ : ∃ g, W7.heap.size = g := ⟨_, rfl⟩
 rw [hg_] at k_ ⊢
 replace K2 := Lib.hid (K2.out.below q_)
 replace HQ := Lib.hid (HQ.out.below q_)
 replace K5 := Lib.hid (K5.out.below q_)
 replace HROW := Lib.hid (HROW.out.below q_)
 replace K6 := Lib.hid (K6.out.below q_)
 replace B := Lib.hid (B.out.trans (q_.mono B.out.size))
 have K38 := Lib.hid k_
 clear q_ k_ hg_
 clear K2 K6
 have HV8 := Lib.hid (HV.out.below B.out)
 go_loopw [40] (fun nv wr => ∃ n : Nat, n ≤ 2 ∧ nv = .int .i64 n ∧ Below W8.heap.size W8 wr ∧ Below w.heap.size w wr) (fun nv _ => 2 - (intOf nv).toNat)
 case atStart => exact ⟨0, by omega, rfl, Below.refl _ _, B.out⟩
 case round =>
  clear B
  obtain ⟨n, hn, rfl, b8, b⟩ := hrel
  have B8 := Lib.hid b8
  have B := Lib.hid b
  clear b8 b
  by_cases hlt : n < 2
  ·have hi : (n : Int) < 2 := by omega
   have hpick : ∃ (l' : List (Int × Int × Int)) (A' : Option Addr) (c' : Nat), SAt stI 3 wr (.slice A' l'.length c') l' ∧ l'.length ≤ 12 ∧ wr.cell? ⟨b38, n, none⟩ = some (.slice A' l'.length c') := by
    rcases (show n = 0 ∨ n = 1 by omega) with rfl | rfl
    ·exact ⟨l, A0, c0, HV8.out.below B8.out, by have := HLEN.out; omega, (K38.out.below B8.out).at_ 0 _ rfl⟩
    ·exact ⟨lw, va, vc, HROW.out.below B8.out, HWL.out, (K38.out.below B8.out).at_ 1 _ rfl⟩
   obtain ⟨l', A', c', hs, hl12, hc38⟩ := hpick
   have HS := Lib.hid hs
   have HL12 := Lib.hid hl12
   have K5r := Lib.hid (K5.out.below B8.out)
   have HQr := Lib.hid (HQ.out.below B8.out)
   have C38 := Lib.hid hc38
   clear hs hl12 hc38
   have HT1 := Lib.hid (fun W (h : Below wr.heap.size wr W) => total_any q OK.out l' (by have := HL12.out; omega) _ _ _ W (HE.out.below (B.out.trans (h.mono B.out.size))) (HQr.out.below h) (HS.out.below h))
   have HT2 := Lib.hid (fun W (h : Below wr.heap.size wr W) => partners_any q OK.out l' (by have := HL12.out; omega) _ _ _ W (HE.out.below (B.out.trans (h.mono B.out.size))) (HQr.out.below h) (HS.out.below h))
   have HT3 := Lib.hid (fun W (h : Below wr.heap.size wr W) => ltotal_any q OK.out l' (by have := HL12.out; omega) _ _ _ W (HE.out.below (B.out.trans (h.mono B.out.size))) (HQr.out.below h) (HS.out.below h))
   generalize runF q 0 0 0 l' = R at *
   obtain ⟨er, s⟩ := R
   obtain ⟨X, hX⟩ : ∃ X, totV (er, s) = .tuple #[.string X, .int .i64 er] := ⟨_, rfl⟩
   rw [hX] at HT1 HT3
   clear hX
   obtain ⟨P, hP⟩ : ∃ P, (if (er, s).1 = 0 then pairsF l' else []) = P := ⟨_, rfl⟩
   rw [hP] at HT2
   have hP2 : (if er = 0 then pairsF l' else []) = P := hP
   have HP := Lib.hid hP2
   clear hP hP2
   have c38 := C38.out
   go_upto_region 10 with (fail)
   clear c38
   have BR := Lib.hid (Below.refl wr.heap.size wr)
   have y0 := K5r.out.at_ 0 _ rfl
   have y1 := K5r.out.at_ 1 _ rfl
   have y2 := K5r.out.at_ 2 _ rfl
   have y3 := K5r.out.at_ 3 _ rfl
   have y4 := K5r.out.at_ 4 _ rfl
   have y5 := K5r.out.at_ 5 _ rfl
   go_upto_region 11 with (first
    | (go_at_call 25; with_reducible refine (HT1.out _ BR.out).mono ?_; rintro e9 wx1 ⟨rfl, q9⟩)
    | fail "arm")
   have br1 := Lib.hid (BR.out.trans (q9.mono BR.out.size))
   replace BR := br1
   clear y0 y1 y2 y3 y4 y5 q9 br1
   have y0 := (K5r.out.below BR.out).at_ 0 _ rfl
   have y1 := (K5r.out.below BR.out).at_ 1 _ rfl
   have y2 := (K5r.out.below BR.out).at_ 2 _ rfl
   have y3 := (K5r.out.below BR.out).at_ 3 _ rfl
   have y4 := (K5r.out.below BR.out).at_ 4 _ rfl
   have y5 := (K5r.out.below BR.out).at_ 5 _ rfl
   go_wp2_with (fail)
   with_reducible refine (HT2.out _ BR.out).mono ?_
   rintro e9 wx2 ⟨vp, rfl, rowp, q9⟩
   obtain ⟨pA, pc, e1⟩ := rowp.len_eval
   subst e1
   have SP := Lib.hid (row_lookT (f := pr) (sz := 2) (fun _ => rfl) rowp)
   have br1 := Lib.hid (BR.out.trans (q9.mono BR.out.size))
   replace BR := br1
   clear y0 y1 y2 y3 y4 y5 q9 br1 rowp
   have y0 := (K5r.out.below BR.out).at_ 0 _ rfl
   have y1 := (K5r.out.below BR.out).at_ 1 _ rfl
   have y2 := (K5r.out.below BR.out).at_ 2 _ rfl
   have y3 := (K5r.out.below BR.out).at_ 3 _ rfl
   have y4 := (K5r.out.below BR.out).at_ 4 _ rfl
   have y5 := (K5r.out.below BR.out).at_ 5 _ rfl
   go_wp2_with (fail)
   with_reducible refine (HT3.out _ BR.out).mono ?_
   rintro e9 wx3 ⟨rfl, q9⟩
   replace SP := Lib.hid (SP.out.below q9)
   have br1 := Lib.hid (BR.out.trans (q9.mono BR.out.size))
   replace BR := br1
   clear y0 y1 y2 y3 y4 y5 q9 br1 HT1 HT2 HT3
   have HS3 := Lib.hid (HS.out.below BR.out)
   go_wp2
   go_loopw [16, 17] (fun kv iv wx => ∃ k : Nat, k ≤ l'.length ∧ iv = .int .i64 k ∧ kv = .int .i64 ((pairsF (l'.take k)).length : Nat) ∧ (er ≠ 0 → k = 0) ∧ Below wx3.heap.size wx3 wx) (fun _ iv _ => l'.length - (intOf iv).toNat)
   case atStart => exact ⟨0, Nat.zero_le _, rfl, rfl, fun _ => rfl, Below.refl _ _⟩
   case round =>
    obtain ⟨k, hk, rfl, rfl, hz, b3⟩ := hrel
    have B3 := Lib.hid b3
    clear b3
    have hkl12 : k ≤ 12 := by have := HL12.out; omega
    have hq12 := pairsF_len l' k
    have hl12 := HL12.out
    by_cases hgo : k < l'.length ∧ er = 0
    ·obtain ⟨hlt2, her⟩ := hgo
     subst her
     have hPl : pairsF l' = P := by
      have h := HP.out
      rw [if_pos rfl] at h
      exact h
     have hi2 : (k : Int) < (l'.length : Int) := by omega
     obtain ⟨d, o, cc, e1, hd, q1⟩ := (HS3.out.below B3.out).cell k hlt2
     injection e1 with e1 _ e1c
     subst e1 e1c
     have x0 : wr.cell? ⟨d, o + k * 3, none⟩ = _ := q1 0 _ rfl
     have x1 : wr.cell? ⟨d, o + k * 3 + 1, none⟩ = _ := q1 1 _ rfl
     have x2 : wr.cell? ⟨d, o + k * 3 + 2, none⟩ = _ := q1 2 _ rfl
     have hsplit : P = pairsF (l'.take (k + 1)) ++ pairsF (l'.drop (k + 1)) := by
      rw [← hPl]
      unfold pairsF
      rw [← List.filterMap_append, List.take_append_drop]
     have hN := pairsF_take l' k hlt2
     generalize l'[k] = xk at *
     obtain ⟨sk, si, sj⟩ := xk
     try dsimp only at x0 x1 x2 hN
     clear q1
     by_cases hsk : sk = 1
     ·subst hsk
      rw [if_pos rfl] at hN
      have hP1 : P[(pairsF (l'.take k)).length]? = some (si, sj) := by
       rw [hsplit, hN, List.append_assoc, List.getElem?_append_right (Nat.le_refl _)]
       simp
      have HN1 : Hid ((pairsF (l'.take (k + 1))).length = (pairsF (l'.take k)).length + 1) := Lib.hid (by rw [hN]; simp)
      clear hN hsplit hPl
      generalize (pairsF (l'.take k)).length = k2 at *
      have hk2 : k2 < P.length := (List.getElem?_eq_some_iff.1 hP1).1
      obtain ⟨pa', pc', ep, hp⟩ := SP.out.below B3.out
      injection ep with ep1 _ ep3
      subst ep1 ep3
      obtain ⟨dp, op, ep, hdp, hpc⟩ := hp k2 (si, sj) hP1
      subst ep
      have P0 : Hid (wr.cell? ⟨dp, op + k2 * 2, none⟩ = some (.int .i64 si)) := Lib.hid (hpc 0 _ rfl)
      have P1 : Hid (wr.cell? ⟨dp, op + k2 * 2 + 1, none⟩ = some (.int .i64 sj)) := Lib.hid (hpc 1 _ rfl)
      have X1 : Hid (wr.cell? ⟨d, o + k * 3 + 1, none⟩ = some (.int .i64 si)) := Lib.hid x1
      have X2 : Hid (wr.cell? ⟨d, o + k * 3 + 2, none⟩ = some (.int .i64 sj)) := Lib.hid x2
      have HG : Hid (decide ((k2 : Int) ≥ (P.length : Int)) = false ∧ ¬ P.length ≤ k2) := Lib.hid ⟨decide_eq_false (by omega), by omega⟩
      have HK2 : Hid ((k2 : Int) < (P.length : Int)) := Lib.hid (by omega)
      have HKI := Lib.hid hi2
      clear hp hpc hP1
      go_upto_region 20 with (fail)
      clear x0 x1 x2
      refine wp_tab (.v 91 (.int .i64 (k2 : Nat)) :: .v 92 (.slice (some ⟨dp, op, none⟩) P.length pc) :: .v 93 (.int .i64 (P.length : Nat)) :: .v 94 (.bool false) :: .v 95 (.bool false) :: .v 96 (.slice (some ⟨dp, op, none⟩) P.length pc) :: .v 97 (.int .i64 (k2 : Nat)) :: .v 98 (.pointer (some ⟨dp, op + k2 * 2, none⟩)) :: .v 99 (.agg #[.int .i64 si, .int .i64 sj]) :: .v 100 (.slice (some ⟨d, o, none⟩) l'.length c') :: .v 101 (.int .i64 (k : Nat)) :: .v 102 (.pointer (some ⟨d, o + k * 3, none⟩)) :: .v 103 (.pointer (some ⟨d, o + k * 3 + 1, none⟩)) :: .v 104 (.int .i64 si) :: .v 105 (.slice (some ⟨d, o, none⟩) l'.length c') :: .v 106 (.int .i64 (k : Nat)) :: .v 107 (.pointer (some ⟨d, o + k * 3, none⟩)) :: .v 108 (.pointer (some ⟨d, o + k * 3 + 2, none⟩)) :: .v 109 (.int .i64 sj) :: .v 110 (.agg #[.int .i64 si, .int .i64 sj]) :: .v 111 (.bool false) :: .v 112 (.bool false) :: []) [] [] [] [] [] [] [] (by kernel_rfl) (Below.refl _ _) trivial trivial ⟨pu, pu, pu, ?_, pu, pu, pu, ?_, ?_, pu, pu, ?_, pu, ?_, pu, pu, ?_, pu, ?_, pu, ?_, pu, trivial⟩ ?_
      ·intro L a U ho J hn dd KK kk; refine .free rfl ?_; have r0 := J.read 0 rfl (dd.get 0 rfl); have r2 := J.read 2 rfl (dd.get 2 rfl); have hg1 := HG.out.1; have hg2 := HG.out.2; go_simp; exact kk.out _ _ (J.st 3 rfl rfl)
      ·intro L a U ho J hn dd KK kk; refine .pos (s := 95) rfl rfl (J.vals 4 _ _ rfl (dd.get 4 rfl)) ?_; have r5 := J.read 5 rfl (dd.get 5 rfl); have r6 := J.read 6 rfl (dd.get 6 rfl); have hm2 := HK2.out; go_simp; exact kk.out _ _ (J.st 7 rfl rfl)
      ·intro L a U ho J hn dd KK kk; refine .pos (s := 95) rfl rfl (J.vals 4 _ _ rfl (dd.get 4 rfl)) ?_; have r7 := J.read 7 rfl (dd.get 7 rfl); have e0 := (J.bb.cell (p := ⟨dp, op + k2 * 2, none⟩) hdp).trans P0.out; have e1 := (J.bb.cell (p := ⟨dp, op + k2 * 2 + 1, none⟩) hdp).trans P1.out; go_simp; exact kk.out _ _ (J.st 8 rfl rfl)
      ·intro L a U ho J hn dd KK kk; refine .pos (s := 95) rfl rfl (J.vals 4 _ _ rfl (dd.get 4 rfl)) ?_; have r9 := J.read 9 rfl (dd.get 9 rfl); have r10 := J.read 10 rfl (dd.get 10 rfl); have hm2 := HKI.out; go_simp; exact kk.out _ _ (J.st 11 rfl rfl)
      ·intro L a U ho J hn dd KK kk; refine .pos (s := 95) rfl rfl (J.vals 4 _ _ rfl (dd.get 4 rfl)) ?_; have r12 := J.read 12 rfl (dd.get 12 rfl); have e1 := (J.bb.cell (p := ⟨d, o + k * 3 + 1, none⟩) hd).trans X1.out; go_simp; exact kk.out _ _ (J.st 13 rfl rfl)
      ·intro L a U ho J hn dd KK kk; refine .pos (s := 95) rfl rfl (J.vals 4 _ _ rfl (dd.get 4 rfl)) ?_; have r14 := J.read 14 rfl (dd.get 14 rfl); have r15 := J.read 15 rfl (dd.get 15 rfl); have hm2 := HKI.out; go_simp; exact kk.out _ _ (J.st 16 rfl rfl)
      ·intro L a U ho J hn dd KK kk; refine .pos (s := 95) rfl rfl (J.vals 4 _ _ rfl (dd.get 4 rfl)) ?_; have r17 := J.read 17 rfl (dd.get 17 rfl); have e2 := (J.bb.cell (p := ⟨d, o + k * 3 + 2, none⟩) hd).trans X2.out; go_simp; exact kk.out _ _ (J.st 18 rfl rfl)
      ·intro L a U ho J hn dd KK kk; refine .pos (s := 95) rfl rfl (J.vals 4 _ _ rfl (dd.get 4 rfl)) ?_; have r8 := J.read 8 rfl (dd.get 8 rfl); have r19 := J.read 19 rfl (dd.get 19 rfl); have eq := fun W => eqI2 si sj si sj W; go_simp; exact kk.out _ _ (J.st 20 rfl rfl)
      rintro σ W9 _ _ _ _ q9
      simp only [slotsOf, finX, nval, nvalN, nvalA, Nat.reduceBEq, cond_true, cond_false, putAll, Act.put, List.setIfInBounds_toArray, List.set_cons_succ, List.set_cons_zero]
      clear P0 P1 X1 X2 HG HK2 HKI
      go_wp2
      exact ⟨⟨k + 1, by omega, by go_num, by rw [HN1.out]; go_num, fun h => absurd rfl h, B3.out.trans (q9.mono B3.out.size)⟩, by simp [intOf]; omega⟩
     ·have m1 : (sk == 1) = false := by rw [beq_eq_false_iff_ne]; exact hsk
      rw [if_neg hsk, List.append_nil] at hN
      have HN1 : Hid ((pairsF (l'.take (k + 1))).length = (pairsF (l'.take k)).length) := Lib.hid (by rw [hN])
      clear hN hsplit hPl hsk
      generalize (pairsF (l'.take k)).length = k2 at *
      go_wp2
      exact ⟨⟨k + 1, by omega, by go_num, by rw [HN1.out], fun h => absurd rfl h, B3.out⟩, by simp [intOf]; omega⟩
    ·have hk2 : (pairsF (l'.take k)).length = P.length := by
      have h := HP.out
      by_cases her : er = 0
      ·rw [if_pos her] at h
       have hkl : k = l'.length := by
        have : ¬ k < l'.length := fun h => hgo ⟨h, her⟩
        omega
       rw [← h, hkl, List.take_length]
      ·rw [if_neg her] at h
       rw [← h, hz her]
       rfl
     rw [hk2]
     generalize P.length = pl at *
     by_cases hlt3 : k < l'.length
     ·have her : er ≠ 0 := fun h => hgo ⟨hlt3, h⟩
      have hi2 : (k : Int) < (l'.length : Int) := by omega
      have hn3 : (er == 0) = false := by rw [beq_eq_false_iff_ne]; exact her
      clear hgo hz hk2 HP
      go_wp2
      exact ⟨⟨n + 1, by omega, by go_num, B8.out.trans ((BR.out.trans (B3.out.mono BR.out.size)).mono B8.out.size), B.out.trans ((BR.out.trans (B3.out.mono BR.out.size)).mono B.out.size)⟩, by simp [intOf]; omega⟩
     ·have hi2 : ¬ (k : Int) < (l'.length : Int) := by omega
      have hi3 : decide ((k : Int) < (l'.length : Int)) = false := decide_eq_false hi2
      clear hgo hz hk2 HP
      go_wp2
      exact ⟨⟨n + 1, by omega, by go_num, B8.out.trans ((BR.out.trans (B3.out.mono BR.out.size)).mono B8.out.size), B.out.trans ((BR.out.trans (B3.out.mono BR.out.size)).mono B.out.size)⟩, by simp [intOf]; omega⟩
  ·have hn2 : n = 2 := by omega
   subst hn2
   go_wp2
   exact bodyPost_ret (v := .bool true) (by kernel_rfl) rfl ⟨rfl, B.out⟩

end Go.Proofs.YthhkmihjnnfpgaaGreatDoor
