/- Make: the question of a plan. -/
import Derived.Test.YthhkmihjnnfpgaaGreatDoorCorY
namespace Go.Proofs.YthhkmihjnnfpgaaGreatDoor
set_option linter.all false
open Go.RowKit

attribute [local go_sem] Oper.semAt_some

theorem row_SAt {α : Type} {f : α → List Value} {sz : Nat} (hf : ∀ u, (f u).length = sz) {T : TypeId} {W : World} {d : Nat} {us : List α} {r : List Value} (h : Blk W d (us.flatMap f ++ r).toArray T) (c : Nat) : SAt f sz W (.slice (some ⟨d, 0, none⟩) us.length c) us :=
 ⟨_, c, rfl, fun i t ht => ⟨d, 0, rfl, h.lt, fun j u hu => by
  rw [Nat.zero_add]
  refine h.atL _ _ ?_
  have := flat_get hf us i j t u ht hu
  rw [List.getElem?_append_left (List.getElem?_eq_some_iff.1 this).1]
  exact this⟩⟩
set_option maxRecDepth 100000 in
set_option maxHeartbeats 8000000 in
theorem make44_any (p : PL) (hp : p.ok) (vl vr : Value) (w : World) (he : Env w) (hl : BAt w vl p.l) (hr : BAt w vr p.r) :
  Calls Tryz.prog 14 #[.agg #[vl, vr, .int .u8 p.c0, .int .u8 p.c1, .int .u8 p.c2, .int .u8 p.c3]] w fun e w' => ∃ v1 v2, e = .returned (.agg #[v1, v2, .string (qT (2 * p.q.ch)), .string (qT (2 * p.q.mi)), .string (qT (2 * p.q.ga)), .string (qT (2 * p.q.re))]) ∧ QAt w' v1 v2 p.q ∧ Below w.heap.size w w' := by
 have HC := hp.c
 have hel := hp.l
 have her := hp.r
 obtain ⟨A1, k1, rfl, hk1⟩ := hl.cap
 obtain ⟨A2, k2, rfl, hk2⟩ := hr.cap
 have hq1 : p.q.ch = ((p.c0 % 6 : Nat) : Int) := rfl
 have hq2 : p.q.mi = ((p.c1 % 6 : Nat) : Int) := rfl
 have hq3 : p.q.ga = ((p.c2 % 6 : Nat) : Int) := rfl
 have hq4 : p.q.re = ((p.c3 % 6 : Nat) : Int) := rfl
 rw [hq1, hq2, hq3, hq4]
 have HQ : Hid (∀ W v1 v2, SAt IV.cells 3 W v1 (logP p.l) → SAt IV.cells 3 W v2 (logP p.r) → QAt W v1 v2 p.q) := Lib.hid (fun W v1 v2 h1 h2 => ⟨h1, h2⟩)
 have HL := Lib.hid (bits_take hl.at_ (min p.l.length 5) (Nat.min_le_left _ _))
 have HR := Lib.hid (bits_take hr.at_ (min p.r.length 5) (Nat.min_le_left _ _))
 have HE := Lib.hid he
 clear hl hr he hp hq1 hq2 hq3 hq4
 go_enter Tryz.func14, Tryz.ntmps14
 go_upto_region 2 with (fail)
 have kf1 := Blk.fresh w #[.slice A1 p.l.length k1, .slice A2 p.r.length k2, .int .u8 p.c0, .int .u8 p.c1, .int .u8 p.c2, .int .u8 p.c3] 25
 have q1 := below_new w (.cells #[.slice A1 p.l.length k1, .slice A2 p.r.length k2, .int .u8 p.c0, .int .u8 p.c1, .int .u8 p.c2, .int .u8 p.c3] 25)
 have hs1 : (w.alloc (.cells #[.slice A1 p.l.length k1, .slice A2 p.r.length k2, .int .u8 p.c0, .int .u8 p.c1, .int .u8 p.c2, .int .u8 p.c3] 25)).heap.size = w.heap.size + 1 := by simp
 generalize (w.alloc (.cells #[.slice A1 p.l.length k1, .slice A2 p.r.length k2, .int .u8 p.c0, .int .u8 p.c1, .int .u8 p.c2, .int .u8 p.c3] 25)) = W1 at *
 have k2' := Blk.fresh W1 #[.slice none 0 0, .slice none 0 0, .string ⟨#[]⟩, .string ⟨#[]⟩, .string ⟨#[]⟩, .string ⟨#[]⟩] 32
 have q2 := below_new W1 (.cells #[.slice none 0 0, .slice none 0 0, .string ⟨#[]⟩, .string ⟨#[]⟩, .string ⟨#[]⟩, .string ⟨#[]⟩] 32)
 have kk1 := kf1.below q2
 have qq := q1.trans (q2.mono q1.size)
 generalize (W1.alloc (.cells #[.slice none 0 0, .slice none 0 0, .string ⟨#[]⟩, .string ⟨#[]⟩, .string ⟨#[]⟩, .string ⟨#[]⟩] 32)) = W at *
 rw [hs1] at k2'
 obtain ⟨b1, hb1⟩ : ∃ b, w.heap.size = b := ⟨_, rfl⟩
 obtain ⟨b2, hb2⟩ : ∃ b, w.heap.size + 1 = b := ⟨_, rfl⟩
 rw [hb2] at k2'
 rw [hb1] at kk1
 rw [hb2, hb1]
 have K1 := Lib.hid kk1
 have K2 := Lib.hid k2'
 have B := Lib.hid qq
 have HB : Hid (w.heap.size = b1 ∧ b2 = b1 + 1) := Lib.hid (by omega)
 have HEW := HE.out.below qq
 have hm1 : min p.l.length 5 ≤ k1 := by omega
 have hm2 : min p.r.length 5 ≤ k2 := by omega
 have hlen1 : (p.l.take (min p.l.length 5)).length = min p.l.length 5 := by rw [List.length_take]; omega
 have hlen2 : (p.r.take (min p.r.length 5)).length = min p.r.length 5 := by rw [List.length_take]; omega
 have et1 : p.l.take (min p.l.length 5) = p.l.take 5 := by
  by_cases h : p.l.length ≤ 5
  ·rw [Nat.min_eq_left h, List.take_length, List.take_of_length_le h]
  ·rw [Nat.min_eq_right (by omega)]
 have et2 : p.r.take (min p.r.length 5) = p.r.take 5 := by
  by_cases h : p.r.length ≤ 5
  ·rw [Nat.min_eq_left h, List.take_length, List.take_of_length_le h]
  ·rw [Nat.min_eq_right (by omega)]
 have LA : ∀ U, Below W.heap.size W U → Calls Tryz.prog 47 #[.slice A1 (min p.l.length 5) k1] U fun e w' => ∃ v', e = .returned v' ∧ SRow IV.cells 3 86 w' U.heap.size v' (logP p.l) ∧ Below U.heap.size U w' := fun U hU => by
  have h := lmake_any (p.l.take (min p.l.length 5)) (by omega) (fun b hb => hel b (List.mem_of_mem_take hb)) _ U (HEW.below hU) ((HL.out.below qq).below hU)
  rw [et1] at h
  exact h
 have LB : ∀ U, Below W.heap.size W U → Calls Tryz.prog 47 #[.slice A2 (min p.r.length 5) k2] U fun e w' => ∃ v', e = .returned v' ∧ SRow IV.cells 3 86 w' U.heap.size v' (logP p.r) ∧ Below U.heap.size U w' := fun U hU => by
  have h := lmake_any (p.r.take (min p.r.length 5)) (by omega) (fun b hb => her b (List.mem_of_mem_take hb)) _ U (HEW.below hU) ((HR.out.below qq).below hU)
  rw [et2] at h
  exact h
 have row : ∀ (l : List IV) (A : Option Addr) (m k : Nat), (∀ U, Below W.heap.size W U → Calls Tryz.prog 47 #[.slice A m k] U fun e w' => ∃ v', e = .returned v' ∧ SRow IV.cells 3 86 w' U.heap.size v' l ∧ Below U.heap.size U w') → l.length = m →
   (l = [] → Ret Tryz.prog W 47 #[.slice A m k] (.slice none 0 0)) ∧
   (l ≠ [] → ∀ U, Below W.heap.size W U → Calls Tryz.prog 47 #[.slice A m k] U fun e w' => ∃ d c r, e = .returned (.slice (some ⟨d, 0, none⟩) m c) ∧ U.heap.size ≤ d ∧ Blk w' d (l.flatMap IV.cells ++ r).toArray 86 ∧ Below U.heap.size U w') := fun l A m k h hm => by
  refine ⟨fun hn U hU => (h U hU).mono ?_, fun hn U hU => (h U hU).mono ?_⟩
  ·rintro e w' ⟨v', rfl, r, q⟩
   rcases r with ⟨_, rfl⟩ | ⟨_, _, _, _, _, h3, _⟩
   ·exact ⟨rfl, q⟩
   ·exact absurd hn h3
  ·rintro e w' ⟨v', rfl, r, q⟩
   rcases r with ⟨h3, _⟩ | ⟨d, c, r, h1, h2, _, h4, _⟩
   ·exact absurd h3 hn
   ·exact ⟨d, c, r, by rw [h1, hm], h2, h4, q⟩
 have RA := row _ _ _ _ LA (by rw [logP_len]; omega)
 have RB := row _ _ _ _ LB (by rw [logP_len]; omega)
 have HH0 := Lib.hid (half_any p.c0 HC.1 W HEW)
 have HH1 := Lib.hid (half_any p.c1 HC.2.1 W HEW)
 have HH2 := Lib.hid (half_any p.c2 HC.2.2.1 W HEW)
 have HH3 := Lib.hid (half_any p.c3 HC.2.2.2 W HEW)
 have SA : Hid (∀ W' d c r, Blk W' d ((logP p.l).flatMap IV.cells ++ r).toArray 86 → SAt IV.cells 3 W' (.slice (some ⟨d, 0, none⟩) (min p.l.length 5) c) (logP p.l)) := Lib.hid (fun W' d c r h => by
  have e : min p.l.length 5 = (logP p.l).length := by rw [logP_len]; omega
  rw [e]
  exact row_SAt IV.len h c)
 have SB : Hid (∀ W' d c r, Blk W' d ((logP p.r).flatMap IV.cells ++ r).toArray 86 → SAt IV.cells 3 W' (.slice (some ⟨d, 0, none⟩) (min p.r.length 5) c) (logP p.r)) := Lib.hid (fun W' d c r h => by
  have e : min p.r.length 5 = (logP p.r).length := by rw [logP_len]; omega
  rw [e]
  exact row_SAt IV.len h c)
 have mn1 : min (p.l.length : Int) 5 = ((min p.l.length 5 : Nat) : Int) := by omega
 have mn2 : min (p.r.length : Int) 5 = ((min p.r.length 5 : Nat) : Int) := by omega
 clear kf1 q1 hs1 k2' q2 kk1 qq hb1 hb2 HEW hlen1 hlen2 et1 et2 LA LB row HC hel her HL HR
 have RA' := Lib.hid RA
 have RB' := Lib.hid RB
 have MN1 := Lib.hid mn1
 have MN2 := Lib.hid mn2
 clear RA RB mn1 mn2
 generalize (p.c0 : Int) = u0 at *
 generalize (p.c1 : Int) = u1 at *
 generalize (p.c2 : Int) = u2 at *
 generalize (p.c3 : Int) = u3 at *
 obtain ⟨h0, e0⟩ : ∃ t, qT (2 * ((p.c0 % 6 : Nat) : Int)) = t := ⟨_, rfl⟩
 obtain ⟨h1, e1⟩ : ∃ t, qT (2 * ((p.c1 % 6 : Nat) : Int)) = t := ⟨_, rfl⟩
 obtain ⟨h2, e2⟩ : ∃ t, qT (2 * ((p.c2 % 6 : Nat) : Int)) = t := ⟨_, rfl⟩
 obtain ⟨h3, e3⟩ : ∃ t, qT (2 * ((p.c3 % 6 : Nat) : Int)) = t := ⟨_, rfl⟩
 have E0 := Lib.hid e0
 have E1 := Lib.hid e1
 have E2 := Lib.hid e2
 have E3 := Lib.hid e3
 rw [e0] at HH0
 rw [e1] at HH1
 rw [e2] at HH2
 rw [e3] at HH3
 clear e0 e1 e2 e3
 generalize hf1 : (logP p.l).flatMap IV.cells = f1 at *
 generalize hf2 : (logP p.r).flatMap IV.cells = f2 at *
 clear hf1 hf2
 generalize min p.l.length 5 = m1 at *
 generalize min p.r.length 5 = m2 at *
 generalize p.l.length = n1 at *
 generalize p.r.length = n2 at *
 by_cases z1 : logP p.l = []
 ·by_cases z2 : logP p.r = []
  ·have HLa := Lib.hid (RA'.out.1 z1)
   have HLb := Lib.hid (RB'.out.1 z2)
   refine wpIn_wide.1 (wpIn_phaseX (n := 9) (.inl rfl) (ι := Unit) () 44 37 (.v 4 (.pointer (some ⟨b1, 0, none⟩)) :: .v 5 (.slice A1 n1 k1) :: .v 6 (.pointer (some ⟨b1, 0, none⟩)) :: .v 7 (.slice A1 n1 k1) :: .v 8 (.int .i64 (n1 : Int)) :: .v 9 (.int .i64 (m1 : Int)) :: .v 10 (.slice A1 m1 k1) :: .v 11 (.slice none 0 0) :: .v 12 (.pointer (some ⟨b1, 1, none⟩)) :: .v 13 (.slice A2 n2 k2) :: .v 14 (.pointer (some ⟨b1, 1, none⟩)) :: .v 15 (.slice A2 n2 k2) :: .v 16 (.int .i64 (n2 : Int)) :: .v 17 (.int .i64 (m2 : Int)) :: .v 18 (.slice A2 m2 k2) :: .v 19 (.slice none 0 0) :: .v 20 (.func (.func 46) #[] #[]) :: .v 21 (.pointer (some ⟨b1, 2, none⟩)) :: .v 22 (.pointer (some ⟨b1, 2, none⟩)) :: .v 23 (.int .u8 u0) :: .v 24 (.string h0) :: .v 25 (.func (.func 46) #[] #[]) :: .v 26 (.pointer (some ⟨b1, 2, none⟩)) :: .v 27 (.pointer (some ⟨b1, 3, none⟩)) :: .v 28 (.int .u8 u1) :: .v 29 (.string h1) :: .v 30 (.func (.func 46) #[] #[]) :: .v 31 (.pointer (some ⟨b1, 2, none⟩)) :: .v 32 (.pointer (some ⟨b1, 4, none⟩)) :: .v 33 (.int .u8 u2) :: .v 34 (.string h2) :: .v 35 (.func (.func 46) #[] #[]) :: .v 36 (.pointer (some ⟨b1, 2, none⟩)) :: .v 37 (.pointer (some ⟨b1, 5, none⟩)) :: .v 38 (.int .u8 u3) :: .v 39 (.string h3) :: .v 40 (.agg #[.string h0, .string h1, .string h2, .string h3]) :: []) (fun (x : Unit) => ([] : List NB)) [⟨b1, #[.slice A1 n1 k1, .slice A2 n2 k2, .int .u8 u0, .int .u8 u1, .int .u8 u2, .int .u8 u3], 25, none⟩] [] [] [] [] [] (fun x => by kernel_rfl) (by kernel_rfl) (by intro hL; obtain ⟨_, _, hL⟩ := hL; obtain ⟨_, _, hL, _⟩ := hL; cases hL) (Below.refl _ _) ⟨K1.out, trivial⟩ trivial ⟨obX (fun x => pu), obX (fun x => ld 0 0), obX (fun x => pu), obX (fun x => ld 0 0), obX (fun x => pu), ?_, ?_, obX (fun x => cl HLa.out), obX (fun x => pu), obX (fun x => ld 0 1), obX (fun x => pu), obX (fun x => ld 0 1), obX (fun x => pu), ?_, ?_, obX (fun x => cl HLb.out), obX (fun x => pu), obX (fun x => pu), obX (fun x => pu), obX (fun x => ld 0 2), obX (fun x => cl HH0.out), obX (fun x => pu), obX (fun x => pu), obX (fun x => pu), obX (fun x => ld 0 3), obX (fun x => cl HH1.out), obX (fun x => pu), obX (fun x => pu), obX (fun x => pu), obX (fun x => ld 0 4), obX (fun x => cl HH2.out), obX (fun x => pu), obX (fun x => pu), obX (fun x => pu), obX (fun x => ld 0 5), obX (fun x => cl HH3.out), obX (fun x => pu), trivial⟩ ?_)
   ·refine obX (fun x => ?_); intro L a U ho J hn dd KK kk; refine .free rfl ?_; have r8 := J.read 4 rfl (dd.get 4 rfl); have mn := MN1.out; go_simp; exact kk.out _ _ (J.st 5 rfl rfl)
   ·refine obX (fun x => ?_); intro L a U ho J hn dd KK kk; refine .free rfl ?_; have r5 := J.read 1 rfl (dd.get 1 rfl); have r9 := J.read 5 rfl (dd.get 5 rfl); go_simp; exact kk.out _ _ (J.st 6 rfl rfl)
   ·refine obX (fun x => ?_); intro L a U ho J hn dd KK kk; refine .free rfl ?_; have r16 := J.read 12 rfl (dd.get 12 rfl); have mn := MN2.out; go_simp; exact kk.out _ _ (J.st 13 rfl rfl)
   ·refine obX (fun x => ?_); intro L a U ho J hn dd KK kk; refine .free rfl ?_; have r13 := J.read 9 rfl (dd.get 9 rfl); have r17 := J.read 13 rfl (dd.get 13 rfl); go_simp; exact kk.out _ _ (J.st 14 rfl rfl)
   rintro x σ W9 _ _ _ _ B9
   simp only [slotsOf, finX, nval, nvalN, nvalA, Nat.reduceBEq, cond_true, cond_false, putAll, Act.put, List.setIfInBounds_toArray, List.set_cons_succ, List.set_cons_zero]
   simp only [List.drop_succ_cons, List.drop_zero]
   have K2b := K2.out.below B9.out
   have lt2 := K2.out.lt
   have BB := B.out.trans (B9.out.mono B.out.size)
   have f0 := K2b.free 0
   have g0 := K2b.at_ 0 _ rfl
   have f1 := K2b.free 1
   have g1 := K2b.at_ 1 _ rfl
   have f2 := K2b.free 2
   have g2 := K2b.at_ 2 _ rfl
   have f3 := K2b.free 3
   have g3 := K2b.at_ 3 _ rfl
   have f4 := K2b.free 4
   have g4 := K2b.at_ 4 _ rfl
   have f5 := K2b.free 5
   have g5 := K2b.at_ 5 _ rfl
   have KF : Hid (Blk (setAll W9 b2 0 (#[.slice none 0 0, .slice none 0 0, .string h0, .string h1, .string h2, .string h3] : Array Value).toList) b2 #[.slice none 0 0, .slice none 0 0, .string h0, .string h1, .string h2, .string h3] 32) := Lib.hid (K2b.setA 0 _)
   have BF : Hid (Below w.heap.size w (setAll W9 b2 0 (#[.slice none 0 0, .slice none 0 0, .string h0, .string h1, .string h2, .string h3] : Array Value).toList)) := Lib.hid (BB.trans (below_setA W9 w.heap.size b2 (by have := HB.out; omega) 0 _))
   have SA2 : Hid (SAt IV.cells 3 (setAll W9 b2 0 (#[.slice none 0 0, .slice none 0 0, .string h0, .string h1, .string h2, .string h3] : Array Value).toList) (.slice none 0 0) (logP p.l)) := Lib.hid (by rw [z1]; exact ⟨none, 0, rfl, fun i t h => by simp at h⟩)
   have SB2 : Hid (SAt IV.cells 3 (setAll W9 b2 0 (#[.slice none 0 0, .slice none 0 0, .string h0, .string h1, .string h2, .string h3] : Array Value).toList) (.slice none 0 0) (logP p.r)) := Lib.hid (by rw [z2]; exact ⟨none, 0, rfl, fun i t h => by simp at h⟩)
   clear K2b BB
   dsimp only [List.toList_toArray, setAll, Nat.zero_add, Nat.reduceAdd] at KF BF SA2 SB2
   gi_wp2
   go_wp2
   have c0 := KF.out.at_ 0 _ rfl
   have c1 := KF.out.at_ 1 _ rfl
   have c2 := KF.out.at_ 2 _ rfl
   have c3 := KF.out.at_ 3 _ rfl
   have c4 := KF.out.at_ 4 _ rfl
   have c5 := KF.out.at_ 5 _ rfl
   exact bodyPost_ret (v := .agg #[.slice none 0 0, .slice none 0 0, .string h0, .string h1, .string h2, .string h3]) (by simp [results, Tryz.results14, go_sem, c0, c1, c2, c3, c4, c5]) rfl ⟨_, _, by rw [E0.out, E1.out, E2.out, E3.out], HQ.out _ _ _ SA2.out SB2.out, BF.out⟩
  ·have HLa := Lib.hid (RA'.out.1 z1)
   have HRb := Lib.hid (RB'.out.2 z2)
   refine wpIn_wide.1 (wpIn_phaseX (n := 9) (.inl rfl) (ι := (Nat × List Value)) (0, []) 44 37 (.v 4 (.pointer (some ⟨b1, 0, none⟩)) :: .v 5 (.slice A1 n1 k1) :: .v 6 (.pointer (some ⟨b1, 0, none⟩)) :: .v 7 (.slice A1 n1 k1) :: .v 8 (.int .i64 (n1 : Int)) :: .v 9 (.int .i64 (m1 : Int)) :: .v 10 (.slice A1 m1 k1) :: .v 11 (.slice none 0 0) :: .v 12 (.pointer (some ⟨b1, 1, none⟩)) :: .v 13 (.slice A2 n2 k2) :: .v 14 (.pointer (some ⟨b1, 1, none⟩)) :: .v 15 (.slice A2 n2 k2) :: .v 16 (.int .i64 (n2 : Int)) :: .v 17 (.int .i64 (m2 : Int)) :: .v 18 (.slice A2 m2 k2) :: .n 19 :: .v 20 (.func (.func 46) #[] #[]) :: .v 21 (.pointer (some ⟨b1, 2, none⟩)) :: .v 22 (.pointer (some ⟨b1, 2, none⟩)) :: .v 23 (.int .u8 u0) :: .v 24 (.string h0) :: .v 25 (.func (.func 46) #[] #[]) :: .v 26 (.pointer (some ⟨b1, 2, none⟩)) :: .v 27 (.pointer (some ⟨b1, 3, none⟩)) :: .v 28 (.int .u8 u1) :: .v 29 (.string h1) :: .v 30 (.func (.func 46) #[] #[]) :: .v 31 (.pointer (some ⟨b1, 2, none⟩)) :: .v 32 (.pointer (some ⟨b1, 4, none⟩)) :: .v 33 (.int .u8 u2) :: .v 34 (.string h2) :: .v 35 (.func (.func 46) #[] #[]) :: .v 36 (.pointer (some ⟨b1, 2, none⟩)) :: .v 37 (.pointer (some ⟨b1, 5, none⟩)) :: .v 38 (.int .u8 u3) :: .v 39 (.string h3) :: .v 40 (.agg #[.string h0, .string h1, .string h2, .string h3]) :: []) (fun (x : (Nat × List Value)) => ([⟨15, 19, fun g => .slice (some ⟨g, 0, none⟩) m2 x.1, (f2 ++ x.2).toArray, 86, none⟩] : List NB)) [⟨b1, #[.slice A1 n1 k1, .slice A2 n2 k2, .int .u8 u0, .int .u8 u1, .int .u8 u2, .int .u8 u3], 25, none⟩] [] [] [] [] [] (fun x => by kernel_rfl) (by kernel_rfl) (by intro hL; obtain ⟨_, _, hL⟩ := hL; obtain ⟨_, _, hL, _⟩ := hL; cases hL) (Below.refl _ _) ⟨K1.out, trivial⟩ trivial ⟨obX (fun x => pu), obX (fun x => ld 0 0), obX (fun x => pu), obX (fun x => ld 0 0), obX (fun x => pu), ?_, ?_, obX (fun x => cl HLa.out), obX (fun x => pu), obX (fun x => ld 0 1), obX (fun x => pu), obX (fun x => ld 0 1), obX (fun x => pu), ?_, ?_, ?_, obX (fun x => pu), obX (fun x => pu), obX (fun x => pu), obX (fun x => ld 0 2), obX (fun x => cl HH0.out), obX (fun x => pu), obX (fun x => pu), obX (fun x => pu), obX (fun x => ld 0 3), obX (fun x => cl HH1.out), obX (fun x => pu), obX (fun x => pu), obX (fun x => pu), obX (fun x => ld 0 4), obX (fun x => cl HH2.out), obX (fun x => pu), obX (fun x => pu), obX (fun x => pu), obX (fun x => ld 0 5), obX (fun x => cl HH3.out), obX (fun x => pu), trivial⟩ ?_)
   ·refine obX (fun x => ?_); intro L a U ho J hn dd KK kk; refine .free rfl ?_; have r8 := J.read 4 rfl (dd.get 4 rfl); have mn := MN1.out; go_simp; exact kk.out _ _ (J.st 5 rfl rfl)
   ·refine obX (fun x => ?_); intro L a U ho J hn dd KK kk; refine .free rfl ?_; have r5 := J.read 1 rfl (dd.get 1 rfl); have r9 := J.read 5 rfl (dd.get 5 rfl); go_simp; exact kk.out _ _ (J.st 6 rfl rfl)
   ·refine obX (fun x => ?_); intro L a U ho J hn dd KK kk; refine .free rfl ?_; have r16 := J.read 12 rfl (dd.get 12 rfl); have mn := MN2.out; go_simp; exact kk.out _ _ (J.st 13 rfl rfl)
   ·refine obX (fun x => ?_); intro L a U ho J hn dd KK kk; refine .free rfl ?_; have r13 := J.read 9 rfl (dd.get 9 rfl); have r17 := J.read 13 rfl (dd.get 13 rfl); go_simp; exact kk.out _ _ (J.st 14 rfl rfl)
   ·intro L a U ho hJ hn dd KK kk
    obtain ⟨x, J⟩ := hJ
    refine .free rfl ?_
    have r18 := J.read 14 rfl (dd.get 14 rfl)
    go_simp
    refine (HRb.out U J.bb).mono ?_
    rintro e w' ⟨d, c, r, rfl, hd, hb, q⟩
    refine kk.out _ _ ⟨(c, r), ?_⟩
    have J2 : RJ _ _ _ ((fun (x : (Nat × List Value)) => ([⟨15, 19, fun g => .slice (some ⟨g, 0, none⟩) m2 x.1, (f2 ++ x.2).toArray, 86, none⟩] : List NB)) (c, r)) _ _ _ _ _ L (slotOf a) U := J.rebase (fun i x' hx => by
     rcases i with _ | _ | i
     ·exact ⟨_, rfl, by simp at hx; subst hx; rfl, by simp at hx; subst hx; rfl, fun h => by simp at hx; subst hx; exact absurd h hn⟩
     ·simp at hx
     ·simp at hx)
    exact J2.made 15 0 rfl rfl rfl rfl rfl rfl rfl rfl rfl rfl hd hb q hn
   rintro x σ W9 ⟨⟨lo2, KB⟩, _⟩ _ _ _ B9
   simp only [slotsOf, finX, nval, nvalN, nvalA, Nat.reduceBEq, cond_true, cond_false, putAll, Act.put, List.setIfInBounds_toArray, List.set_cons_succ, List.set_cons_zero]
   simp only [List.drop_succ_cons, List.drop_zero]
   generalize blkOf (σ 19) = d2 at *
   have K2b := K2.out.below B9.out
   have lt2 := K2.out.lt
   have BB := B.out.trans (B9.out.mono B.out.size)
   have f0 := K2b.free 0
   have g0 := K2b.at_ 0 _ rfl
   have f1 := K2b.free 1
   have g1 := K2b.at_ 1 _ rfl
   have f2 := K2b.free 2
   have g2 := K2b.at_ 2 _ rfl
   have f3 := K2b.free 3
   have g3 := K2b.at_ 3 _ rfl
   have f4 := K2b.free 4
   have g4 := K2b.at_ 4 _ rfl
   have f5 := K2b.free 5
   have g5 := K2b.at_ 5 _ rfl
   have KF : Hid (Blk (setAll W9 b2 0 (#[.slice none 0 0, .slice (some ⟨d2, 0, none⟩) m2 x.1, .string h0, .string h1, .string h2, .string h3] : Array Value).toList) b2 #[.slice none 0 0, .slice (some ⟨d2, 0, none⟩) m2 x.1, .string h0, .string h1, .string h2, .string h3] 32) := Lib.hid (K2b.setA 0 _)
   have BF : Hid (Below w.heap.size w (setAll W9 b2 0 (#[.slice none 0 0, .slice (some ⟨d2, 0, none⟩) m2 x.1, .string h0, .string h1, .string h2, .string h3] : Array Value).toList)) := Lib.hid (BB.trans (below_setA W9 w.heap.size b2 (by have := HB.out; omega) 0 _))
   have SA2 : Hid (SAt IV.cells 3 (setAll W9 b2 0 (#[.slice none 0 0, .slice (some ⟨d2, 0, none⟩) m2 x.1, .string h0, .string h1, .string h2, .string h3] : Array Value).toList) (.slice none 0 0) (logP p.l)) := Lib.hid (by rw [z1]; exact ⟨none, 0, rfl, fun i t h => by simp at h⟩)
   have SB2 := Lib.hid (SB.out _ d2 x.1 x.2 (KB.out.elseA (show d2 ≠ b2 by have h := lo2; first | omega | (have := lo2.out; omega)) 0 (#[.slice none 0 0, .slice (some ⟨d2, 0, none⟩) m2 x.1, .string h0, .string h1, .string h2, .string h3] : Array Value).toList))
   clear K2b BB KB lo2
   dsimp only [List.toList_toArray, setAll, Nat.zero_add, Nat.reduceAdd] at KF BF SA2 SB2
   gi_wp2
   go_wp2
   have c0 := KF.out.at_ 0 _ rfl
   have c1 := KF.out.at_ 1 _ rfl
   have c2 := KF.out.at_ 2 _ rfl
   have c3 := KF.out.at_ 3 _ rfl
   have c4 := KF.out.at_ 4 _ rfl
   have c5 := KF.out.at_ 5 _ rfl
   exact bodyPost_ret (v := .agg #[.slice none 0 0, .slice (some ⟨d2, 0, none⟩) m2 x.1, .string h0, .string h1, .string h2, .string h3]) (by simp [results, Tryz.results14, go_sem, c0, c1, c2, c3, c4, c5]) rfl ⟨_, _, by rw [E0.out, E1.out, E2.out, E3.out], HQ.out _ _ _ SA2.out SB2.out, BF.out⟩
 ·by_cases z2 : logP p.r = []
  ·have HRa := Lib.hid (RA'.out.2 z1)
   have HLb := Lib.hid (RB'.out.1 z2)
   refine wpIn_wide.1 (wpIn_phaseX (n := 9) (.inl rfl) (ι := (Nat × List Value)) (0, []) 44 37 (.v 4 (.pointer (some ⟨b1, 0, none⟩)) :: .v 5 (.slice A1 n1 k1) :: .v 6 (.pointer (some ⟨b1, 0, none⟩)) :: .v 7 (.slice A1 n1 k1) :: .v 8 (.int .i64 (n1 : Int)) :: .v 9 (.int .i64 (m1 : Int)) :: .v 10 (.slice A1 m1 k1) :: .n 11 :: .v 12 (.pointer (some ⟨b1, 1, none⟩)) :: .v 13 (.slice A2 n2 k2) :: .v 14 (.pointer (some ⟨b1, 1, none⟩)) :: .v 15 (.slice A2 n2 k2) :: .v 16 (.int .i64 (n2 : Int)) :: .v 17 (.int .i64 (m2 : Int)) :: .v 18 (.slice A2 m2 k2) :: .v 19 (.slice none 0 0) :: .v 20 (.func (.func 46) #[] #[]) :: .v 21 (.pointer (some ⟨b1, 2, none⟩)) :: .v 22 (.pointer (some ⟨b1, 2, none⟩)) :: .v 23 (.int .u8 u0) :: .v 24 (.string h0) :: .v 25 (.func (.func 46) #[] #[]) :: .v 26 (.pointer (some ⟨b1, 2, none⟩)) :: .v 27 (.pointer (some ⟨b1, 3, none⟩)) :: .v 28 (.int .u8 u1) :: .v 29 (.string h1) :: .v 30 (.func (.func 46) #[] #[]) :: .v 31 (.pointer (some ⟨b1, 2, none⟩)) :: .v 32 (.pointer (some ⟨b1, 4, none⟩)) :: .v 33 (.int .u8 u2) :: .v 34 (.string h2) :: .v 35 (.func (.func 46) #[] #[]) :: .v 36 (.pointer (some ⟨b1, 2, none⟩)) :: .v 37 (.pointer (some ⟨b1, 5, none⟩)) :: .v 38 (.int .u8 u3) :: .v 39 (.string h3) :: .v 40 (.agg #[.string h0, .string h1, .string h2, .string h3]) :: []) (fun (x : (Nat × List Value)) => ([⟨7, 11, fun g => .slice (some ⟨g, 0, none⟩) m1 x.1, (f1 ++ x.2).toArray, 86, none⟩] : List NB)) [⟨b1, #[.slice A1 n1 k1, .slice A2 n2 k2, .int .u8 u0, .int .u8 u1, .int .u8 u2, .int .u8 u3], 25, none⟩] [] [] [] [] [] (fun x => by kernel_rfl) (by kernel_rfl) (by intro hL; obtain ⟨_, _, hL⟩ := hL; obtain ⟨_, _, hL, _⟩ := hL; cases hL) (Below.refl _ _) ⟨K1.out, trivial⟩ trivial ⟨obX (fun x => pu), obX (fun x => ld 0 0), obX (fun x => pu), obX (fun x => ld 0 0), obX (fun x => pu), ?_, ?_, ?_, obX (fun x => pu), obX (fun x => ld 0 1), obX (fun x => pu), obX (fun x => ld 0 1), obX (fun x => pu), ?_, ?_, obX (fun x => cl HLb.out), obX (fun x => pu), obX (fun x => pu), obX (fun x => pu), obX (fun x => ld 0 2), obX (fun x => cl HH0.out), obX (fun x => pu), obX (fun x => pu), obX (fun x => pu), obX (fun x => ld 0 3), obX (fun x => cl HH1.out), obX (fun x => pu), obX (fun x => pu), obX (fun x => pu), obX (fun x => ld 0 4), obX (fun x => cl HH2.out), obX (fun x => pu), obX (fun x => pu), obX (fun x => pu), obX (fun x => ld 0 5), obX (fun x => cl HH3.out), obX (fun x => pu), trivial⟩ ?_)
   ·refine obX (fun x => ?_); intro L a U ho J hn dd KK kk; refine .free rfl ?_; have r8 := J.read 4 rfl (dd.get 4 rfl); have mn := MN1.out; go_simp; exact kk.out _ _ (J.st 5 rfl rfl)
   ·refine obX (fun x => ?_); intro L a U ho J hn dd KK kk; refine .free rfl ?_; have r5 := J.read 1 rfl (dd.get 1 rfl); have r9 := J.read 5 rfl (dd.get 5 rfl); go_simp; exact kk.out _ _ (J.st 6 rfl rfl)
   ·intro L a U ho hJ hn dd KK kk
    obtain ⟨x, J⟩ := hJ
    refine .free rfl ?_
    have r10 := J.read 6 rfl (dd.get 6 rfl)
    go_simp
    refine (HRa.out U J.bb).mono ?_
    rintro e w' ⟨d, c, r, rfl, hd, hb, q⟩
    refine kk.out _ _ ⟨(c, r), ?_⟩
    have J2 : RJ _ _ _ ((fun (x : (Nat × List Value)) => ([⟨7, 11, fun g => .slice (some ⟨g, 0, none⟩) m1 x.1, (f1 ++ x.2).toArray, 86, none⟩] : List NB)) (c, r)) _ _ _ _ _ L (slotOf a) U := J.rebase (fun i x' hx => by
     rcases i with _ | _ | i
     ·exact ⟨_, rfl, by simp at hx; subst hx; rfl, by simp at hx; subst hx; rfl, fun h => by simp at hx; subst hx; exact absurd h hn⟩
     ·simp at hx
     ·simp at hx)
    exact J2.made 7 0 rfl rfl rfl rfl rfl rfl rfl rfl rfl rfl hd hb q hn
   ·refine obX (fun x => ?_); intro L a U ho J hn dd KK kk; refine .free rfl ?_; have r16 := J.read 12 rfl (dd.get 12 rfl); have mn := MN2.out; go_simp; exact kk.out _ _ (J.st 13 rfl rfl)
   ·refine obX (fun x => ?_); intro L a U ho J hn dd KK kk; refine .free rfl ?_; have r13 := J.read 9 rfl (dd.get 9 rfl); have r17 := J.read 13 rfl (dd.get 13 rfl); go_simp; exact kk.out _ _ (J.st 14 rfl rfl)
   rintro x σ W9 ⟨⟨lo1, KA⟩, _⟩ _ _ _ B9
   simp only [slotsOf, finX, nval, nvalN, nvalA, Nat.reduceBEq, cond_true, cond_false, putAll, Act.put, List.setIfInBounds_toArray, List.set_cons_succ, List.set_cons_zero]
   simp only [List.drop_succ_cons, List.drop_zero]
   generalize blkOf (σ 11) = d1 at *
   have K2b := K2.out.below B9.out
   have lt2 := K2.out.lt
   have BB := B.out.trans (B9.out.mono B.out.size)
   have f0 := K2b.free 0
   have g0 := K2b.at_ 0 _ rfl
   have f1 := K2b.free 1
   have g1 := K2b.at_ 1 _ rfl
   have f2 := K2b.free 2
   have g2 := K2b.at_ 2 _ rfl
   have f3 := K2b.free 3
   have g3 := K2b.at_ 3 _ rfl
   have f4 := K2b.free 4
   have g4 := K2b.at_ 4 _ rfl
   have f5 := K2b.free 5
   have g5 := K2b.at_ 5 _ rfl
   have KF : Hid (Blk (setAll W9 b2 0 (#[.slice (some ⟨d1, 0, none⟩) m1 x.1, .slice none 0 0, .string h0, .string h1, .string h2, .string h3] : Array Value).toList) b2 #[.slice (some ⟨d1, 0, none⟩) m1 x.1, .slice none 0 0, .string h0, .string h1, .string h2, .string h3] 32) := Lib.hid (K2b.setA 0 _)
   have BF : Hid (Below w.heap.size w (setAll W9 b2 0 (#[.slice (some ⟨d1, 0, none⟩) m1 x.1, .slice none 0 0, .string h0, .string h1, .string h2, .string h3] : Array Value).toList)) := Lib.hid (BB.trans (below_setA W9 w.heap.size b2 (by have := HB.out; omega) 0 _))
   have SA2 := Lib.hid (SA.out _ d1 x.1 x.2 (KA.out.elseA (show d1 ≠ b2 by have h := lo1; first | omega | (have := lo1.out; omega)) 0 (#[.slice (some ⟨d1, 0, none⟩) m1 x.1, .slice none 0 0, .string h0, .string h1, .string h2, .string h3] : Array Value).toList))
   have SB2 : Hid (SAt IV.cells 3 (setAll W9 b2 0 (#[.slice (some ⟨d1, 0, none⟩) m1 x.1, .slice none 0 0, .string h0, .string h1, .string h2, .string h3] : Array Value).toList) (.slice none 0 0) (logP p.r)) := Lib.hid (by rw [z2]; exact ⟨none, 0, rfl, fun i t h => by simp at h⟩)
   clear K2b BB KA lo1
   dsimp only [List.toList_toArray, setAll, Nat.zero_add, Nat.reduceAdd] at KF BF SA2 SB2
   gi_wp2
   go_wp2
   have c0 := KF.out.at_ 0 _ rfl
   have c1 := KF.out.at_ 1 _ rfl
   have c2 := KF.out.at_ 2 _ rfl
   have c3 := KF.out.at_ 3 _ rfl
   have c4 := KF.out.at_ 4 _ rfl
   have c5 := KF.out.at_ 5 _ rfl
   exact bodyPost_ret (v := .agg #[.slice (some ⟨d1, 0, none⟩) m1 x.1, .slice none 0 0, .string h0, .string h1, .string h2, .string h3]) (by simp [results, Tryz.results14, go_sem, c0, c1, c2, c3, c4, c5]) rfl ⟨_, _, by rw [E0.out, E1.out, E2.out, E3.out], HQ.out _ _ _ SA2.out SB2.out, BF.out⟩
  ·have HRa := Lib.hid (RA'.out.2 z1)
   have HRb := Lib.hid (RB'.out.2 z2)
   refine wpIn_wide.1 (wpIn_phaseX (n := 9) (.inl rfl) (ι := ((Nat × List Value) × (Nat × List Value))) ((0, []), (0, [])) 44 37 (.v 4 (.pointer (some ⟨b1, 0, none⟩)) :: .v 5 (.slice A1 n1 k1) :: .v 6 (.pointer (some ⟨b1, 0, none⟩)) :: .v 7 (.slice A1 n1 k1) :: .v 8 (.int .i64 (n1 : Int)) :: .v 9 (.int .i64 (m1 : Int)) :: .v 10 (.slice A1 m1 k1) :: .n 11 :: .v 12 (.pointer (some ⟨b1, 1, none⟩)) :: .v 13 (.slice A2 n2 k2) :: .v 14 (.pointer (some ⟨b1, 1, none⟩)) :: .v 15 (.slice A2 n2 k2) :: .v 16 (.int .i64 (n2 : Int)) :: .v 17 (.int .i64 (m2 : Int)) :: .v 18 (.slice A2 m2 k2) :: .n 19 :: .v 20 (.func (.func 46) #[] #[]) :: .v 21 (.pointer (some ⟨b1, 2, none⟩)) :: .v 22 (.pointer (some ⟨b1, 2, none⟩)) :: .v 23 (.int .u8 u0) :: .v 24 (.string h0) :: .v 25 (.func (.func 46) #[] #[]) :: .v 26 (.pointer (some ⟨b1, 2, none⟩)) :: .v 27 (.pointer (some ⟨b1, 3, none⟩)) :: .v 28 (.int .u8 u1) :: .v 29 (.string h1) :: .v 30 (.func (.func 46) #[] #[]) :: .v 31 (.pointer (some ⟨b1, 2, none⟩)) :: .v 32 (.pointer (some ⟨b1, 4, none⟩)) :: .v 33 (.int .u8 u2) :: .v 34 (.string h2) :: .v 35 (.func (.func 46) #[] #[]) :: .v 36 (.pointer (some ⟨b1, 2, none⟩)) :: .v 37 (.pointer (some ⟨b1, 5, none⟩)) :: .v 38 (.int .u8 u3) :: .v 39 (.string h3) :: .v 40 (.agg #[.string h0, .string h1, .string h2, .string h3]) :: []) (fun (x : ((Nat × List Value) × (Nat × List Value))) => ([⟨7, 11, fun g => .slice (some ⟨g, 0, none⟩) m1 x.1.1, (f1 ++ x.1.2).toArray, 86, none⟩, ⟨15, 19, fun g => .slice (some ⟨g, 0, none⟩) m2 x.2.1, (f2 ++ x.2.2).toArray, 86, none⟩] : List NB)) [⟨b1, #[.slice A1 n1 k1, .slice A2 n2 k2, .int .u8 u0, .int .u8 u1, .int .u8 u2, .int .u8 u3], 25, none⟩] [] [] [] [] [] (fun x => by kernel_rfl) (by kernel_rfl) (by intro hL; obtain ⟨_, _, hL⟩ := hL; obtain ⟨_, _, hL, _⟩ := hL; cases hL) (Below.refl _ _) ⟨K1.out, trivial⟩ trivial ⟨obX (fun x => pu), obX (fun x => ld 0 0), obX (fun x => pu), obX (fun x => ld 0 0), obX (fun x => pu), ?_, ?_, ?_, obX (fun x => pu), obX (fun x => ld 0 1), obX (fun x => pu), obX (fun x => ld 0 1), obX (fun x => pu), ?_, ?_, ?_, obX (fun x => pu), obX (fun x => pu), obX (fun x => pu), obX (fun x => ld 0 2), obX (fun x => cl HH0.out), obX (fun x => pu), obX (fun x => pu), obX (fun x => pu), obX (fun x => ld 0 3), obX (fun x => cl HH1.out), obX (fun x => pu), obX (fun x => pu), obX (fun x => pu), obX (fun x => ld 0 4), obX (fun x => cl HH2.out), obX (fun x => pu), obX (fun x => pu), obX (fun x => pu), obX (fun x => ld 0 5), obX (fun x => cl HH3.out), obX (fun x => pu), trivial⟩ ?_)
   ·refine obX (fun x => ?_); intro L a U ho J hn dd KK kk; refine .free rfl ?_; have r8 := J.read 4 rfl (dd.get 4 rfl); have mn := MN1.out; go_simp; exact kk.out _ _ (J.st 5 rfl rfl)
   ·refine obX (fun x => ?_); intro L a U ho J hn dd KK kk; refine .free rfl ?_; have r5 := J.read 1 rfl (dd.get 1 rfl); have r9 := J.read 5 rfl (dd.get 5 rfl); go_simp; exact kk.out _ _ (J.st 6 rfl rfl)
   ·intro L a U ho hJ hn dd KK kk
    obtain ⟨x, J⟩ := hJ
    refine .free rfl ?_
    have r10 := J.read 6 rfl (dd.get 6 rfl)
    go_simp
    refine (HRa.out U J.bb).mono ?_
    rintro e w' ⟨d, c, r, rfl, hd, hb, q⟩
    refine kk.out _ _ ⟨((c, r), x.2), ?_⟩
    have J2 : RJ _ _ _ ((fun (x : ((Nat × List Value) × (Nat × List Value))) => ([⟨7, 11, fun g => .slice (some ⟨g, 0, none⟩) m1 x.1.1, (f1 ++ x.1.2).toArray, 86, none⟩, ⟨15, 19, fun g => .slice (some ⟨g, 0, none⟩) m2 x.2.1, (f2 ++ x.2.2).toArray, 86, none⟩] : List NB)) ((c, r), x.2)) _ _ _ _ _ L (slotOf a) U := J.rebase (fun i x' hx => by
     rcases i with _ | _ | i
     ·exact ⟨_, rfl, by simp at hx; subst hx; rfl, by simp at hx; subst hx; rfl, fun h => by simp at hx; subst hx; exact absurd h hn⟩
     ·exact ⟨_, rfl, by simp at hx; subst hx; rfl, by simp at hx; subst hx; rfl, fun _ => by simp at hx; exact hx.symm⟩
     ·simp at hx)
    exact J2.made 7 0 rfl rfl rfl rfl rfl rfl rfl rfl rfl rfl hd hb q hn
   ·refine obX (fun x => ?_); intro L a U ho J hn dd KK kk; refine .free rfl ?_; have r16 := J.read 12 rfl (dd.get 12 rfl); have mn := MN2.out; go_simp; exact kk.out _ _ (J.st 13 rfl rfl)
   ·refine obX (fun x => ?_); intro L a U ho J hn dd KK kk; refine .free rfl ?_; have r13 := J.read 9 rfl (dd.get 9 rfl); have r17 := J.read 13 rfl (dd.get 13 rfl); go_simp; exact kk.out _ _ (J.st 14 rfl rfl)
   ·intro L a U ho hJ hn dd KK kk
    obtain ⟨x, J⟩ := hJ
    refine .free rfl ?_
    have r18 := J.read 14 rfl (dd.get 14 rfl)
    go_simp
    refine (HRb.out U J.bb).mono ?_
    rintro e w' ⟨d, c, r, rfl, hd, hb, q⟩
    refine kk.out _ _ ⟨(x.1, (c, r)), ?_⟩
    have J2 : RJ _ _ _ ((fun (x : ((Nat × List Value) × (Nat × List Value))) => ([⟨7, 11, fun g => .slice (some ⟨g, 0, none⟩) m1 x.1.1, (f1 ++ x.1.2).toArray, 86, none⟩, ⟨15, 19, fun g => .slice (some ⟨g, 0, none⟩) m2 x.2.1, (f2 ++ x.2.2).toArray, 86, none⟩] : List NB)) (x.1, (c, r))) _ _ _ _ _ L (slotOf a) U := J.rebase (fun i x' hx => by
     rcases i with _ | _ | i
     ·exact ⟨_, rfl, by simp at hx; subst hx; rfl, by simp at hx; subst hx; rfl, fun _ => by simp at hx; exact hx.symm⟩
     ·exact ⟨_, rfl, by simp at hx; subst hx; rfl, by simp at hx; subst hx; rfl, fun h => by simp at hx; subst hx; exact absurd h hn⟩
     ·simp at hx)
    exact J2.made 15 1 rfl rfl rfl rfl rfl rfl rfl rfl rfl rfl hd hb q hn
   rintro x σ W9 ⟨⟨lo1, KA⟩, ⟨lo2, KB⟩, _⟩ _ _ _ B9
   simp only [slotsOf, finX, nval, nvalN, nvalA, Nat.reduceBEq, cond_true, cond_false, putAll, Act.put, List.setIfInBounds_toArray, List.set_cons_succ, List.set_cons_zero]
   simp only [List.drop_succ_cons, List.drop_zero]
   generalize blkOf (σ 11) = d1 at *
   generalize blkOf (σ 19) = d2 at *
   have K2b := K2.out.below B9.out
   have lt2 := K2.out.lt
   have BB := B.out.trans (B9.out.mono B.out.size)
   have f0 := K2b.free 0
   have g0 := K2b.at_ 0 _ rfl
   have f1 := K2b.free 1
   have g1 := K2b.at_ 1 _ rfl
   have f2 := K2b.free 2
   have g2 := K2b.at_ 2 _ rfl
   have f3 := K2b.free 3
   have g3 := K2b.at_ 3 _ rfl
   have f4 := K2b.free 4
   have g4 := K2b.at_ 4 _ rfl
   have f5 := K2b.free 5
   have g5 := K2b.at_ 5 _ rfl
   have KF : Hid (Blk (setAll W9 b2 0 (#[.slice (some ⟨d1, 0, none⟩) m1 x.1.1, .slice (some ⟨d2, 0, none⟩) m2 x.2.1, .string h0, .string h1, .string h2, .string h3] : Array Value).toList) b2 #[.slice (some ⟨d1, 0, none⟩) m1 x.1.1, .slice (some ⟨d2, 0, none⟩) m2 x.2.1, .string h0, .string h1, .string h2, .string h3] 32) := Lib.hid (K2b.setA 0 _)
   have BF : Hid (Below w.heap.size w (setAll W9 b2 0 (#[.slice (some ⟨d1, 0, none⟩) m1 x.1.1, .slice (some ⟨d2, 0, none⟩) m2 x.2.1, .string h0, .string h1, .string h2, .string h3] : Array Value).toList)) := Lib.hid (BB.trans (below_setA W9 w.heap.size b2 (by have := HB.out; omega) 0 _))
   have SA2 := Lib.hid (SA.out _ d1 x.1.1 x.1.2 (KA.out.elseA (show d1 ≠ b2 by have h := lo1; first | omega | (have := lo1.out; omega)) 0 (#[.slice (some ⟨d1, 0, none⟩) m1 x.1.1, .slice (some ⟨d2, 0, none⟩) m2 x.2.1, .string h0, .string h1, .string h2, .string h3] : Array Value).toList))
   have SB2 := Lib.hid (SB.out _ d2 x.2.1 x.2.2 (KB.out.elseA (show d2 ≠ b2 by have h := lo2; first | omega | (have := lo2.out; omega)) 0 (#[.slice (some ⟨d1, 0, none⟩) m1 x.1.1, .slice (some ⟨d2, 0, none⟩) m2 x.2.1, .string h0, .string h1, .string h2, .string h3] : Array Value).toList))
   clear K2b BB KA lo1 KB lo2
   dsimp only [List.toList_toArray, setAll, Nat.zero_add, Nat.reduceAdd] at KF BF SA2 SB2
   gi_wp2
   go_wp2
   have c0 := KF.out.at_ 0 _ rfl
   have c1 := KF.out.at_ 1 _ rfl
   have c2 := KF.out.at_ 2 _ rfl
   have c3 := KF.out.at_ 3 _ rfl
   have c4 := KF.out.at_ 4 _ rfl
   have c5 := KF.out.at_ 5 _ rfl
   exact bodyPost_ret (v := .agg #[.slice (some ⟨d1, 0, none⟩) m1 x.1.1, .slice (some ⟨d2, 0, none⟩) m2 x.2.1, .string h0, .string h1, .string h2, .string h3]) (by simp [results, Tryz.results14, go_sem, c0, c1, c2, c3, c4, c5]) rfl ⟨_, _, by rw [E0.out, E1.out, E2.out, E3.out], HQ.out _ _ _ SA2.out SB2.out, BF.out⟩

end Go.Proofs.YthhkmihjnnfpgaaGreatDoor
