/- Best: the walk. -/
import Derived.Test.YthhkmihjnnfpgaaGreatDoorGCorS
namespace Go.Proofs.YthhkmihjnnfpgaaGreatDoor
set_option linter.all false
open Go.RowKit

attribute [local go_sem] Oper.semAt_some

set_option maxRecDepth 100000 in
set_option maxHeartbeats 8000000 in
theorem best_any (q : CQ) (ok : OkQ q) (sl sr : Value) (w0 : World) (he : Env w0) (hq : QAt w0 sl sr q) :
  Calls Tryz.prog 15 #[.agg #[sl, sr, .string (qT (2 * q.ch)), .string (qT (2 * q.mi)), .string (qT (2 * q.ga)), .string (qT (2 * q.re))]] w0 fun e w' => ∃ v, e = .returned (.tuple #[.agg #[v, .string (qT (rst q 0 0))], .int .i64 0]) ∧ SRow stC 3 56 w' w0.heap.size v (way q 0 0) ∧ Below w0.heap.size w0 w' := by
 have hll := ok.hl
 have hrr := ok.hr
 have HQ := Lib.hid hq
 obtain ⟨A1, n1, rfl, _⟩ := hq.l
 obtain ⟨A2, n2, rfl, _⟩ := hq.r
 have HE := Lib.hid he
 have OK := Lib.hid ok
 clear hq he ok
 refine callsIn_wide (n := 9) |>.1 ?_
 refine callsIn_of_wp_marks Tryz.func15 rfl trivial ?_ rfl
 simp only [Tryz.ntmps15, List.size_toArray, List.length_cons, List.length_nil, Nat.reduceAdd, Nat.reduceSub, Array.replicate_succ, Array.replicate_zero, List.push_toArray, List.append_toArray, List.nil_append, List.cons_append]
 refine wpIn_wide.2 ?_
 go_upto_region 1 with (fail)
 have kq := Blk.fresh w0 #[.slice A1 q.L.length n1, .slice A2 q.R.length n2, .string (qT (2 * q.ch)), .string (qT (2 * q.mi)), .string (qT (2 * q.ga)), .string (qT (2 * q.re))] 32
 have qq := below_new w0 (.cells #[.slice A1 q.L.length n1, .slice A2 q.R.length n2, .string (qT (2 * q.ch)), .string (qT (2 * q.mi)), .string (qT (2 * q.ga)), .string (qT (2 * q.re))] 32)
 have hsz : (w0.alloc (.cells #[.slice A1 q.L.length n1, .slice A2 q.R.length n2, .string (qT (2 * q.ch)), .string (qT (2 * q.mi)), .string (qT (2 * q.ga)), .string (qT (2 * q.re))] 32)).heap.size = w0.heap.size + 1 := by simp
 generalize (w0.alloc (.cells #[.slice A1 q.L.length n1, .slice A2 q.R.length n2, .string (qT (2 * q.ch)), .string (qT (2 * q.mi)), .string (qT (2 * q.ga)), .string (qT (2 * q.re))] 32)) = W1 at *
 have kR := Blk.fresh W1 #[.slice none 0 0, .string ⟨#[]⟩] 36
 have qR := below_new W1 (.cells #[.slice none 0 0, .string ⟨#[]⟩] 36)
 have hsR : (W1.alloc (.cells #[.slice none 0 0, .string ⟨#[]⟩] 36)).heap.size = W1.heap.size + 1 := by simp
 have kq1 := kq.below qR
 have bb1 := qq.trans (qR.mono qq.size)
 have HQ1 := Lib.hid (HQ.out.below bb1)
 have HE1 := Lib.hid (HE.out.below bb1)
 generalize (W1.alloc (.cells #[.slice none 0 0, .string ⟨#[]⟩] 36)) = W2 at *
 obtain ⟨bq, hbq⟩ : ∃ b, w0.heap.size = b := ⟨_, rfl⟩
 obtain ⟨bR, hbR⟩ : ∃ b, w0.heap.size + 1 = b := ⟨_, rfl⟩
 rw [hsz, hbR] at kR
 rw [hbR, hbq]
 rw [hbq] at kq1
 have KQ := Lib.hid kq1
 have KR := Lib.hid kR
 have BB := Lib.hid bb1
 have HS : Hid (w0.heap.size = bq ∧ bR = bq + 1 ∧ W2.heap.size = bR + 1) := Lib.hid (by omega)
 have y0 := kq1.at_ 0 _ rfl
 have y1 := kq1.at_ 1 _ rfl
 have y2 := kq1.at_ 2 _ rfl
 have y3 := kq1.at_ 3 _ rfl
 have y4 := kq1.at_ 4 _ rfl
 have y5 := kq1.at_ 5 _ rfl
 have HCK := Lib.hid (check_ok q OK.out _ _ W2 HE1.out HQ1.out)
 clear kq qq hsz kR qR hsR kq1 bb1 hbq hbR
 go_upto_region 4 with (first
  | (go_at_call 44; with_reducible refine HCK.out.mono ?_; rintro e W3 ⟨rfl, q3⟩)
  | fail "arm")
 have K3 := KQ.out.below q3
 have z0 := K3.at_ 0 _ rfl
 have z1 := K3.at_ 1 _ rfl
 have z2 := K3.at_ 2 _ rfl
 have z3 := K3.at_ 3 _ rfl
 have z4 := K3.at_ 4 _ rfl
 have z5 := K3.at_ 5 _ rfl
 have HRS := Lib.hid (rests_any q OK.out _ _ W3 (HE1.out.below q3) (HQ1.out.below q3))
 have Q3 := Lib.hid q3
 clear y0 y1 y2 y3 y4 y5 HCK K3 q3
 go_upto_region 5 with (first
  | (go_at_call 48; with_reducible refine HRS.out.mono ?_; rintro e W4 ⟨ob, rb, rfl, hrb, htab, hlo, hlr, q4⟩)
  | fail "arm")
 clear z0 z1 z2 z3 z4 z5 HRS
 have q34 := Q3.out.trans (q4.mono Q3.out.size)
 have hbd := rst_bdQ q OK.out 0 0 (Nat.zero_le _) (Nat.zero_le _)
 have HRT := Lib.hid (cright_any (rst q 0 0) (by omega) W4 (HE1.out.below q34))
 have l0 : 0 < rb.length := by omega
 have c0 := htab.cell1 0 l0
 have c1 : W4.cell? ⟨rb[0], 0, none⟩ = some (.string (qT (rst q 0 0))) := htab.cell2 0 0 l0 (by omega)
 have QQ := Lib.hid q34
 have TAB := Lib.hid htab
 have hsep : Hid ((bR < ob ∧ ob < W4.heap.size) ∧ ∀ g ∈ rb, bR < g ∧ g < W4.heap.size) := Lib.hid (by
  have h1 := htab.lt1
  have h2 := HS.out
  have h3 := Q3.out.size
  refine ⟨by omega, fun g hg => ?_⟩
  have h4 := hlr g hg
  have h5 := htab.lt2 g hg
  omega)
 have HRB := Lib.hid hrb
 have tN1 : (0 : Int) < (q.L.length : Int) + 1 := by omega
 have tN2 : (0 : Int) < (q.R.length : Int) + 1 := by omega
 clear htab hlo hlr q4 q34 Q3 hbd
 go_upto_region 8 with (first
  | (go_at_call 49; with_reducible refine (HRT.out _ (Below.refl _ _)).mono ?_; rintro e W5 ⟨rfl, q5⟩)
  | fail "arm")
 have h5 := QQ.out.trans (q5.mono QQ.out.size)
 have tab5 := TAB.out.below q5
 have hs5 := q5.size
 have kq5 := KQ.out.below h5
 have kR5 := KR.out.below h5
 have bb5 := BB.out.trans (h5.mono BB.out.size)
 clear c0 c1 tN1 tN2 HRT q5 h5 KQ KR BB TAB QQ
 have SEP := hsep
 clear hsep
 go_upto_region 9 with (fail)
 have kO := Blk.fresh W5 #[.slice none 0 0, .string (qT (rst q 0 0))] 36
 have qO := below_new W5 (.cells #[.slice none 0 0, .string (qT (rst q 0 0))] 36)
 have hsO : (W5.alloc (.cells #[.slice none 0 0, .string (qT (rst q 0 0))] 36)).heap.size = W5.heap.size + 1 := by simp
 have tab6 := tab5.below qO
 have kq6 := kq5.below qO
 have kR6 := kR5.below qO
 have bb6 := bb5.trans (qO.mono bb5.size)
 generalize (W5.alloc (.cells #[.slice none 0 0, .string (qT (rst q 0 0))] 36)) = W6 at *
 obtain ⟨bO, hbO⟩ : ∃ b, W5.heap.size = b := ⟨_, rfl⟩
 rw [hbO] at kO hsO hs5
 rw [hbO]
 have S6 : Hid (StB w0 bq bR bO W6.heap.size (W6.heap.size + 1) ob rb q (.slice A1 q.L.length n1) (.slice A2 q.R.length n2) (qT (rst q 0 0)) [] 0 0 (.slice none 0 0) [] ((W6.alloc (.cells #[.int .i64 0] 3)).alloc (.cells #[.int .i64 0] 3))) := Lib.hid
  (have p1 := below_new W6 (.cells #[.int .i64 0] 3)
  have p2 := below_new (W6.alloc (.cells #[.int .i64 0] 3)) (.cells #[.int .i64 0] 3)
  have p := p1.trans (p2.mono p1.size)
  have kj := Blk.fresh (W6.alloc (.cells #[.int .i64 0] 3)) #[.int .i64 0] 3
  ⟨bb6.trans (p.mono bb6.size), kq6.below p, kR6.below p, kO.below p, SRow.nil _ _, (Blk.fresh W6 _ _).below p2, by rw [World.size_alloc] at kj; exact kj, tab6.below p, trivial,
   ⟨Nat.le_of_eq HS.out.1, by have := HS.out; omega, SEP.out.1.1, by have := SEP.out.1.2; omega⟩, fun g hg => by have := SEP.out.2 g hg; omega, by omega, by omega, by omega⟩)
 clear kO qO hsO tab6 kq6 kR6 bb6 hs5 kq5 kR5 bb5 tab5 hbO
 go_wp2
 generalize ((W6.alloc (.cells #[.int .i64 0] 3)).alloc (.cells #[.int .i64 0] 3)) = W7 at *
 refine wp_loop_ghost_k (fun n a' W => ∃ (bi bj i j : Nat) (v : Value) (pre : List (Nat × Nat × Nat)) (ds : List Deferred), (∃ fv : Nat → Value, a' = { tmps := (.agg #[.slice A1 q.L.length n1, .slice A2 q.R.length n2, .string (qT (2 * q.ch)), .string (qT (2 * q.mi)), .string (qT (2 * q.ga)), .string (qT (2 * q.re))] :: .pointer (some ⟨bq, 0, none⟩) :: .pointer (some ⟨bR, 0, none⟩) :: .int .i64 0 :: .int .i64 0 :: .slice (some ⟨ob, 0, none⟩) (q.L.length + 1) (q.L.length + 1) :: .string (qT (rst q 0 0)) :: .int .i64 0 :: .pointer (some ⟨bO, 0, none⟩) :: .pointer (some ⟨bi, 0, none⟩) :: .pointer (some ⟨bj, 0, none⟩) :: fv 11 :: fv 12 :: fv 13 :: fv 14 :: fv 15 :: fv 16 :: fv 17 :: fv 18 :: fv 19 :: fv 20 :: fv 21 :: fv 22 :: fv 23 :: fv 24 :: fv 25 :: fv 26 :: fv 27 :: fv 28 :: fv 29 :: fv 30 :: fv 31 :: fv 32 :: fv 33 :: fv 34 :: fv 35 :: fv 36 :: fv 37 :: fv 38 :: fv 39 :: fv 40 :: fv 41 :: fv 42 :: fv 43 :: fv 44 :: fv 45 :: fv 46 :: fv 47 :: fv 48 :: fv 49 :: fv 50 :: fv 51 :: fv 52 :: fv 53 :: fv 54 :: fv 55 :: fv 56 :: fv 57 :: fv 58 :: fv 59 :: fv 60 :: fv 61 :: fv 62 :: fv 63 :: fv 64 :: fv 65 :: fv 66 :: []).toArray, defers := ds }) ∧ left q i j = n ∧ i ≤ q.L.length ∧ j ≤ q.R.length ∧ pre ++ way q i j = way q 0 0 ∧ StB w0 bq bR bO bi bj ob rb q (.slice A1 q.L.length n1) (.slice A2 q.R.length n2) (qT (rst q 0 0)) pre i j v ds W) (left q 0 0) ?_ ?_
 ·exact ⟨_, _, 0, 0, _, [], [], ex_frame (by kernel_rfl), rfl, Nat.zero_le _, Nat.zero_le _, rfl, S6.out⟩
 clear S6
 rintro n a' W ⟨bi, bj, i, j, v, pre, ds, ⟨fv, rfl⟩, hn, hi, hj, hway, hS⟩ J K hJ hK
 obtain ⟨vA, vc, rfl⟩ := hS.row.len_eval
 have S := Lib.hid hS
 have yi := hS.ki.at_ 0 _ rfl
 have yj := hS.kj.at_ 0 _ rfl
 have y0 := hS.kq.at_ 0 _ rfl
 have y1 := hS.kq.at_ 1 _ rfl
 have HW := Lib.hid hway
 have HN := Lib.hid hn
 clear hS hway hn
 go_upto_region 10 with (fail)
 rename_i Kr hKr Kc hKc
 have KEY : (i < q.L.length ∨ j < q.R.length) → ∀ (A : Act), (∃ fv : Nat → Value, A = { tmps := (.agg #[.slice A1 q.L.length n1, .slice A2 q.R.length n2, .string (qT (2 * q.ch)), .string (qT (2 * q.mi)), .string (qT (2 * q.ga)), .string (qT (2 * q.re))] :: .pointer (some ⟨bq, 0, none⟩) :: .pointer (some ⟨bR, 0, none⟩) :: .int .i64 0 :: .int .i64 0 :: .slice (some ⟨ob, 0, none⟩) (q.L.length + 1) (q.L.length + 1) :: .string (qT (rst q 0 0)) :: .int .i64 0 :: .pointer (some ⟨bO, 0, none⟩) :: .pointer (some ⟨bi, 0, none⟩) :: .pointer (some ⟨bj, 0, none⟩) :: fv 11 :: fv 12 :: fv 13 :: fv 14 :: fv 15 :: fv 16 :: fv 17 :: fv 18 :: fv 19 :: fv 20 :: fv 21 :: fv 22 :: fv 23 :: fv 24 :: fv 25 :: fv 26 :: fv 27 :: fv 28 :: fv 29 :: fv 30 :: fv 31 :: fv 32 :: fv 33 :: fv 34 :: fv 35 :: fv 36 :: fv 37 :: fv 38 :: fv 39 :: fv 40 :: fv 41 :: fv 42 :: fv 43 :: fv 44 :: fv 45 :: fv 46 :: fv 47 :: fv 48 :: fv 49 :: fv 50 :: fv 51 :: fv 52 :: fv 53 :: fv 54 :: fv 55 :: fv 56 :: fv 57 :: fv 58 :: fv 59 :: fv 60 :: fv 61 :: fv 62 :: fv 63 :: fv 64 :: fv 65 :: fv 66 :: []).toArray, defers := ds }) → Kr A W := by
  intro hne
  clear yi yj y0 y1 hKc
  clear fv
  rintro A ⟨fv, rfl⟩
  refine hKr _ _ ?_
  clear hKr
  have a0 := S.out.kq.at_ 0 _ rfl
  have a1 := S.out.kq.at_ 1 _ rfl
  have a2 := S.out.kq.at_ 2 _ rfl
  have a3 := S.out.kq.at_ 3 _ rfl
  have a4 := S.out.kq.at_ 4 _ rfl
  have a5 := S.out.kq.at_ 5 _ rfl
  have yi := S.out.ki.at_ 0 _ rfl
  have yj := S.out.kj.at_ 0 _ rfl
  go_wp2_with (first
   | (go_at_call 50; refine (good_make q _ _ _ _ _ i j _).mono ?_; rintro e W2 ⟨rfl, qb, hsz2, k1, k2, k3, k4⟩)
   | fail "arm")
  clear yi yj a0 a1 a2 a3 a4 a5
  have hS2 := S.out.below qb
  have hlt0 : bO < W.heap.size := S.out.kO.lt
  have hlti := S.out.ki.lt
  have hltj := S.out.kj.lt
  have hs1 := S.out.s1
  have hs3 := S.out.s3
  have hs4 := S.out.s4
  have hs0 := S.out.bb.size
  have S0 := S
  clear S0 qb
  obtain ⟨bw, hbw⟩ : ∃ b, W.heap.size = b := ⟨_, rfl⟩
  rw [hbw] at k1 k2 k3 k4 hsz2 hlt0 hlti hltj hs0
  simp only [hbw]
  clear hbw
  have hW2s : w0.heap.size ≤ W2.heap.size := hS2.bb.size
  rw [show q.L.length + 1 = rb.length from HRB.out.symm] at k2
  have hStG : StG w0 bw (bw + 1) (bw + 2) (bw + 3) ob rb q (.slice A1 q.L.length n1) (.slice A2 q.R.length n2) i j W2 := ⟨KeptC.of_bb hS2.bb, hs0, k1, k2, k3, k4, hS2.tab⟩
  have hM : FarM w0 (fun g t => g = bO ∨ g = bi ∨ g = bj ∨ (bO < g ∧ t = 56)) ([bw, bw + 1, bw + 2, bw + 3, ob] ++ rb) [32, 99, 3, 71, 28] := by
   refine ⟨fun g t h => by omega, fun g hg t ht h => ?_⟩
   have h2 : t ≠ 56 := by
    simp only [List.mem_cons, List.not_mem_nil, or_false] at ht
    rcases ht with rfl | rfl | rfl | rfl | rfl <;> decide
   have h1 : g = bO ∨ g = bi ∨ g = bj := by
    rcases h with h | h | h | ⟨_, h⟩
    ·exact .inl h
    ·exact .inr (.inl h)
    ·exact .inr (.inr h)
    ·exact absurd h h2
   rcases List.mem_append.1 hg with hg | hg
   ·simp only [List.mem_cons, List.not_mem_nil, or_false] at hg
    omega
   ·have := hs3 g hg
    omega
  have hMn : ∀ g t, W2.heap.size ≤ g → t ∈ ([32, 3, 138] : List TypeId) → ¬ (g = bO ∨ g = bi ∨ g = bj ∨ (bO < g ∧ t = 56)) := fun g t hg ht h => by
   have h2 : t ≠ 56 := by
    simp only [List.mem_cons, List.not_mem_nil, or_false] at ht
    rcases ht with rfl | rfl | rfl <;> decide
   rcases h with h | h | h | ⟨_, h⟩
   ·omega
   ·omega
   ·omega
   ·exact h2 h
  have hI : OwnFrom W2.heap.size (fun (l : List (SK q i j)) V => l = [] ∧ StB w0 bq bR bO bi bj ob rb q (.slice A1 q.L.length n1) (.slice A2 q.R.length n2) (qT (rst q 0 0)) pre i j (.slice vA pre.length vc) ds V ∧ KeepsLow W2.heap.size W2 V) := fun s A B row h hg hr => ⟨h.1, StB.own rfl hW2s hS2.mrk s A B row h.2 hg hr⟩
  have hIx : ∀ c : Code, OwnFrom W2.heap.size (fun (l : List (SK q i j)) V => ∃ (x : SK q i j) (v : Value), l = [x] ∧ c = .exit 2 ∧ StB w0 bq bR bO bi bj ob rb q (.slice A1 q.L.length n1) (.slice A2 q.R.length n2) (qT (rst q 0 0)) (pre ++ [(x.k, i, j)]) (nxI x.k i) (nxJ x.k j) v ds V ∧ KeepsLow W2.heap.size W2 V) := fun c s A B row h hg hr => by
   obtain ⟨x, v, h1, h2, h3⟩ := h
   exact ⟨x, v, h1, h2, StB.own rfl hW2s hS2.mrk s A B row h3 hg hr⟩
  refine wide_loop (n := 9) (gf := 79) (lb := #[.pointer (some ⟨bw, 0, none⟩), .pointer (some ⟨bw + 2, 0, none⟩), .pointer (some ⟨bw + 3, 0, none⟩), .pointer (some ⟨bw + 1, 0, none⟩)]) rfl (enters_of Tryz.func79 (by kernel_rfl) rfl)
   (good_stops (9 - 1) q OK.out _ _ i j hi hj w0 HE.out HQ.out bw (bw + 1) (bw + 2) (bw + 3) ob rb HRB.out (fun a b ha hb => by have := rst_bdQ q OK.out a b ha hb; omega) _ hM W2 hMn hStG) (fun h k => KeptC.trans h k) (fun V o o' h ho => KeptC.put _ h ho) (fun _ => rfl)
   (fun l V => l = [] ∧ StB w0 bq bR bO bi bj ob rb q (.slice A1 q.L.length n1) (.slice A2 q.R.length n2) (qT (rst q 0 0)) pre i j (.slice vA pre.length vc) ds V ∧ KeepsLow W2.heap.size W2 V)
   (fun c l V => ∃ (x : SK q i j) (v : Value), l = [x] ∧ c = .exit 2 ∧ StB w0 bq bR bO bi bj ob rb q (.slice A1 q.L.length n1) (.slice A2 q.R.length n2) (qT (rst q 0 0)) (pre ++ [(x.k, i, j)]) (nxI x.k i) (nxJ x.k j) v ds V ∧ KeepsLow W2.heap.size W2 V)
   hI hIx ⟨rfl, hS2, KeepsLow.refl _ _⟩
   (fun l x a' V => ∃ (bs : Nat), (l = [] ∧ StB w0 bq bR bO bi bj ob rb q (.slice A1 q.L.length n1) (.slice A2 q.R.length n2) (qT (rst q 0 0)) pre i j (.slice vA pre.length vc) ds V ∧ KeepsLow W2.heap.size W2 V) ∧ Blk V bs #[.int .i64 x.k, .int .i64 i, .int .i64 j] 56 ∧ (Value.slice vA pre.length vc).ownBlock ≠ some bs ∧ bO < bs ∧ bs ≠ bi ∧ bs ≠ bj ∧ ∃ fv : Nat → Value, a' = { tmps := (.agg #[.slice A1 q.L.length n1, .slice A2 q.R.length n2, .string (qT (2 * q.ch)), .string (qT (2 * q.mi)), .string (qT (2 * q.ga)), .string (qT (2 * q.re))] :: .pointer (some ⟨bq, 0, none⟩) :: .pointer (some ⟨bR, 0, none⟩) :: .int .i64 0 :: .int .i64 0 :: .slice (some ⟨ob, 0, none⟩) (q.L.length + 1) (q.L.length + 1) :: .string (qT (rst q 0 0)) :: .int .i64 0 :: .pointer (some ⟨bO, 0, none⟩) :: .pointer (some ⟨bi, 0, none⟩) :: .pointer (some ⟨bj, 0, none⟩) :: .pointer (some ⟨bs, 0, none⟩) :: fv 12 :: fv 13 :: fv 14 :: fv 15 :: fv 16 :: fv 17 :: fv 18 :: fv 19 :: fv 20 :: fv 21 :: fv 22 :: fv 23 :: fv 24 :: fv 25 :: fv 26 :: fv 27 :: fv 28 :: fv 29 :: fv 30 :: fv 31 :: fv 32 :: fv 33 :: fv 34 :: fv 35 :: fv 36 :: fv 37 :: fv 38 :: fv 39 :: fv 40 :: fv 41 :: fv 42 :: fv 43 :: fv 44 :: fv 45 :: fv 46 :: fv 47 :: fv 48 :: fv 49 :: fv 50 :: fv 51 :: fv 52 :: fv 53 :: fv 54 :: fv 55 :: fv 56 :: fv 57 :: fv 58 :: fv 59 :: fv 60 :: fv 61 :: fv 62 :: fv 63 :: fv 64 :: fv 65 :: fv 66 :: []).toArray, defers := [] })
   (fun l x a' s A B row h hg hr => by
    obtain ⟨bs, h1, h2, h3⟩ := h
    exact ⟨bs, hI _ A B row h1 hg hr, ownFrom_cells (I := fun (_ : Unit) V => Blk V bs #[.int .i64 x.k, .int .i64 i, .int .i64 j] 56) (fun _ V V' h k _ => h.keptC k trivial) _ () A B row h2 hg hr, h3⟩)
   ?assign ?body ?done ?stop
  case assign =>
   rintro l2 l x V K ⟨h0, h1, h2⟩ hK
   have qv := below_new V (.cells #[.int .i64 x.k, .int .i64 i, .int .i64 j] 56)
   have kv := Blk.fresh V #[.int .i64 x.k, .int .i64 i, .int .i64 j] 56
   have hne : (Value.slice vA pre.length vc).ownBlock ≠ some V.heap.size := fun h => by have := (h1.row.own _ h).2.1; omega
   have g1 := h1.kO.lt
   have g2 := h1.ki.lt
   have g3 := h1.kj.lt
   dsimp only [encG]
   gi_wp2
   exact hK _ _ (keepsFrom_below qv) (KeptC.below qv) ⟨V.heap.size, ⟨h0, h1.below qv, h2.trans (KeepsLow.of (keepsFrom_below qv))⟩, kv, hne, g1, by omega, by omega, ex_frame (by kernel_rfl)⟩
  case body =>
   rintro l2 l x a' V ⟨bs, ⟨h0, h1, h2⟩, hb, hne2, hbs, hbs2, hbs3, fv, rfl⟩ hlen
   have d0 := hb.at_ 0 _ rfl
   have d1 := hb.at_ 1 _ rfl
   have d2 := hb.at_ 2 _ rfl
   have o0 := h1.kO.at_ 0 _ rfl
   have HNX : Hid (∀ w, Ret Tryz.prog w 51 #[.agg #[.int .i64 x.k, .int .i64 i, .int .i64 j]] (.tuple #[.int .i64 (nxI x.k i : Nat), .int .i64 (nxJ x.k j : Nat)])) := Lib.hid (fun w => by
    have h := cnext_any x.k i j (by omega) (by omega) w
    rw [nzI_nat, nzJ_nat x.k j x.h1] at h
    exact h)
   have H1 := Lib.hid h1
   have H2 := Lib.hid h2
   have HB := Lib.hid hb
   have hbase : bO + 1 ≤ V.heap.size := by have := h1.kO.lt; omega
   have hpl : pre.length ≤ 5000 := by
    have h := congrArg List.length HW.out
    have h3 := way_len q _ 0 0 rfl (Nat.zero_le _) (Nat.zero_le _)
    rw [List.length_append] at h
    unfold left at h3
    omega
   have HNE := Lib.hid hne2
   have HL0 := Lib.hid h0
   clear h1 h2 hb hne2 hI hIx hM hMn hStG hS2 h0
   gi_wp2_with (first
    | (gi_at_builtin; refine listIn_of (.inr ⟨l2, rfl⟩) rfl (by intro c hc; cases hc) ?_; refine app_row2 ElT stC_len stC_one rfl (.tmp 54) (.tmp 56) rfl V (bO + 1) hbase _ pre H1.out.row rfl hpl (x.k, i, j) rfl ?_; intro v' X1 r1 r2 r3 r4; refine ⟨rfl, ?_⟩; obtain ⟨vA', vc', hv'⟩ := r1.len_eval; rw [show (pre ++ [(x.k, i, j)]).length = pre.length + 1 from by simp] at hv'; subst hv'; have kO1 := H1.out.kO.keptC r3 (fun e => by have := (H1.out.row.own _ e).1; omega); have c0 := kO1.at_ 0 _ rfl; have f0 := kO1.free 0; have kb := (HB.out.keptC r3 HNE.out).one (show bs ≠ bO by omega) 0 (.slice vA' (pre.length + 1) vc'); have e0 := kb.at_ 0 _ rfl; have e1 := kb.at_ 1 _ rfl; have e2 := kb.at_ 2 _ rfl; have R1 := Lib.hid r1; have R2 := Lib.hid r2; have R3 := Lib.hid r3; have R4 := Lib.hid r4; clear r1 r2 r3 r4 kO1 kb d0 d1 d2 o0)
    | fail "arm")
   refine ⟨trivial, ?_⟩
   with_reducible refine (CallsIn.inRound l2 (callsIn_wide.2 (HNX.out _ _ (Below.refl _ _)))).mono ?_
   rintro e X2 ⟨rfl, q2⟩
   have ow := H1.out.ownNe
   have kiX := ((H1.out.ki.keptC R3.out (fun e => (ow _ e).2.1 rfl)).one (show bi ≠ bO by omega) 0 (.slice vA' (pre.length + 1) vc')).below q2
   have kjX := ((H1.out.kj.keptC R3.out (fun e => (ow _ e).2.2 rfl)).one (show bj ≠ bO by omega) 0 (.slice vA' (pre.length + 1) vc')).below q2
   have g0 := kiX.at_ 0 _ rfl
   have g1 := kiX.free 0
   have g2 := kjX.at_ 0 _ rfl
   have g3 := kjX.free 0
   have hij := hs4.2.2
   have QX := Lib.hid q2
   clear q2 kiX kjX ow
   gi_wp2
   have hst := StB.step (i' := nxI x.k i) (j' := nxJ x.k j) H1.out R1.out R2.out R3.out R4.out QX.out
   exact ⟨KeepsFrom.mono hst.2 (Nat.zero_le _), x, _, by rw [HL0.out]; rfl, rfl, hst.1, H2.out.trans (KeepsLow.of hst.2)⟩
  case done =>
   rintro D ys V hD rfl ⟨h0, _⟩ hK
   exact absurd h0 (gdS_ne q i j hi hj hne)
  case stop =>
   rintro D c l V hD hpre ⟨x, v, rfl, rfl, h1, h2⟩ hK
   have hfk := gdS_first q i j x hpre
   have hm := Marks.add hS2.mrk h1.mrk (by omega) hD hK
   have S9 := Lib.hid (h1.marks hm)
   have z0 := h1.ki.at_ 0 _ rfl
   have z1 := h1.kj.at_ 0 _ rfl
   have HFK := Lib.hid hfk
   clear h1 h2 hK hm hfk
   go_wp2
   have hks := x.h2
   have hxk := kinds_of x.h1
   have p1 := below_new V (.cells #[.int .i64 ((nxI x.k i : Nat) : Int)] 3)
   have p2 := below_new (V.alloc (.cells #[.int .i64 ((nxI x.k i : Nat) : Int)] 3)) (.cells #[.int .i64 ((nxJ x.k j : Nat) : Int)] 3)
   have p := p1.trans (p2.mono p1.size)
   have kj := Blk.fresh (V.alloc (.cells #[.int .i64 ((nxI x.k i : Nat) : Int)] 3)) #[.int .i64 ((nxJ x.k j : Nat) : Int)] 3
   rw [World.size_alloc] at kj
   have hbo := S9.out.kO.lt
   have hwy := way_cons q i j hi hj hne
   rw [← HFK.out] at hwy
   exact ⟨left q (nxI x.k i) (nxJ x.k j), by have := HN.out; have := left_nx hxk hks; omega, hJ _ _ _ ⟨V.heap.size, V.heap.size + 1, nxI x.k i, nxJ x.k j, v, pre ++ [(x.k, i, j)], _, ex_frame (by kernel_rfl), rfl, hks.1, hks.2.1, by rw [List.append_assoc, ← HW.out, hwy]; rfl,
    (S9.out.below p).newIJ ((Blk.fresh V _ _).below p2) kj ⟨hbo, by omega, by omega⟩⟩⟩
 clear hKr
 by_cases h1 : i < q.L.length
 ·have t1 : (i : Int) < (q.L.length : Int) := by omega
  go_wp2
  exact KEY (.inl h1) _ (ex_frame (by kernel_rfl))
 ·have t1 : ¬ (i : Int) < (q.L.length : Int) := by omega
  have t1' : decide ((i : Int) < (q.L.length : Int)) = false := decide_eq_false t1
  by_cases h2 : j < q.R.length
  ·have t2 : (j : Int) < (q.R.length : Int) := by omega
   go_wp2
   exact KEY (.inr h2) _ (ex_frame (by kernel_rfl))
  ·have t2 : ¬ (j : Int) < (q.R.length : Int) := by omega
   have t2' : decide ((j : Int) < (q.R.length : Int)) = false := decide_eq_false t2
   have HPW : Hid (pre = way q 0 0) := Lib.hid (by have := HW.out; rw [way_nil q i j (by omega), List.append_nil] at this; exact this)
   have o0 := S.out.kO.at_ 0 _ rfl
   have o1 := S.out.kO.at_ 1 _ rfl
   have r0 := S.out.kR.at_ 0 _ rfl
   have r1 := S.out.kR.at_ 1 _ rfl
   have f0 := S.out.kR.free 0
   have f1 := S.out.kR.free 1
   clear KEY hJ hK
   go_wp2
   have w1 := Wrote.set S.out.kR 0 (.slice vA pre.length vc)
   have w2 := Wrote.set (S.out.kR.set 0 (.slice vA pre.length vc)) 1 (.string (qT (rst q 0 0)))
   have hw := w1.trans w2
   have hs1 := S.out.s1
   have hs0 := S.out.bb.size
   have mk := S.out.mrk.kept (KeepsFrom.mono hw.keeps (Nat.zero_le _))
   have kR2 := (S.out.kR.set 0 (.slice vA pre.length vc)).set 1 (.string (qT (rst q 0 0)))
   have row2 := S.out.row.keptC hw.kept (fun g hg e => by have := (S.out.row.own g hg).1; omega)
   have bb2 := S.out.bb.trans (hw.below.mono (by omega))
   refine leaves_marks ds _ mk (fun w' hm => ?_)
   have kc : KeptC (fun _ _ => True) _ w' := fun g cs t fz _ e => hm.cells g cs t fz e
   have kR3 := kR2.keptC kc trivial
   have e0 := kR3.at_ 0 _ rfl
   have e1 := kR3.at_ 1 _ rfl
   have row3 := row2.keptC kc (fun _ _ => trivial)
   have bb3 := bb2.trans hm.below
   refine ⟨.tuple #[.agg #[.slice vA pre.length vc, .string (qT (rst q 0 0))], .int .i64 0], (by rw [results_cell_tmp Tryz.results15]; simp [go_sem, e0, e1]), _, rfl, ?_, bb3⟩
   rw [HPW.out] at row3 ⊢
   rcases row3 with r | ⟨d, c, r, a1, a2, a3⟩
   ·exact .inl r
   ·exact .inr ⟨d, c, r, a1, by omega, a3⟩

end Go.Proofs.YthhkmihjnnfpgaaGreatDoor
