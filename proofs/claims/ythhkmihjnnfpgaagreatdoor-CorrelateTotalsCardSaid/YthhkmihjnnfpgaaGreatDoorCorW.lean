/- Count: the walk. -/
import Derived.Test.YthhkmihjnnfpgaaGreatDoorCorV
namespace Go.Proofs.YthhkmihjnnfpgaaGreatDoor
set_option linter.all false
open Go.RowKit

attribute [local go_sem] Oper.semAt_some

set_option maxRecDepth 100000 in
set_option maxHeartbeats 8000000 in
theorem count_any (q : CQ) (ok : OkQ q) (sl sr : Value) (w0 : World) (he : Env w0) (hq : QAt w0 sl sr q) :
  Calls Tryz.prog 16 #[.agg #[sl, sr, .string (qT (2 * q.ch)), .string (qT (2 * q.mi)), .string (qT (2 * q.ga)), .string (qT (2 * q.re))]] w0 fun e w' => e = .returned (.tuple #[.string (canon (cnt q 0 0 : Nat)), .int .i64 0]) ∧ Below w0.heap.size w0 w' := by
 have hll := ok.hl
 have hrr := ok.hr
 have HQ := Lib.hid hq
 obtain ⟨A1, n1, rfl, _⟩ := hq.l
 obtain ⟨A2, n2, rfl, _⟩ := hq.r
 have HE := Lib.hid he
 have OK := Lib.hid ok
 clear hq he ok
 obtain ⟨zw, hzw⟩ : ∃ z, ((List.range (q.L.length + 1)).map (fun _ => Value.slice none 0 0)).toArray = z := ⟨_, rfl⟩
 have hm1 := run_mkv (P := Tryz.prog) (t := 105) (e := 106) (z := .slice none 0 0) (bytes := 24) Tryz.underlying105 (by kernel_rfl) rfl (by omega) (q.L.length + 1) (by omega) ((q.L.length : Int) + 1) (by omega)
 rw [hzw] at hm1
 have HZW := Lib.hid hzw
 clear hzw
 refine callsIn_wide (n := 9) |>.1 ?_
 refine callsIn_of_wp_marks Tryz.func16 rfl trivial ?_ rfl
 simp only [Tryz.ntmps16, List.size_toArray, List.length_cons, List.length_nil, Nat.reduceAdd, Nat.reduceSub, Array.replicate_succ, Array.replicate_zero, List.push_toArray, List.append_toArray, List.nil_append, List.cons_append]
 refine wpIn_wide.2 ?_
 go_upto_region 1 with (fail)
 have kq := Blk.fresh w0 #[.slice A1 q.L.length n1, .slice A2 q.R.length n2, .string (qT (2 * q.ch)), .string (qT (2 * q.mi)), .string (qT (2 * q.ga)), .string (qT (2 * q.re))] 32
 have qq := below_new w0 (.cells #[.slice A1 q.L.length n1, .slice A2 q.R.length n2, .string (qT (2 * q.ch)), .string (qT (2 * q.mi)), .string (qT (2 * q.ga)), .string (qT (2 * q.re))] 32)
 have hsz : (w0.alloc (.cells #[.slice A1 q.L.length n1, .slice A2 q.R.length n2, .string (qT (2 * q.ch)), .string (qT (2 * q.mi)), .string (qT (2 * q.ga)), .string (qT (2 * q.re))] 32)).heap.size = w0.heap.size + 1 := by simp
 generalize (w0.alloc (.cells #[.slice A1 q.L.length n1, .slice A2 q.R.length n2, .string (qT (2 * q.ch)), .string (qT (2 * q.mi)), .string (qT (2 * q.ga)), .string (qT (2 * q.re))] 32)) = W1 at *
 obtain ⟨bq, hbq⟩ : ∃ b, w0.heap.size = b := ⟨_, rfl⟩
 rw [hbq] at kq ⊢
 have KQ := Lib.hid kq
 have BB := Lib.hid qq
 have HS : Hid (w0.heap.size = bq ∧ W1.heap.size = bq + 1) := Lib.hid (by omega)
 have HQ1 := Lib.hid (HQ.out.below qq)
 have HE1 := Lib.hid (HE.out.below qq)
 have y0 := kq.at_ 0 _ rfl
 have y1 := kq.at_ 1 _ rfl
 have y2 := kq.at_ 2 _ rfl
 have y3 := kq.at_ 3 _ rfl
 have y4 := kq.at_ 4 _ rfl
 have y5 := kq.at_ 5 _ rfl
 have HCK := Lib.hid (check_ok q OK.out _ _ W1 HE1.out HQ1.out)
 clear kq qq hsz hbq
 go_upto_region 4 with (first
  | (go_at_call 44; with_reducible refine HCK.out.mono ?_; rintro e W3 ⟨rfl, q3⟩)
  | fail "arm")
 have K3 := KQ.out.below q3
 have z0 := K3.at_ 0 _ rfl
 have z1 := K3.at_ 1 _ rfl
 have z2 := K3.at_ 2 _ rfl
 have z3 := K3.at_ 3 _ rfl
 have z4 := K3.at_ 4 _ rfl
 have z5 := K3.at_ 5 _ rfl
 have HRS := Lib.hid (rests_any q OK.out _ _ W3 (HE1.out.below q3) (HQ1.out.below q3))
 have Q3 := Lib.hid q3
 clear y0 y1 y2 y3 y4 y5 HCK K3 q3
 go_upto_region 5 with (first
  | (go_at_call 48; with_reducible refine HRS.out.mono ?_; rintro e W4 ⟨ob, rb, rfl, hrb, htab, hlo, hlr, q4⟩)
  | fail "arm")
 clear z0 z1 z2 z3 z4 z5 HRS
 have q34 := Q3.out.trans (q4.mono Q3.out.size)
 have hsep : (bq < ob ∧ ob < W4.heap.size) ∧ ∀ g ∈ rb, bq < g ∧ g < W4.heap.size := by
  have h1 := htab.lt1
  have h2 := HS.out
  have h3 := Q3.out.size
  refine ⟨by omega, fun g hg => ?_⟩
  have h4 := hlr g hg
  have h5 := htab.lt2 g hg
  omega
 have kq4 := KQ.out.below q34
 have bb4 := BB.out.trans (q34.mono BB.out.size)
 have kwb := Blk.fresh W4 zw 106
 have q5 := below_new W4 (.cells zw 106)
 have hs5 : (W4.alloc (.cells zw 106)).heap.size = W4.heap.size + 1 := by simp
 go_upto_region 6 with (fail)
 have kwb6 := kwb
 generalize (W4.alloc (.cells zw 106)) = W5 at *
 obtain ⟨wb, hwb⟩ : ∃ b, W4.heap.size = b := ⟨_, rfl⟩
 obtain ⟨bw, hbw⟩ : ∃ b, W4.heap.size + 1 = b := ⟨_, rfl⟩
 have kw := Blk.fresh W5 #[.slice (some ⟨wb, 0, none⟩) (q.L.length + 1) (q.L.length + 1)] 105
 have q6 := below_new W5 (.cells #[.slice (some ⟨wb, 0, none⟩) (q.L.length + 1) (q.L.length + 1)] 105)
 have hs6 : (W5.alloc (.cells #[.slice (some ⟨wb, 0, none⟩) (q.L.length + 1) (q.L.length + 1)] 105)).heap.size = W5.heap.size + 1 := by simp
 rw [hbw, hwb]
 rw [hs5, hbw] at kw
 rw [hwb] at kwb6 q5
 have kq6 := (kq4.below (hwb ▸ q5)).below q6
 have p46 : Below W4.heap.size W4 _ := (hwb ▸ q5 : Below W4.heap.size W4 W5).trans (q6.mono (by omega))
 have bb6 := bb4.trans (p46.mono bb4.size)
 have tab6 := htab.below p46
 have kwb7 := kwb6.below q6
 clear kwb kwb6 q5 q6 kq4 bb4
 generalize (W5.alloc (.cells #[.slice (some ⟨wb, 0, none⟩) (q.L.length + 1) (q.L.length + 1)] 105)) = W6 at *
 have y0 := kq6.at_ 0 _ rfl
 rw [← hrb] at kw
 have S7 : Hid (StC w0 bq bw W6.heap.size ob wb rb.length rb (fun _ => 0) q (.slice A1 q.L.length n1) (.slice A2 q.R.length n2) (q.L.length : Int) (fun _ _ => .string ⟨#[]⟩) [] (W6.alloc (.cells #[.int .i64 (q.L.length : Int)] 3))) := Lib.hid (by
  have p := below_new W6 (.cells #[.int .i64 (q.L.length : Int)] 3)
  refine ⟨bb6.trans (p.mono bb6.size), kq6.below p, kw.below p, Blk.fresh W6 _ _, tab6.below p, TabS.nil ?_ _ _, trivial, ⟨Nat.le_of_eq HS.out.1, hsep.1.1, by omega, by omega, by omega⟩, fun g hg => by have := hsep.2 g hg; omega, fun p h1 h2 => by omega⟩
  rw [hrb, HZW.out]
  exact kwb7.below p)
 have HRB := Lib.hid hrb
 clear htab hlo hlr q4 q34 Q3 hsep KQ BB HQ1 HE1 hrb kw kq6 p46 bb6 tab6 kwb7 hwb hbw hs5 hs6
 go_upto_region 7 with (fail)
 clear y0 hm1
 generalize (W6.alloc (.cells #[.int .i64 (q.L.length : Int)] 3)) = W7 at *
 generalize W6.heap.size = bi at *
 have hm2 := run_mkv (P := Tryz.prog) (t := 106) (e := 40) (z := .string ⟨#[]⟩) (bytes := 16) Tryz.underlying106 (by kernel_rfl) rfl (by omega) (q.R.length + 1) (by omega) ((q.R.length : Int) + 1) (by omega)
 refine wp_loop_ghost_k (fun k a' wr => ∃ (bi : Nat) (rw_ : Nat → Nat) (ds : List Deferred) (x : Int), (∃ fv : Nat → Value, a' = { tmps := (.agg #[.slice A1 q.L.length n1, .slice A2 q.R.length n2, .string (qT (2 * q.ch)), .string (qT (2 * q.mi)), .string (qT (2 * q.ga)), .string (qT (2 * q.re))] :: .pointer (some ⟨bq, 0, none⟩) :: .string ⟨#[]⟩ :: .int .i64 0 :: .int .i64 0 :: .slice (some ⟨ob, 0, none⟩) (q.L.length + 1) (q.L.length + 1) :: .pointer (some ⟨bw, 0, none⟩) :: .pointer (some ⟨bi, 0, none⟩) :: fv 8 :: fv 9 :: fv 10 :: fv 11 :: fv 12 :: fv 13 :: fv 14 :: fv 15 :: fv 16 :: fv 17 :: fv 18 :: fv 19 :: fv 20 :: fv 21 :: fv 22 :: fv 23 :: fv 24 :: fv 25 :: fv 26 :: fv 27 :: fv 28 :: fv 29 :: fv 30 :: fv 31 :: fv 32 :: fv 33 :: fv 34 :: fv 35 :: fv 36 :: fv 37 :: fv 38 :: fv 39 :: fv 40 :: fv 41 :: fv 42 :: fv 43 :: fv 44 :: fv 45 :: fv 46 :: fv 47 :: fv 48 :: fv 49 :: fv 50 :: fv 51 :: fv 52 :: fv 53 :: fv 54 :: fv 55 :: fv 56 :: fv 57 :: fv 58 :: fv 59 :: fv 60 :: fv 61 :: fv 62 :: fv 63 :: fv 64 :: fv 65 :: fv 66 :: fv 67 :: fv 68 :: fv 69 :: fv 70 :: fv 71 :: fv 72 :: fv 73 :: fv 74 :: fv 75 :: fv 76 :: fv 77 :: fv 78 :: fv 79 :: fv 80 :: fv 81 :: fv 82 :: fv 83 :: fv 84 :: fv 85 :: fv 86 :: fv 87 :: fv 88 :: fv 89 :: fv 90 :: fv 91 :: fv 92 :: fv 93 :: fv 94 :: fv 95 :: fv 96 :: fv 97 :: fv 98 :: fv 99 :: fv 100 :: fv 101 :: fv 102 :: fv 103 :: fv 104 :: fv 105 :: fv 106 :: fv 107 :: fv 108 :: fv 109 :: fv 110 :: fv 111 :: fv 112 :: fv 113 :: []).toArray, defers := ds }) ∧ k ≤ q.L.length + 1 ∧ x + 1 = (k : Int) ∧ StC w0 bq bw bi ob wb k rb rw_ q (.slice A1 q.L.length n1) (.slice A2 q.R.length n2) x (wayT q k 0) ds wr) (q.L.length + 1) ?_ ?_
 ·exact ⟨bi, _, [], _, ex_frame (by kernel_rfl), Nat.le_refl _, by omega, HRB.out ▸ (S7.out.tabC (fun p r h1 h2 _ => by omega))⟩
 clear S7
 clear bi
 rintro k a' wr ⟨bi, rw_, ds, x, ⟨fv, rfl⟩, hk, hx, hS⟩ J K hJ hK
 have S := Lib.hid hS
 have y0 := hS.ki.at_ 0 _ rfl
 have yq := hS.kq.at_ 1 _ rfl
 clear hS
 by_cases hk0 : k = 0
 ·subst hk0
  obtain rfl : x = -1 := by omega
  clear hJ hK hm2
  have l0 : 0 < rb.length := by rw [HRB.out]; omega
  have c0 := S.out.kw.at_ 0 _ rfl
  have c1 := S.out.ways.cell1 0 (Nat.le_refl _) l0
  have c2 : wr.cell? ⟨rw_ 0, 0, none⟩ = some (.string (canon (cnt q 0 0 : Nat))) := by
   have h := S.out.ways.cell2 0 0 (Nat.le_refl _) l0 (by omega)
   unfold wayT at h
   rw [if_pos (by omega)] at h
   exact h
  have tl : (0 : Int) < (rb.length : Int) := by omega
  have tr : (0 : Int) < ((q.R.length + 1 : Nat) : Int) := by omega
  have hcb := cnt_bdQ q OK.out 0 0 (Nat.zero_le _) (Nat.zero_le _)
  have hcs := cway_size (cnt q 0 0) (by omega)
  have HCK : Hid (∀ w, Calls Tryz.prog 53 #[.string (canon (cnt q 0 0 : Nat))] w fun e w' => e = .returned (.int .i64 0) ∧ w = w') := Lib.hid (fun w => by
   have h := check_any (canon (cnt q 0 0 : Nat)) w (by omega)
   have hml : (mdig (cnt q 0 0 : Nat)).length ≤ 200 := by
    have e : (canon (cnt q 0 0 : Nat)).size = (Lib.itoa (cnt q 0 0 : Nat)).length := by show (Lib.itoa (cnt q 0 0 : Nat)).toArray.size = _; simp
    rcases itoa_cases (cnt q 0 0 : Nat) with ⟨_, h2⟩ | ⟨h2, _⟩
    ·rw [h2] at e
     omega
    ·omega
   have hr : rightS (canon (cnt q 0 0 : Nat)).data.toList = true := (rightS_iff _).2 ⟨(cnt q 0 0 : Nat), rfl, hml⟩
   rw [if_pos hr] at h
   exact h)
  clear hcb hcs
  obtain ⟨cc, hcc⟩ : ∃ cc, canon (cnt q 0 0 : Nat) = cc := ⟨_, rfl⟩
  have HCC := Lib.hid hcc
  rw [hcc] at c2 HCK
  clear hcc
  go_wp2_with (first
   | (go_at_call 53; with_reducible refine (HCK.out _).mono ?_; rintro e w1 ⟨rfl, rfl⟩)
   | fail "arm")
  refine leaves_marks ds _ S.out.mrk (fun w' hm => ⟨_, results_tmp2 rfl _ _ _, (by rw [HCC.out]; rfl), S.out.bb.trans hm.below⟩)
 ·obtain ⟨i, rfl⟩ : ∃ i, k = i + 1 := ⟨k - 1, by omega⟩
  obtain rfl : x = (i : Int) := by omega
  have hi : i ≤ q.L.length := by omega
  have hpos : (0 : Int) ≤ (i : Int) := by omega
  clear hx hk0
  go_upto_region 9 with (fail)
  obtain ⟨zr, hzr⟩ : ∃ z, ((List.range (q.R.length + 1)).map (fun _ => Value.string ⟨#[]⟩)).toArray = z := ⟨_, rfl⟩
  have hm3 := hm2
  rw [hzr] at hm3
  have HZR := Lib.hid hzr
  have wpl : IntKind.i64.wrap ((q.R.length : Int) + 1) = (q.R.length : Int) + 1 := IntWalk.i64_in _ (by omega)
  have KW := S.out.kw
  have KI := Lib.hid S.out.ki
  have KQ := Lib.hid S.out.kq
  obtain ⟨N, hN⟩ : ∃ N, rb.length = N := ⟨_, rfl⟩
  rw [hN] at KW
  replace KW := Lib.hid KW
  have HN := Lib.hid hN
  have t3 : (i : Int) < (N : Int) := by have := HRB.out; omega
  clear y0 yq hzr hN hm2
  rename_i Kr hKr
  have KEY : ∀ (W : World) (A : Act) (rw_ : Nat → Nat), (∃ fv : Nat → Value, A = { tmps := (.agg #[.slice A1 q.L.length n1, .slice A2 q.R.length n2, .string (qT (2 * q.ch)), .string (qT (2 * q.mi)), .string (qT (2 * q.ga)), .string (qT (2 * q.re))] :: .pointer (some ⟨bq, 0, none⟩) :: .string ⟨#[]⟩ :: .int .i64 0 :: .int .i64 0 :: .slice (some ⟨ob, 0, none⟩) (q.L.length + 1) (q.L.length + 1) :: .pointer (some ⟨bw, 0, none⟩) :: .pointer (some ⟨bi, 0, none⟩) :: fv 8 :: fv 9 :: fv 10 :: fv 11 :: fv 12 :: fv 13 :: fv 14 :: fv 15 :: fv 16 :: fv 17 :: fv 18 :: fv 19 :: fv 20 :: fv 21 :: fv 22 :: fv 23 :: fv 24 :: fv 25 :: fv 26 :: fv 27 :: fv 28 :: fv 29 :: fv 30 :: fv 31 :: fv 32 :: fv 33 :: fv 34 :: fv 35 :: fv 36 :: fv 37 :: fv 38 :: fv 39 :: fv 40 :: fv 41 :: fv 42 :: fv 43 :: fv 44 :: fv 45 :: fv 46 :: fv 47 :: fv 48 :: fv 49 :: fv 50 :: fv 51 :: fv 52 :: fv 53 :: fv 54 :: fv 55 :: fv 56 :: fv 57 :: fv 58 :: fv 59 :: fv 60 :: fv 61 :: fv 62 :: fv 63 :: fv 64 :: fv 65 :: fv 66 :: fv 67 :: fv 68 :: fv 69 :: fv 70 :: fv 71 :: fv 72 :: fv 73 :: fv 74 :: fv 75 :: fv 76 :: fv 77 :: fv 78 :: fv 79 :: fv 80 :: fv 81 :: fv 82 :: fv 83 :: fv 84 :: fv 85 :: fv 86 :: fv 87 :: fv 88 :: fv 89 :: fv 90 :: fv 91 :: fv 92 :: fv 93 :: fv 94 :: fv 95 :: fv 96 :: fv 97 :: fv 98 :: fv 99 :: fv 100 :: fv 101 :: fv 102 :: fv 103 :: fv 104 :: fv 105 :: fv 106 :: fv 107 :: fv 108 :: fv 109 :: fv 110 :: fv 111 :: fv 112 :: fv 113 :: []).toArray, defers := ds }) → StC w0 bq bw bi ob wb i rb rw_ q (.slice A1 q.L.length n1) (.slice A2 q.R.length n2) (i : Int) (wayT q i (q.R.length + 1)) ds W → Kr A W := by
   clear KW KI KQ S HZR hm3
   clear wr rw_ fv
   rintro W A rw_ ⟨fv, rfl⟩ hS
   refine hKr _ _ ?_
   clear hKr
   have S := Lib.hid hS
   have yq := hS.kq.at_ 1 _ rfl
   clear hS
   go_upto_region 11 with (fail)
   have q5 := below_new W (.cells #[.int .i64 (q.R.length : Int)] 3)
   have k5 := Blk.fresh W #[.int .i64 (q.R.length : Int)] 3
   have S5 := Lib.hid (S.out.below q5)
   have hbj : bw < W.heap.size := S.out.kw.lt
   have hbi := S.out.ki.lt
   have hne5 : ∀ p, i ≤ p → p < rb.length → rw_ p ≠ W.heap.size := fun p h1 h2 e => by have := (S.out.ways.row p h1 h2).lt; omega
   clear yq q5 S
   generalize (W.alloc (.cells #[.int .i64 (q.R.length : Int)] 3)) = W5 at *
   generalize W.heap.size = bj at *
   refine wp_loop_ghost_k (fun m a' W => ∃ (bj : Nat) (ds : List Deferred) (x : Int), (∃ fv : Nat → Value, a' = { tmps := (.agg #[.slice A1 q.L.length n1, .slice A2 q.R.length n2, .string (qT (2 * q.ch)), .string (qT (2 * q.mi)), .string (qT (2 * q.ga)), .string (qT (2 * q.re))] :: .pointer (some ⟨bq, 0, none⟩) :: .string ⟨#[]⟩ :: .int .i64 0 :: .int .i64 0 :: .slice (some ⟨ob, 0, none⟩) (q.L.length + 1) (q.L.length + 1) :: .pointer (some ⟨bw, 0, none⟩) :: .pointer (some ⟨bi, 0, none⟩) :: .pointer (some ⟨bj, 0, none⟩) :: fv 9 :: fv 10 :: fv 11 :: fv 12 :: fv 13 :: fv 14 :: fv 15 :: fv 16 :: fv 17 :: fv 18 :: fv 19 :: fv 20 :: fv 21 :: fv 22 :: fv 23 :: fv 24 :: fv 25 :: fv 26 :: fv 27 :: fv 28 :: fv 29 :: fv 30 :: fv 31 :: fv 32 :: fv 33 :: fv 34 :: fv 35 :: fv 36 :: fv 37 :: fv 38 :: fv 39 :: fv 40 :: fv 41 :: fv 42 :: fv 43 :: fv 44 :: fv 45 :: fv 46 :: fv 47 :: fv 48 :: fv 49 :: fv 50 :: fv 51 :: fv 52 :: fv 53 :: fv 54 :: fv 55 :: fv 56 :: fv 57 :: fv 58 :: fv 59 :: fv 60 :: fv 61 :: fv 62 :: fv 63 :: fv 64 :: fv 65 :: fv 66 :: fv 67 :: fv 68 :: fv 69 :: fv 70 :: fv 71 :: fv 72 :: fv 73 :: fv 74 :: fv 75 :: fv 76 :: fv 77 :: fv 78 :: fv 79 :: fv 80 :: fv 81 :: fv 82 :: fv 83 :: fv 84 :: fv 85 :: fv 86 :: fv 87 :: fv 88 :: fv 89 :: fv 90 :: fv 91 :: fv 92 :: fv 93 :: fv 94 :: fv 95 :: fv 96 :: fv 97 :: fv 98 :: fv 99 :: fv 100 :: fv 101 :: fv 102 :: fv 103 :: fv 104 :: fv 105 :: fv 106 :: fv 107 :: fv 108 :: fv 109 :: fv 110 :: fv 111 :: fv 112 :: fv 113 :: []).toArray, defers := ds }) ∧ m ≤ q.R.length + 1 ∧ x + 1 = (m : Int) ∧ StC w0 bq bw bi ob wb i rb rw_ q (.slice A1 q.L.length n1) (.slice A2 q.R.length n2) (i : Int) (wayT q i m) ds W ∧ Blk W bj #[.int .i64 x] 3 ∧ bw < bj ∧ bj ≠ bi ∧ ∀ p, i ≤ p → p < rb.length → rw_ p ≠ bj) (q.R.length + 1) ?_ ?_
   ·exact ⟨bj, ds, _, ex_frame (by kernel_rfl), Nat.le_refl _, by omega, S5.out, k5, hbj, by omega, hne5⟩
   clear S5 k5 hbj hbi hne5
   clear bj ds fv
   rintro m a' W ⟨bj, ds, x, ⟨fv, rfl⟩, hm, hx, hS, hkj, hbj, hne, hne2⟩ J2 K2 hJ2 hK2
   have S := Lib.hid hS
   have KJ := Lib.hid hkj
   have NE2 := Lib.hid hne2
   have y0 := hS.ki.at_ 0 _ rfl
   have yj := hkj.at_ 0 _ rfl
   clear hS hkj hne2
   by_cases hm0 : m = 0
   ·subst hm0
    obtain rfl : x = -1 := by omega
    clear hJ2 hK2
    have w1 : IntKind.i64.wrap ((i : Int) - 1) = (i : Int) - 1 := IntWalk.i64_in _ (by omega)
    go_wp2
    have q8 := below_new W (.cells #[.int .i64 ((i : Int) - 1)] 3)
    exact ⟨i, by omega, hJ _ _ _ ⟨W.heap.size, rw_, ds, (i : Int) - 1, ex_frame (by kernel_rfl), by omega, by omega, (S.out.below q8).newI S.out.kw.lt (Blk.fresh W _ _)⟩⟩
   ·obtain ⟨j, rfl⟩ : ∃ j, m = j + 1 := ⟨m - 1, by omega⟩
    obtain rfl : x = (j : Int) := by omega
    have hj : j ≤ q.R.length := by omega
    have hpj : (0 : Int) ≤ (j : Int) := by omega
    clear hx hm0
    go_upto_region 13 with (fail)
    rename_i Kr2 hKr2
    have KEY2 : ∀ (W : World) (A : Act), (∃ fv : Nat → Value, A = { tmps := (.agg #[.slice A1 q.L.length n1, .slice A2 q.R.length n2, .string (qT (2 * q.ch)), .string (qT (2 * q.mi)), .string (qT (2 * q.ga)), .string (qT (2 * q.re))] :: .pointer (some ⟨bq, 0, none⟩) :: .string ⟨#[]⟩ :: .int .i64 0 :: .int .i64 0 :: .slice (some ⟨ob, 0, none⟩) (q.L.length + 1) (q.L.length + 1) :: .pointer (some ⟨bw, 0, none⟩) :: .pointer (some ⟨bi, 0, none⟩) :: .pointer (some ⟨bj, 0, none⟩) :: fv 9 :: fv 10 :: fv 11 :: fv 12 :: fv 13 :: fv 14 :: fv 15 :: fv 16 :: fv 17 :: fv 18 :: fv 19 :: fv 20 :: fv 21 :: fv 22 :: fv 23 :: fv 24 :: fv 25 :: fv 26 :: fv 27 :: fv 28 :: fv 29 :: fv 30 :: fv 31 :: fv 32 :: fv 33 :: fv 34 :: fv 35 :: fv 36 :: fv 37 :: fv 38 :: fv 39 :: fv 40 :: fv 41 :: fv 42 :: fv 43 :: fv 44 :: fv 45 :: fv 46 :: fv 47 :: fv 48 :: fv 49 :: fv 50 :: fv 51 :: fv 52 :: fv 53 :: fv 54 :: fv 55 :: fv 56 :: fv 57 :: fv 58 :: fv 59 :: fv 60 :: fv 61 :: fv 62 :: fv 63 :: fv 64 :: fv 65 :: fv 66 :: fv 67 :: fv 68 :: fv 69 :: fv 70 :: fv 71 :: fv 72 :: fv 73 :: fv 74 :: fv 75 :: fv 76 :: fv 77 :: fv 78 :: fv 79 :: fv 80 :: fv 81 :: fv 82 :: fv 83 :: fv 84 :: fv 85 :: fv 86 :: fv 87 :: fv 88 :: fv 89 :: fv 90 :: fv 91 :: fv 92 :: fv 93 :: fv 94 :: fv 95 :: fv 96 :: fv 97 :: fv 98 :: fv 99 :: fv 100 :: fv 101 :: fv 102 :: fv 103 :: fv 104 :: fv 105 :: fv 106 :: fv 107 :: fv 108 :: fv 109 :: fv 110 :: fv 111 :: fv 112 :: fv 113 :: []).toArray, defers := ds }) → StC w0 bq bw bi ob wb i rb rw_ q (.slice A1 q.L.length n1) (.slice A2 q.R.length n2) (i : Int) (entW q i j 0) ds W → Blk W bj #[.int .i64 j] 3 → Kr2 A W := by
     clear y0 yj S KJ
     clear W fv
     rintro W A ⟨fv, rfl⟩ hS hkj
     refine hKr2 _ _ ?_
     clear hKr2
     have y0 := hS.ki.at_ 0 _ rfl
     have yj := hkj.at_ 0 _ rfl
     have yq0 := hS.kq.at_ 0 _ rfl
     have yq1 := hS.kq.at_ 1 _ rfl
     have S := Lib.hid hS
     have KJ := Lib.hid hkj
     clear hS hkj
     go_upto_region 14 with (fail)
     rename_i Kr3 hKr3 Kc hKc
     have KEY3 : ∀ (W : World) (A : Act), (∃ fv : Nat → Value, A = { tmps := (.agg #[.slice A1 q.L.length n1, .slice A2 q.R.length n2, .string (qT (2 * q.ch)), .string (qT (2 * q.mi)), .string (qT (2 * q.ga)), .string (qT (2 * q.re))] :: .pointer (some ⟨bq, 0, none⟩) :: .string ⟨#[]⟩ :: .int .i64 0 :: .int .i64 0 :: .slice (some ⟨ob, 0, none⟩) (q.L.length + 1) (q.L.length + 1) :: .pointer (some ⟨bw, 0, none⟩) :: .pointer (some ⟨bi, 0, none⟩) :: .pointer (some ⟨bj, 0, none⟩) :: fv 9 :: fv 10 :: fv 11 :: fv 12 :: fv 13 :: fv 14 :: fv 15 :: fv 16 :: fv 17 :: fv 18 :: fv 19 :: fv 20 :: fv 21 :: fv 22 :: fv 23 :: fv 24 :: fv 25 :: fv 26 :: fv 27 :: fv 28 :: fv 29 :: fv 30 :: fv 31 :: fv 32 :: fv 33 :: fv 34 :: fv 35 :: fv 36 :: fv 37 :: fv 38 :: fv 39 :: fv 40 :: fv 41 :: fv 42 :: fv 43 :: fv 44 :: fv 45 :: fv 46 :: fv 47 :: fv 48 :: fv 49 :: fv 50 :: fv 51 :: fv 52 :: fv 53 :: fv 54 :: fv 55 :: fv 56 :: fv 57 :: fv 58 :: fv 59 :: fv 60 :: fv 61 :: fv 62 :: fv 63 :: fv 64 :: fv 65 :: fv 66 :: fv 67 :: fv 68 :: fv 69 :: fv 70 :: fv 71 :: fv 72 :: fv 73 :: fv 74 :: fv 75 :: fv 76 :: fv 77 :: fv 78 :: fv 79 :: fv 80 :: fv 81 :: fv 82 :: fv 83 :: fv 84 :: fv 85 :: fv 86 :: fv 87 :: fv 88 :: fv 89 :: fv 90 :: fv 91 :: fv 92 :: fv 93 :: fv 94 :: fv 95 :: fv 96 :: fv 97 :: fv 98 :: fv 99 :: fv 100 :: fv 101 :: fv 102 :: fv 103 :: fv 104 :: fv 105 :: fv 106 :: fv 107 :: fv 108 :: fv 109 :: fv 110 :: fv 111 :: fv 112 :: fv 113 :: []).toArray, defers := ds }) → StC w0 bq bw bi ob wb i rb rw_ q (.slice A1 q.L.length n1) (.slice A2 q.R.length n2) (i : Int) (entW q i j (cntS q i j [])) ds W → Blk W bj #[.int .i64 j] 3 → Kr3 A W := by
      clear y0 yj yq0 yq1 S KJ hKc
      clear W fv
      rintro W A ⟨fv, rfl⟩ hS hkj
      refine hKr3 _ _ ?_
      clear hKr3
      have y0 := hS.ki.at_ 0 _ rfl
      have yj := hkj.at_ 0 _ rfl
      have a0 := hS.kq.at_ 0 _ rfl
      have a1 := hS.kq.at_ 1 _ rfl
      have a2 := hS.kq.at_ 2 _ rfl
      have a3 := hS.kq.at_ 3 _ rfl
      have a4 := hS.kq.at_ 4 _ rfl
      have a5 := hS.kq.at_ 5 _ rfl
      have S := Lib.hid hS
      have KJ := Lib.hid hkj
      clear hS hkj
      go_wp2_with (first
       | (go_at_call 50; refine (good_make q _ _ _ _ _ i j _).mono ?_; rintro e W2 ⟨rfl, qb, hsz2, k1, k2, k3, k4⟩)
       | fail "arm")
      clear y0 yj a0 a1 a2 a3 a4 a5
      have hS2 := S.out.below qb
      have hj2 := KJ.out.below qb
      have l1 : i < rb.length := by rw [HRB.out]; omega
      have hltr := (S.out.ways.row i (Nat.le_refl _) l1).lt
      have hs1 := S.out.s1
      have hs3 := S.out.s3
      have hs4 := S.out.s4 i (Nat.le_refl _) l1
      have hs0 := S.out.bb.size
      have hri := NE2.out i (Nat.le_refl _) l1
      clear S KJ qb
      obtain ⟨bx, hbx⟩ : ∃ b, W.heap.size = b := ⟨_, rfl⟩
      rw [hbx] at k1 k2 k3 k4 hsz2 hltr hs0
      simp only [hbx]
      clear hbx
      have hW2s : w0.heap.size ≤ W2.heap.size := hS2.bb.size
      rw [show q.L.length + 1 = rb.length from HRB.out.symm] at k2
      have hStG : StG w0 bx (bx + 1) (bx + 2) (bx + 3) ob rb q (.slice A1 q.L.length n1) (.slice A2 q.R.length n2) i j W2 := ⟨KeptC.of_bb hS2.bb, hs0, k1, k2, k3, k4, hS2.tab⟩
      have hM : FarM w0 (fun g _ => g = rw_ i) ([bx, bx + 1, bx + 2, bx + 3, ob] ++ rb) [32, 99, 3, 71, 28] := by
       refine ⟨fun g t h => by omega, fun g hg t ht h => ?_⟩
       rcases List.mem_append.1 hg with hg | hg
       ·simp only [List.mem_cons, List.not_mem_nil, or_false] at hg
        omega
       ·have := hs3 g hg
        omega
      have hMn : ∀ g t, W2.heap.size ≤ g → t ∈ ([32, 3, 138] : List TypeId) → ¬ (g = rw_ i) := fun g t hg ht h => by omega
      have hI : OwnFrom W2.heap.size (fun (l : List (SK q i j)) V => (StC w0 bq bw bi ob wb i rb rw_ q (.slice A1 q.L.length n1) (.slice A2 q.R.length n2) (i : Int) (entW q i j (cntS q i j l)) ds V ∧ KeepsLow W2.heap.size W2 V) ∧ Blk V bj #[.int .i64 j] 3) := fun s A B row h hg hr =>
       ⟨StC.own rfl hW2s hS2.mrk (fun l => entW q i j (cntS q i j l)) s A B row h.1 hg hr, ownFrom_cells (I := fun (_ : Unit) X => Blk X bj #[.int .i64 j] 3) (fun _ X X' h k _ => h.keptC k trivial) _ () A B row h.2 hg hr⟩
      refine wide_loop (n := 9) (gf := 79) (lb := #[.pointer (some ⟨bx, 0, none⟩), .pointer (some ⟨bx + 2, 0, none⟩), .pointer (some ⟨bx + 3, 0, none⟩), .pointer (some ⟨bx + 1, 0, none⟩)]) rfl (enters_of Tryz.func79 (by kernel_rfl) rfl)
       (good_stops (9 - 1) q OK.out _ _ i j hi hj w0 HE.out HQ.out bx (bx + 1) (bx + 2) (bx + 3) ob rb HRB.out (fun a b ha hb => by have := rst_bdQ q OK.out a b ha hb; omega) (fun g _ => g = rw_ i) hM W2 hMn hStG) (fun h k => KeptC.trans h k) (fun V o o' h ho => KeptC.put _ h ho) (fun _ => rfl)
       (fun l V => (StC w0 bq bw bi ob wb i rb rw_ q (.slice A1 q.L.length n1) (.slice A2 q.R.length n2) (i : Int) (entW q i j (cntS q i j l)) ds V ∧ KeepsLow W2.heap.size W2 V) ∧ Blk V bj #[.int .i64 j] 3)
       (fun _ _ _ => False) hI (fun c s A B row h hg hr => h) ⟨⟨hS2, KeepsLow.refl _ _⟩, hj2⟩
       (fun l x a' V => ∃ (bs : Nat), ((StC w0 bq bw bi ob wb i rb rw_ q (.slice A1 q.L.length n1) (.slice A2 q.R.length n2) (i : Int) (entW q i j (cntS q i j l)) ds V ∧ KeepsLow W2.heap.size W2 V) ∧ Blk V bj #[.int .i64 j] 3) ∧ Blk V bs #[.int .i64 x.k, .int .i64 i, .int .i64 j] 56 ∧ ∃ fv : Nat → Value, a' = { tmps := (.agg #[.slice A1 q.L.length n1, .slice A2 q.R.length n2, .string (qT (2 * q.ch)), .string (qT (2 * q.mi)), .string (qT (2 * q.ga)), .string (qT (2 * q.re))] :: .pointer (some ⟨bq, 0, none⟩) :: .string ⟨#[]⟩ :: .int .i64 0 :: .int .i64 0 :: .slice (some ⟨ob, 0, none⟩) (q.L.length + 1) (q.L.length + 1) :: .pointer (some ⟨bw, 0, none⟩) :: .pointer (some ⟨bi, 0, none⟩) :: .pointer (some ⟨bj, 0, none⟩) :: .pointer (some ⟨bs, 0, none⟩) :: fv 10 :: fv 11 :: fv 12 :: fv 13 :: fv 14 :: fv 15 :: fv 16 :: fv 17 :: fv 18 :: fv 19 :: fv 20 :: fv 21 :: fv 22 :: fv 23 :: fv 24 :: fv 25 :: fv 26 :: fv 27 :: fv 28 :: fv 29 :: fv 30 :: fv 31 :: fv 32 :: fv 33 :: fv 34 :: fv 35 :: fv 36 :: fv 37 :: fv 38 :: fv 39 :: fv 40 :: fv 41 :: fv 42 :: fv 43 :: fv 44 :: fv 45 :: fv 46 :: fv 47 :: fv 48 :: fv 49 :: fv 50 :: fv 51 :: fv 52 :: fv 53 :: fv 54 :: fv 55 :: fv 56 :: fv 57 :: fv 58 :: fv 59 :: fv 60 :: fv 61 :: fv 62 :: fv 63 :: fv 64 :: fv 65 :: fv 66 :: fv 67 :: fv 68 :: fv 69 :: fv 70 :: fv 71 :: fv 72 :: fv 73 :: fv 74 :: fv 75 :: fv 76 :: fv 77 :: fv 78 :: fv 79 :: fv 80 :: fv 81 :: fv 82 :: fv 83 :: fv 84 :: fv 85 :: fv 86 :: fv 87 :: fv 88 :: fv 89 :: fv 90 :: fv 91 :: fv 92 :: fv 93 :: fv 94 :: fv 95 :: fv 96 :: fv 97 :: fv 98 :: fv 99 :: fv 100 :: fv 101 :: fv 102 :: fv 103 :: fv 104 :: fv 105 :: fv 106 :: fv 107 :: fv 108 :: fv 109 :: fv 110 :: fv 111 :: fv 112 :: fv 113 :: []).toArray, defers := [] })
       (fun l x a' s A B row h hg hr => by
        obtain ⟨bs, h1, h2, h3⟩ := h
        exact ⟨bs, hI _ A B row h1 hg hr, ownFrom_cells (I := fun (_ : Unit) V => Blk V bs #[.int .i64 x.k, .int .i64 i, .int .i64 j] 56) (fun _ V V' h k _ => h.keptC k trivial) _ () A B row h2 hg hr, h3⟩)
       ?assign ?body ?done ?stop
      case assign =>
       rintro l2 l x V K ⟨⟨h1, h2⟩, h3⟩ hK
       have qv := below_new V (.cells #[.int .i64 x.k, .int .i64 i, .int .i64 j] 56)
       have kv := Blk.fresh V #[.int .i64 x.k, .int .i64 i, .int .i64 j] 56
       dsimp only [encG]
       gi_wp2
       exact hK _ _ (keepsFrom_below qv) (KeptC.below qv) ⟨V.heap.size, ⟨⟨h1.below qv, h2.trans (KeepsLow.of (keepsFrom_below qv))⟩, h3.below qv⟩, kv, ex_frame (by kernel_rfl)⟩
      case body =>
       rintro l2 l x a' V ⟨bs, ⟨⟨h1, h2⟩, h3⟩, hb, fv, rfl⟩ hlen
       have HNX : Hid (Ret Tryz.prog V 51 #[.agg #[.int .i64 x.k, .int .i64 i, .int .i64 j]] (.tuple #[.int .i64 (nxI x.k i : Nat), .int .i64 (nxJ x.k j : Nat)])) := Lib.hid (by
        have h := cnext_any x.k i j (by omega) (by omega) V
        rw [nzI_nat, nzJ_nat x.k j x.h1] at h
        exact h)
       have d0 := hb.at_ 0 _ rfl
       have d1 := hb.at_ 1 _ rfl
       have d2 := hb.at_ 2 _ rfl
       have H1 := Lib.hid h1
       have H2 := Lib.hid h2
       have H3 := Lib.hid h3
       clear h1 h2 h3 hI hS2 hj2 hStG hM hMn
       gi_wp2_with (first
        | ((first | refine ⟨trivial, fun h => (by cases h), ?_⟩ | refine ⟨trivial, ?_⟩); with_reducible refine (CallsIn.inRound l2 (callsIn_wide.2 (HNX.out _ (Below.refl _ _)))).mono ?_; rintro e V1 ⟨rfl, qv⟩)
        | fail "arm")
       have h1 := H1.out.below qv
       have h2 := H2.out.trans (KeepsLow.of (keepsFrom_below qv))
       have h3 := H3.out.below qv
       have QV := Lib.hid qv
       have hks := x.h2
       have hmi : nxI x.k i ≤ q.L.length := hks.1
       have hmj : nxJ x.k j ≤ q.R.length := hks.2.1
       have hmore := nx_more (i := i) (j := j) (kinds_of x.h1)
       have l3 : nxI x.k i < rb.length := by rw [HRB.out]; omega
       have t1 : (nxI x.k i : Int) < (rb.length : Int) := by omega
       have t2 : (nxJ x.k j : Int) < ((q.R.length + 1 : Nat) : Int) := by omega
       have C1 := Lib.hid (h1.ways.cell1 i (Nat.le_refl _) l1)
       have C2 := Lib.hid (h1.ways.cell1 (nxI x.k i) (by omega) l3)
       have hc3 := h1.ways.cell2 i j (Nat.le_refl _) l1 (by omega)
       have hc4 := h1.ways.cell2 (nxI x.k i) (nxJ x.k j) (by omega) l3 (by omega)
       rw [show entW q i j (cntS q i j l) i j = .string (canon (cntS q i j l : Nat)) from by unfold entW; rw [if_pos ⟨rfl, rfl⟩]] at hc3
       rw [show entW q i j (cntS q i j l) (nxI x.k i) (nxJ x.k j) = .string (canon (cnt q (nxI x.k i) (nxJ x.k j) : Nat)) from by
        unfold entW
        rw [if_neg (by omega)]
        unfold wayT
        rw [if_pos (by omega)]] at hc4
       have C3 := Lib.hid hc3
       have C4 := Lib.hid hc4
       have LC1 := Lib.hid h1.ways.out.lt
       have LC3 := Lib.hid (h1.ways.row i (Nat.le_refl _) l1).lt
       have LC4 := Lib.hid (h1.ways.row (nxI x.k i) (by omega) l3).lt
       have hb1 := cntS_bd q OK.out i j l
       have hb2 := cnt_bdQ q OK.out (nxI x.k i) (nxJ x.k j) hmi hmj
       have hz1 := cway_size (cntS q i j l) (by omega)
       have hz2 := cway_size (cnt q (nxI x.k i) (nxJ x.k j)) (by omega)
       have HE1 := HE.out.below h1.bb
       have HADD : Hid (Ret Tryz.prog V1 52 #[.string (canon (cntS q i j l : Nat)), .string (canon (cnt q (nxI x.k i) (nxJ x.k j) : Nat))] (.string (canon ((cntS q i j (l ++ [x]) : Nat) : Int)))) := Lib.hid (fun W' hW' => by
        have h := add_any (cntS q i j l : Nat) (cnt q (nxI x.k i) (nxJ x.k j) : Nat) W' (HE1.below hW').1 (by omega) (by omega)
        rw [← Int.natCast_add, ← cntS_snoc] at h
        exact h)
       have HSET : Hid (∀ V', Below V1.heap.size V1 V' → (StC w0 bq bw bi ob wb i rb rw_ q (.slice A1 q.L.length n1) (.slice A2 q.R.length n2) (i : Int) (entW q i j (cntS q i j (l ++ [x]))) ds (V'.setCell ⟨rw_ i, j, none⟩ (.string (canon ((cntS q i j (l ++ [x]) : Nat) : Int)))) ∧ Wrote (rw_ i) V' (V'.setCell ⟨rw_ i, j, none⟩ (.string (canon ((cntS q i j (l ++ [x]) : Nat) : Int))))) ∧ V'.frozen? ⟨rw_ i, j, none⟩ = false ∧ ∃ v, V'.cell? ⟨rw_ i, j, none⟩ = some v) := Lib.hid (fun V' hV' => by
        have s := h1.below hV'
        obtain ⟨t, k⟩ := s.ways.set i j (Nat.le_refl _) l1 (.string (canon ((cntS q i j (l ++ [x]) : Nat) : Int)))
        exact ⟨⟨s.wrote hs4.1 hs4.2 k (t.congr (fun p r _ _ _ => by rw [entW_upd])), k⟩, s.ways.free i j (Nat.le_refl _) l1, _, s.ways.cell2 i j (Nat.le_refl _) l1 (by omega)⟩)
       have L1 := Lib.hid h2
       have J1 := Lib.hid h3
       have KW := h1.kw
       have KI := Lib.hid h1.ki
       have KJ := Lib.hid h3
       have t3 : (i : Int) < (rb.length : Int) := by omega
       have t4 : (j : Int) < ((q.R.length + 1 : Nat) : Int) := by omega
       clear h1 h2 h3 H1 H2 H3 qv hc3 hc4 hb1 hb2 hz1 hz2 hks hb d0 d1 d2 HNX HE1 hmore
       generalize canon ((cntS q i j (l ++ [x]) : Nat) : Int) = cs at *
       generalize canon (cntS q i j l : Nat) = ca at *
       generalize canon (cnt q (nxI x.k i) (nxJ x.k j) : Nat) = cb at *
       generalize rw_ (nxI x.k i) = r2 at *
       generalize hri1 : rw_ i = r1 at *
       clear l3
       generalize nxI x.k i = mi at *
       generalize nxJ x.k j = mj at *
       obtain ⟨N, hN⟩ : ∃ N, rb.length = N := ⟨_, rfl⟩
       obtain ⟨M1, hM1⟩ : ∃ M1, q.R.length + 1 = M1 := ⟨_, rfl⟩
       rw [hN] at KW t1 t3
       rw [hM1] at t2 t4
       have C12 : Hid (V1.cell? ⟨wb, i, none⟩ = some (.slice (some ⟨r1, 0, none⟩) M1 M1)) := Lib.hid (by rw [← hM1]; exact C1.out)
       have C22 : Hid (V1.cell? ⟨wb, mi, none⟩ = some (.slice (some ⟨r2, 0, none⟩) M1 M1)) := Lib.hid (by rw [← hM1]; exact C2.out)
       replace C1 := C12
       replace C2 := C22
       replace KW := Lib.hid KW
       clear hN hM1 C12 C22
       refine wpIn_phase (.inr ⟨l2, rfl⟩) 26 21 (.v 79 (.slice (some ⟨wb, 0, none⟩) N N) :: .v 80 (.int .i64 i) :: .v 81 (.pointer (some ⟨wb, i, none⟩)) :: .v 82 (.slice (some ⟨r1, 0, none⟩) M1 M1) :: .v 83 (.int .i64 j) :: .v 84 (.slice (some ⟨wb, 0, none⟩) N N) :: .v 85 (.int .i64 i) :: .v 86 (.pointer (some ⟨wb, i, none⟩)) :: .v 87 (.slice (some ⟨r1, 0, none⟩) M1 M1) :: .v 88 (.int .i64 j) :: .v 89 (.pointer (some ⟨r1, j, none⟩)) :: .v 90 (.string ca) :: .v 91 (.slice (some ⟨wb, 0, none⟩) N N) :: .v 92 (.int .i64 mi) :: .v 93 (.pointer (some ⟨wb, mi, none⟩)) :: .v 94 (.slice (some ⟨r2, 0, none⟩) M1 M1) :: .v 95 (.int .i64 mj) :: .v 96 (.pointer (some ⟨r2, mj, none⟩)) :: .v 97 (.string cb) :: .v 98 (.string cs) :: .v 99 (.pointer (some ⟨r1, j, none⟩)) :: []) [] [⟨bw, #[.slice (some ⟨wb, 0, none⟩) N N], 105, none⟩, ⟨bi, #[.int .i64 i], 3, none⟩, ⟨bj, #[.int .i64 j], 3, none⟩] [] [] [] [] [] (by kernel_rfl) (by intro hL; obtain ⟨_, _, hL⟩ := hL; exact hL.elim) (Below.refl _ _) ⟨KW.out, KI.out, KJ.out, trivial⟩ trivial ⟨ld 0 0, ld 1 0, ?_, ?_, ld 2 0, ld 0 0, ld 1 0, ?_, ?_, ld 2 0, ?_, ?_, ld 0 0, pu, ?_, ?_, pu, ?_, ?_, cl HADD.out, ?_, trivial⟩ ?_
       ·intro L a U ho J hn dd KK kk; refine .free rfl ?_; have r79 := J.read 0 rfl (dd.get 0 rfl); have r80 := J.read 1 rfl (dd.get 1 rfl); go_simp; exact kk.out _ _ (J.st 2 rfl rfl)
       ·intro L a U ho J hn dd KK kk; refine .free rfl ?_; have r81 := J.read 2 rfl (dd.get 2 rfl); have e0 := (J.bb.cell (p := ⟨wb, i, none⟩) LC1.out).trans C1.out; go_simp; exact kk.out _ _ (J.st 3 rfl rfl)
       ·intro L a U ho J hn dd KK kk; refine .free rfl ?_; have r84 := J.read 5 rfl (dd.get 5 rfl); have r85 := J.read 6 rfl (dd.get 6 rfl); go_simp; exact kk.out _ _ (J.st 7 rfl rfl)
       ·intro L a U ho J hn dd KK kk; refine .free rfl ?_; have r86 := J.read 7 rfl (dd.get 7 rfl); have e0 := (J.bb.cell (p := ⟨wb, i, none⟩) LC1.out).trans C1.out; go_simp; exact kk.out _ _ (J.st 8 rfl rfl)
       ·intro L a U ho J hn dd KK kk; refine .free rfl ?_; have r87 := J.read 8 rfl (dd.get 8 rfl); have r88 := J.read 9 rfl (dd.get 9 rfl); go_simp; exact kk.out _ _ (J.st 10 rfl rfl)
       ·intro L a U ho J hn dd KK kk; refine .free rfl ?_; have r89 := J.read 10 rfl (dd.get 10 rfl); have e0 := (J.bb.cell (p := ⟨r1, j, none⟩) LC3.out).trans C3.out; go_simp; exact kk.out _ _ (J.st 11 rfl rfl)
       ·intro L a U ho J hn dd KK kk; refine .free rfl ?_; have r91 := J.read 12 rfl (dd.get 12 rfl); have r92 := J.read 13 rfl (dd.get 13 rfl); go_simp; exact kk.out _ _ (J.st 14 rfl rfl)
       ·intro L a U ho J hn dd KK kk; refine .free rfl ?_; have r93 := J.read 14 rfl (dd.get 14 rfl); have e0 := (J.bb.cell (p := ⟨wb, mi, none⟩) LC1.out).trans C2.out; go_simp; exact kk.out _ _ (J.st 15 rfl rfl)
       ·intro L a U ho J hn dd KK kk; refine .free rfl ?_; have r94 := J.read 15 rfl (dd.get 15 rfl); have r95 := J.read 16 rfl (dd.get 16 rfl); go_simp; exact kk.out _ _ (J.st 17 rfl rfl)
       ·intro L a U ho J hn dd KK kk; refine .free rfl ?_; have r96 := J.read 17 rfl (dd.get 17 rfl); have e0 := (J.bb.cell (p := ⟨r2, mj, none⟩) LC4.out).trans C4.out; go_simp; exact kk.out _ _ (J.st 18 rfl rfl)
       ·intro L a U ho J hn dd KK kk; refine .free rfl ?_; have r82 := J.read 3 rfl (dd.get 3 rfl); have r83 := J.read 4 rfl (dd.get 4 rfl); go_simp; exact kk.out _ _ (J.st 20 rfl rfl)
       rintro σ V9 _ _ _ _ B9
       simp only [slotsOf, finX, nval, nvalN, nvalA, Nat.reduceBEq, cond_true, cond_false, putAll, Act.put, List.setIfInBounds_toArray, List.set_cons_succ, List.set_cons_zero]
       simp only [List.drop_succ_cons, List.drop_zero]
       obtain ⟨⟨s1, s2⟩, f1, u, f2⟩ := HSET.out V9 B9.out
       have HS1 := Lib.hid s1
       have HS2 := Lib.hid s2
       clear s1 s2 HSET
       gi_wp2
       have kk : KeepsFrom 0 V _ := ((keepsFrom_below QV.out).trans (keepsFrom_below B9.out)).trans HS2.out.keeps
       have kc : KeptC (fun g _ => g ≠ r1) V _ := ((KeptC.below QV.out).trans (KeptC.below B9.out)).trans HS2.out.kept
       exact ⟨KeepsFrom.mono kk (Nat.zero_le _), (by rw [hri1]; exact kc), ⟨HS1.out, L1.out.trans ((KeepsLow.of (keepsFrom_below B9.out)).trans (KeepsLow.of HS2.out.keeps))⟩, (J1.out.below B9.out).keptC HS2.out.kept (Ne.symm hri)⟩
      case done =>
       rintro D ys V hD rfl ⟨⟨h1, h2⟩, h3⟩ hK
       have S9 : Hid (StC w0 bq bw bi ob wb i rb rw_ q (.slice A1 q.L.length n1) (.slice A2 q.R.length n2) (i : Int) (wayT q i j) ({ target := .collected D, args := #[] } :: ds) V) := Lib.hid ((h1.tabC (fun p r _ _ _ => by rw [cntS_all]; exact entW_done q i j p r)).marks (Marks.add hS2.mrk h1.mrk (by omega) hD hK))
       have KJ := Lib.hid h3
       have y0 := h1.ki.at_ 0 _ rfl
       have yj := h3.at_ 0 _ rfl
       have w1 : IntKind.i64.wrap ((j : Int) - 1) = (j : Int) - 1 := IntWalk.i64_in _ (by omega)
       clear hI hS2 hj2 h1 h2 h3 hK hStG hM hMn
       go_wp2
       have q9 := below_new V (.cells #[.int .i64 ((j : Int) - 1)] 3)
       have hbi := S9.out.ki.lt
       have hbo := S9.out.kw.lt
       exact ⟨j, by omega, hJ2 _ _ _ ⟨V.heap.size, _, (j : Int) - 1, ex_frame (by kernel_rfl), by omega, by omega, S9.out.below q9, Blk.fresh V _ _, hbo, by omega, fun p h1 h2 e => by have := (S9.out.ways.row p h1 h2).lt; omega⟩⟩
      case stop =>
       rintro D c pre V hD hpre h hK
       exact h.elim
     clear hKr3
     by_cases hin : i = q.L.length
     ·have t1 : ((i : Int) == (q.L.length : Int)) = true := by rw [hin]; exact beq_self_eq_true _
      by_cases hjm : j = q.R.length
      ·have t2 : ((j : Int) == (q.R.length : Int)) = true := by rw [hjm]; exact beq_self_eq_true _
       have hc0 : cntS q i j [] = 1 := by unfold cntS; rw [if_pos ⟨hin, hjm⟩]; rfl
       rw [hc0] at KEY3
       clear hin hjm hc0
       go_upto_region 15 with (fail)
       have KW := S.out.kw
       have KI := Lib.hid S.out.ki
       have l1 : i < rb.length := by rw [HRB.out]; omega
       have C1 := Lib.hid (S.out.ways.cell1 i (Nat.le_refl _) l1)
       have LC1 := Lib.hid S.out.ways.out.lt
       have HSET : Hid (∀ W', Below W.heap.size W W' → StC w0 bq bw bi ob wb i rb rw_ q (.slice A1 q.L.length n1) (.slice A2 q.R.length n2) (i : Int) (entW q i j 1) ds (W'.setCell ⟨rw_ i, j, none⟩ (.string ⟨#[49]⟩)) ∧ Blk (W'.setCell ⟨rw_ i, j, none⟩ (.string ⟨#[49]⟩)) bj #[.int .i64 j] 3) := Lib.hid (fun W' hW' => by
        have s := S.out.below hW'
        obtain ⟨t, k⟩ := s.ways.set i j (Nat.le_refl _) l1 (.string ⟨#[49]⟩)
        have h4 := s.s4 i (Nat.le_refl _) l1
        refine ⟨s.wrote h4.1 h4.2 k (t.congr (fun p r _ _ _ => ?_)), (KJ.out.below hW').keptC k.kept (Ne.symm (NE2.out i (Nat.le_refl _) l1))⟩
        rw [show (⟨#[49]⟩ : ByteArray) = canon ((1 : Nat) : Int) from (canon_dig 1 (by omega)).symm]
        exact (by rw [entW_upd]))
       have HFR : Hid (∀ W', Below W.heap.size W W' → W'.frozen? ⟨rw_ i, j, none⟩ = false ∧ ∃ v, W'.cell? ⟨rw_ i, j, none⟩ = some v) := Lib.hid (fun W' hW' => ⟨((S.out.below hW').ways).free i j (Nat.le_refl _) l1, _, ((S.out.below hW').ways).cell2 i j (Nat.le_refl _) l1 (by omega)⟩)
       have t3 : (i : Int) < (rb.length : Int) := by omega
       have t4 : (j : Int) < ((q.R.length + 1 : Nat) : Int) := by omega
       clear y0 yj yq0 yq1
       generalize rw_ i = r1 at *
       obtain ⟨N, hN⟩ : ∃ N, rb.length = N := ⟨_, rfl⟩
       obtain ⟨M1, hM1⟩ : ∃ M1, q.R.length + 1 = M1 := ⟨_, rfl⟩
       rw [hN] at KW t3
       have C12 : Hid (W.cell? ⟨wb, i, none⟩ = some (.slice (some ⟨r1, 0, none⟩) M1 M1)) := Lib.hid (by rw [← hM1]; exact C1.out)
       replace C1 := C12
       rw [hM1] at t4
       replace KW := Lib.hid KW
       clear hN hM1 C12 l1
       refine wpIn_wide.1 (wpIn_phase (n := 9) (.inl rfl) 12 6 (.v 62 (.slice (some ⟨wb, 0, none⟩) N N) :: .v 63 (.int .i64 i) :: .v 64 (.pointer (some ⟨wb, i, none⟩)) :: .v 65 (.slice (some ⟨r1, 0, none⟩) M1 M1) :: .v 66 (.int .i64 j) :: .v 67 (.pointer (some ⟨r1, j, none⟩)) :: []) [] [⟨bw, #[.slice (some ⟨wb, 0, none⟩) N N], 105, none⟩, ⟨bi, #[.int .i64 i], 3, none⟩, ⟨bj, #[.int .i64 j], 3, none⟩] [] [] [] [] [] (by kernel_rfl) (by intro hL; obtain ⟨_, _, hL⟩ := hL; exact absurd hL.1 (by intro h; cases h)) (Below.refl _ _) ⟨KW.out, KI.out, KJ.out, trivial⟩ trivial ⟨ld 0 0, ld 1 0, ?_, ?_, ld 2 0, ?_, trivial⟩ ?_)
       ·intro L a U ho J hn dd KK kk; refine .free rfl ?_; have r62 := J.read 0 rfl (dd.get 0 rfl); have r63 := J.read 1 rfl (dd.get 1 rfl); go_simp; exact kk.out _ _ (J.st 2 rfl rfl)
       ·intro L a U ho J hn dd KK kk; refine .free rfl ?_; have r64 := J.read 2 rfl (dd.get 2 rfl); have e0 := (J.bb.cell (p := ⟨wb, i, none⟩) LC1.out).trans C1.out; go_simp; exact kk.out _ _ (J.st 3 rfl rfl)
       ·intro L a U ho J hn dd KK kk; refine .free rfl ?_; have r65 := J.read 3 rfl (dd.get 3 rfl); have r66 := J.read 4 rfl (dd.get 4 rfl); go_simp; exact kk.out _ _ (J.st 5 rfl rfl)
       rintro σ W9 _ _ _ _ B9
       simp only [slotsOf, finX, nval, nvalN, nvalA, Nat.reduceBEq, cond_true, cond_false, putAll, Act.put, List.setIfInBounds_toArray, List.set_cons_succ, List.set_cons_zero]
       simp only [List.drop_succ_cons, List.drop_zero]
       have f1 := (HFR.out W9 B9.out).1
       obtain ⟨u, f2⟩ := (HFR.out W9 B9.out).2
       gi_wp2
       have HS := HSET.out W9 B9.out
       exact KEY3 _ _ (ex_frame (by kernel_rfl)) HS.1 HS.2
      ·have t2 : ((j : Int) == (q.R.length : Int)) = false := by rw [beq_eq_false_iff_ne]; omega
       have hc0 : cntS q i j [] = 0 := by unfold cntS; rw [if_neg (fun h => hjm h.2)]; rfl
       rw [hc0] at KEY3
       clear hin hjm hc0
       go_wp2
       exact KEY3 W _ (ex_frame (by kernel_rfl)) S.out KJ.out
     ·have t1 : ((i : Int) == (q.L.length : Int)) = false := by rw [beq_eq_false_iff_ne]; omega
      have hc0 : cntS q i j [] = 0 := by unfold cntS; rw [if_neg (fun h => hin h.1)]; rfl
      rw [hc0] at KEY3
      clear hin hc0
      go_wp2
      exact KEY3 W _ (ex_frame (by kernel_rfl)) S.out KJ.out
    clear hKr2
    have KW := S.out.kw
    have KI := Lib.hid S.out.ki
    have l1 : i < rb.length := by rw [HRB.out]; omega
    have C1 := Lib.hid (S.out.ways.cell1 i (Nat.le_refl _) l1)
    have LC1 := Lib.hid S.out.ways.out.lt
    have HSET : Hid (∀ W', Below W.heap.size W W' → StC w0 bq bw bi ob wb i rb rw_ q (.slice A1 q.L.length n1) (.slice A2 q.R.length n2) (i : Int) (entW q i j 0) ds (W'.setCell ⟨rw_ i, j, none⟩ (.string ⟨#[48]⟩)) ∧ Blk (W'.setCell ⟨rw_ i, j, none⟩ (.string ⟨#[48]⟩)) bj #[.int .i64 j] 3) := Lib.hid (fun W' hW' => by
     have s := S.out.below hW'
     obtain ⟨t, k⟩ := s.ways.set i j (Nat.le_refl _) l1 (.string ⟨#[48]⟩)
     have h4 := s.s4 i (Nat.le_refl _) l1
     refine ⟨s.wrote h4.1 h4.2 k (t.congr (fun p r _ _ _ => ?_)), (KJ.out.below hW').keptC k.kept (Ne.symm (NE2.out i (Nat.le_refl _) l1))⟩
     rw [show (⟨#[48]⟩ : ByteArray) = canon ((0 : Nat) : Int) from (canon_dig 0 (by omega)).symm]
     exact (by rw [wayT_upd]))
    have HFR : Hid (∀ W', Below W.heap.size W W' → W'.frozen? ⟨rw_ i, j, none⟩ = false ∧ ∃ v, W'.cell? ⟨rw_ i, j, none⟩ = some v) := Lib.hid (fun W' hW' => ⟨((S.out.below hW').ways).free i j (Nat.le_refl _) l1, _, ((S.out.below hW').ways).cell2 i j (Nat.le_refl _) l1 (by omega)⟩)
    have t3 : (i : Int) < (rb.length : Int) := by omega
    have t4 : (j : Int) < ((q.R.length + 1 : Nat) : Int) := by omega
    clear y0 yj
    generalize rw_ i = r1 at *
    obtain ⟨N, hN⟩ : ∃ N, rb.length = N := ⟨_, rfl⟩
    obtain ⟨M1, hM1⟩ : ∃ M1, q.R.length + 1 = M1 := ⟨_, rfl⟩
    rw [hN] at KW t3
    have C12 : Hid (W.cell? ⟨wb, i, none⟩ = some (.slice (some ⟨r1, 0, none⟩) M1 M1)) := Lib.hid (by rw [← hM1]; exact C1.out)
    replace C1 := C12
    rw [hM1] at t4
    replace KW := Lib.hid KW
    clear hN hM1 C12 l1
    refine wpIn_wide.1 (wpIn_phase (n := 9) (.inl rfl) 12 6 (.v 44 (.slice (some ⟨wb, 0, none⟩) N N) :: .v 45 (.int .i64 i) :: .v 46 (.pointer (some ⟨wb, i, none⟩)) :: .v 47 (.slice (some ⟨r1, 0, none⟩) M1 M1) :: .v 48 (.int .i64 j) :: .v 49 (.pointer (some ⟨r1, j, none⟩)) :: []) [] [⟨bw, #[.slice (some ⟨wb, 0, none⟩) N N], 105, none⟩, ⟨bi, #[.int .i64 i], 3, none⟩, ⟨bj, #[.int .i64 j], 3, none⟩] [] [] [] [] [] (by kernel_rfl) (by intro hL; obtain ⟨_, _, hL⟩ := hL; exact absurd hL.1 (by intro h; cases h)) (Below.refl _ _) ⟨KW.out, KI.out, KJ.out, trivial⟩ trivial ⟨ld 0 0, ld 1 0, ?_, ?_, ld 2 0, ?_, trivial⟩ ?_)
    ·intro L a U ho J hn dd KK kk; refine .free rfl ?_; have r44 := J.read 0 rfl (dd.get 0 rfl); have r45 := J.read 1 rfl (dd.get 1 rfl); go_simp; exact kk.out _ _ (J.st 2 rfl rfl)
    ·intro L a U ho J hn dd KK kk; refine .free rfl ?_; have r46 := J.read 2 rfl (dd.get 2 rfl); have e0 := (J.bb.cell (p := ⟨wb, i, none⟩) LC1.out).trans C1.out; go_simp; exact kk.out _ _ (J.st 3 rfl rfl)
    ·intro L a U ho J hn dd KK kk; refine .free rfl ?_; have r47 := J.read 3 rfl (dd.get 3 rfl); have r48 := J.read 4 rfl (dd.get 4 rfl); go_simp; exact kk.out _ _ (J.st 5 rfl rfl)
    rintro σ W9 _ _ _ _ B9
    simp only [slotsOf, finX, nval, nvalN, nvalA, Nat.reduceBEq, cond_true, cond_false, putAll, Act.put, List.setIfInBounds_toArray, List.set_cons_succ, List.set_cons_zero]
    simp only [List.drop_succ_cons, List.drop_zero]
    have f1 := (HFR.out W9 B9.out).1
    obtain ⟨u, f2⟩ := (HFR.out W9 B9.out).2
    gi_wp2
    have HS := HSET.out W9 B9.out
    exact KEY2 _ _ (ex_frame (by kernel_rfl)) HS.1 HS.2
  clear hKr
  refine wpIn_wide.1 (wpIn_phase (n := 9) (.inl rfl) 14 8 (.v 29 (.slice (some ⟨wb, 0, none⟩) N N) :: .v 30 (.int .i64 i) :: .v 31 (.pointer (some ⟨bq, 1, none⟩)) :: .v 32 (.slice A2 q.R.length n2) :: .v 33 (.int .i64 q.R.length) :: .v 34 (.int .i64 ((q.R.length : Int) + 1)) :: .n 35 :: .v 36 (.pointer (some ⟨wb, i, none⟩)) :: []) [⟨6, 35, fun g => .slice (some ⟨g, 0, none⟩) (q.R.length + 1) (q.R.length + 1), zr, 40, none⟩] [⟨bw, #[.slice (some ⟨wb, 0, none⟩) N N], 105, none⟩, ⟨bi, #[.int .i64 i], 3, none⟩, ⟨bq, #[.slice A1 q.L.length n1, .slice A2 q.R.length n2, .string (qT (2 * q.ch)), .string (qT (2 * q.mi)), .string (qT (2 * q.ga)), .string (qT (2 * q.re))], 32, none⟩] [] [] [] [] [] (by kernel_rfl) (by intro hL; obtain ⟨_, _, hL⟩ := hL; exact absurd hL.1 (by intro h; cases h)) (Below.refl _ _) ⟨KW.out, KI.out, KQ.out, trivial⟩ trivial ⟨ld 0 0, ld 1 0, pu, ld 2 1, pu, ?_, ?_, ?_, trivial⟩ ?_)
  ·intro L a U ho J hn dd KK kk; refine .free rfl ?_; have r33 := J.read 4 rfl (dd.get 4 rfl); go_simp; exact kk.out _ _ (J.st 5 rfl rfl)
  ·intro L a U ho J hn dd KK kk; refine .free rfl ?_; have r34 := J.read 5 rfl (dd.get 5 rfl); go_simp; exact kk.out _ _ (J.made 6 0 rfl rfl rfl rfl rfl rfl rfl rfl rfl rfl (Nat.le_refl _) (Blk.fresh U _ _) (below_new U _) hn)
  ·intro L a U ho J hn dd KK kk; refine .free rfl ?_; have r29 := J.read 0 rfl (dd.get 0 rfl); have r30 := J.read 1 rfl (dd.get 1 rfl); go_simp; exact kk.out _ _ (J.st 7 rfl rfl)
  rintro σ W9 ⟨⟨hlow, KR⟩, _⟩ _ _ _ B9
  simp only [slotsOf, finX, nval, nvalN, nvalA, Nat.reduceBEq, cond_true, cond_false, putAll, Act.put, List.setIfInBounds_toArray, List.set_cons_succ, List.set_cons_zero]
  simp only [List.drop_succ_cons, List.drop_zero]
  generalize blkOf (σ 35) = gr at *
  have hlw : wr.heap.size ≤ gr := by first | exact hlow | exact hlow.out
  clear hlow
  have S9 := S.out.below B9.out
  have f1 := S9.ways.out.free i
  obtain ⟨u, f2⟩ := S9.ways.cell0 i (show i < rb.length by rw [HRB.out]; omega)
  have hkw := S9.kw.lt
  have hki := S.out.ki.lt
  have hkw2 := S.out.kw.lt
  have hkr := KR.out
  rw [← HZR.out] at hkr
  have hrn : ∀ p, i + 1 ≤ p → p < rb.length → rw_ p ≠ gr := fun p h1 h2 e => by have := (S.out.ways.row p h1 h2).lt; omega
  have HNX := Lib.hid ((S9.nextRow (show i < rb.length by rw [HRB.out]; omega) hkr (by omega) (by omega) hrn).tabC (c' := wayT q i (q.R.length + 1)) (fun p r h1 h2 h3 => by
   by_cases e : p = i
   ·rw [if_pos e]
    unfold wayT
    rw [if_neg (by omega)]
   ·rw [if_neg e]
    unfold wayT
    rw [if_pos (by omega), if_pos (by omega)]))
  clear S9 hkw hki hkw2 hkr hrn
  gi_wp2
  exact KEY _ _ _ (ex_frame (by kernel_rfl)) HNX.out

end Go.Proofs.YthhkmihjnnfpgaaGreatDoor
