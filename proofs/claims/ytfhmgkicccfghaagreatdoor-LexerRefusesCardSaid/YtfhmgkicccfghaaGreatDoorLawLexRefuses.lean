/- LexerRefuses: for every list of tokens the call returns true. -/
import Derived.Test.YtfhmgkicccfghaaGreatDoorLexZH
import Derived.Test.YtfhmgkicccfghaaGreatDoorLexYD
import Derived.Test.YtfhmgkicccfghaaGreatDoorLexSB
import Derived.Test.YtfhmgkicccfghaaGreatDoorGPar
namespace Go.Proofs.YtfhmgkicccfghaaGreatDoor
set_option linter.all false
open Go.RowKit

theorem text_ofR {S Y : ByteArray} (h : S.data.toList = Y.data.toList) : S = Y := by
 cases S with
 | mk a => cases Y with
  | mk b => exact congrArg _ (Array.toList_inj.1 h)
theorem printF_len : ∀ (ts : List Tok) (o : Bool), (∀ t ∈ ts, t.text.length ≤ 40) → (printF o ts).length ≤ 43 * ts.length
 | [], _, _ => Nat.le_refl _
 | t :: ts, o, h => by
  have h1 := printF_cons o t ts
  have h2 := printF_len ts (decide (t.kind ≠ 5)) (fun x hx => h x (List.mem_cons_of_mem _ hx))
  have h3 := h t List.mem_cons_self
  have h4 : (bodyT t).length ≤ t.text.length + 2 := by
   unfold bodyT
   split
   ·rw [List.length_cons, List.length_append]; exact Nat.le_refl _
   ·split
    ·show 1 ≤ _; omega
    ·omega
  rw [List.length_cons]
  omega
theorem printM_len : ∀ (ts : List Tok) (o : Bool), (∀ t ∈ ts, t.text.length ≤ 40) → (printM o ts).length ≤ 43 * ts.length
 | [], _, _ => Nat.le_refl _
 | t :: ts, o, h => by
  have h2 := printM_len ts (decide (t.kind ≠ 5)) (fun x hx => h x (List.mem_cons_of_mem _ hx))
  have h3 := h t List.mem_cons_self
  have h4 : (bodyM t).length ≤ t.text.length + 2 := by
   unfold bodyM
   split
   ·rw [List.length_cons, List.length_append]; exact Nat.le_refl _
   ·omega
  unfold printM
  rw [List.length_append, List.length_append, List.length_cons]
  split
  ·rw [List.length_singleton]; omega
  ·rw [List.length_nil]; omega
def Short (ts : List Tok) (k : Nat) : Prop := ∀ i t, i < k → ts[i]? = some t → t.text.length ≤ 40
theorem Short.next {ts : List Tok} {k : Nat} (h : Short ts k) {t : Tok} (ht : ts[k]? = some t) (hl : t.text.length ≤ 40) : Short ts (k + 1) := by
 intro i u hi hu
 rcases Nat.lt_or_ge i k with h1 | h1
 ·exact h i u h1 hu
 ·obtain rfl : i = k := by omega
  rw [ht] at hu
  injection hu with hu
  rw [← hu]; exact hl
theorem Short.all {ts : List Tok} (h : Short ts ts.length) : ∀ t ∈ ts, t.text.length ≤ 40 := fun t ht => by
 obtain ⟨i, hi, e⟩ := List.getElem_of_mem ht
 exact h i t hi (by rw [List.getElem?_eq_getElem hi, e])

set_option maxRecDepth 100000 in
set_option maxHeartbeats 8000000 in
theorem lexRefuses_walk (v : Value) (ts : List Tok) (PL PC : Nat → Int) (w : World) (he : Env w) (hv : TokAtG w v ts PL PC) :
  Calls Tryz.prog 10 #[v] w fun e w' => e = .returned (.bool true) ∧ Below w.heap.size w w' := by
 have KN := Lib.hid (fun W (hW : Below w.heap.size w W) => known51 W (he.below hW))
 have B := Lib.hid (Below.refl w.heap.size w)
 have HV := Lib.hid hv
 by_cases hlim : 8 < ts.length
 ·obtain ⟨a, c, rfl, _⟩ := hv
  have t1 : decide ((ts.length : Int) > 8) = true := decide_eq_true (by omega)
  go_enter Tryz.func10, Tryz.ntmps10
  go_wp2_with (first
   | (go_at_call 11; with_reducible refine (KN.out _ (baseI B.out)).mono ?_; rintro e wx ⟨rfl, q⟩; replace B := Lib.hid (goI B.out q); clear q)
   | fail "arm")
  go_ret
  exact ⟨rfl, B.out⟩
 have t1 : decide ((ts.length : Int) > 8) = false := decide_eq_false (by omega)
 obtain ⟨parse, hp⟩ := parse_exists
 obtain ⟨a, c, rfl, _⟩ := hv
 have hl8 : ts.length ≤ 8 := by omega
 have sF : ∀ (Y : ByteArray) (hY : Y.size ≤ 1000) W, Below w.heap.size w W → Calls Tryz.prog 13 #[.string Y] W (ScanR W (scanF parse Y.data.toList 1 1 false [])) := fun Y hY W hW => scan_any parse Y W (by omega) (he.below hW).2 (hp.sub W (he.below hW) Y hY)
 have sM : ∀ (Y : ByteArray) (hY : Y.size ≤ 1000) W, Below w.heap.size w W → Calls Tryz.prog 14 #[.string Y] W (ScanR W (scanF parse Y.data.toList 1 1 false [])) := fun Y hY W hW => kscan_any parse Y W (by omega) (hp.sub W (he.below hW) Y hY)
 have SF := Lib.hid sF
 have SM := Lib.hid sM
 clear sF sM he hp
 go_enter Tryz.func10, Tryz.ntmps10
 go_upto_region 3 with (first
  | (go_at_call 11; with_reducible refine (KN.out _ (baseI B.out)).mono ?_; rintro e wx ⟨rfl, q⟩; replace B := Lib.hid (goI B.out q); clear q)
  | fail "arm")
 go_wp2
 go_loopw [23] (fun i wr => ∃ k : Nat, k ≤ ts.length ∧ i = .int .i64 k ∧ Short ts k ∧ Below w.heap.size w wr) (fun i _ => ts.length - (intOf i).toNat)
 case atStart => exact ⟨0, Nat.zero_le _, rfl, (fun i t h => by omega), B.out⟩
 case round =>
  obtain ⟨k, hk, rfl, hsh, hB⟩ := hrel
  clear B
  have B := Lib.hid hB
  have SH := Lib.hid hsh
  clear hB hsh
  by_cases hlt : k < ts.length
  ·obtain ⟨d, o, c1, e1, hd, q1⟩ := (HV.out.below B.out).cell2 k hlt
   injection e1 with e1 _ e1c
   subst e1 e1c
   have ht := List.getElem?_eq_getElem hlt
   generalize ts[k] = t at *
   have x0 : wr.cell? ⟨d, o + k * 5, none⟩ = _ := q1 0 _ rfl
   have x1 := q1 1 _ rfl
   have x2 := q1 2 _ rfl
   have x3 := q1 3 _ rfl
   have x4 := q1 4 _ rfl
   clear q1
   have hi : (k : Int) < (ts.length : Int) := by omega
   have HT := Lib.hid ht
   clear ht hd
   have qq := below_new wr (.cells #[.int .i64 t.kind, .string ⟨t.text.toArray⟩, .string ⟨t.value.toArray⟩, .int .i64 (PL k), .int .i64 (PC k)] 38)
   go_upto_region 6 with (fail)
   have K4 := Lib.hid (Blk.fresh wr #[.int .i64 t.kind, .string ⟨t.text.toArray⟩, .string ⟨t.value.toArray⟩, .int .i64 (PL k), .int .i64 (PC k)] 38)
   replace B := Lib.hid (B.out.trans (qq.mono B.out.size))
   clear x0 x1 x2 x3 x4 qq
   generalize (wr.alloc (.cells #[.int .i64 t.kind, .string ⟨t.text.toArray⟩, .string ⟨t.value.toArray⟩, .int .i64 (PL k), .int .i64 (PC k)] 38)) = W1 at *
   have y1 := K4.out.at_ 1 _ rfl
   have y2 := K4.out.at_ 2 _ rfl
   have hX : (⟨t.text.toArray⟩ : ByteArray).size = t.text.length := by rw [Lib.size_eq]
   by_cases h1 : t.text.length ≤ 40
   ·have NX := Lib.hid (SH.out.next HT.out h1)
    have d1 : decide (((⟨t.text.toArray⟩ : ByteArray).size : Int) > 40) = false := decide_eq_false (by omega)
    clear hX h1
    generalize (⟨t.text.toArray⟩ : ByteArray) = X at *
    generalize (⟨t.value.toArray⟩ : ByteArray) = X2 at *
    by_cases h2 : X2.size ≤ 40
    ·have d2 : decide ((X2.size : Int) > 40) = false := decide_eq_false (by omega)
     clear h2
     go_wp2
     go_round
     case rel => exact ⟨k + 1, by omega, by go_num, NX.out, B.out⟩
     case measure => simp [intOf]; omega
    ·have d2 : decide ((X2.size : Int) > 40) = true := decide_eq_true (by omega)
     clear h2
     go_wp2
     go_ret
     exact ⟨rfl, B.out⟩
   ·have d1 : decide (((⟨t.text.toArray⟩ : ByteArray).size : Int) > 40) = true := decide_eq_true (by omega)
    clear hX h1
    generalize (⟨t.text.toArray⟩ : ByteArray) = X at *
    go_wp2
    go_ret
    exact ⟨rfl, B.out⟩
  ·have hkl : k = ts.length := by omega
   have hsh := SH.out
   rw [hkl] at hsh
   have hall := hsh.all
   have hFl := printF_len ts false hall
   have hMl := printM_len ts false hall
   clear hsh hall SH hkl
   obtain ⟨M, hM⟩ : ∃ M : ByteArray, M.data.toList = printM false ts := ⟨⟨(printM false ts).toArray⟩, rfl⟩
   have hMs : M.size ≤ 1000 := by rw [Lib.size_eq, hM]; omega
   have kp : ∀ W, TokAtG W (.slice a ts.length c) ts PL PC → Calls Tryz.prog 29 #[.slice a ts.length c] W fun e w' => e = .returned (.string M) ∧ Below W.heap.size W w' := fun W hA => by
    refine (kprint_any _ ts PL PC W hA (by omega) (by omega)).mono ?_
    rintro e w' ⟨⟨S, h1, h2⟩, h3⟩
    rw [h1, text_ofR (h2.trans hM.symm)]
    exact ⟨rfl, h3⟩
   have s3 := fun W hW => SM.out M hMs W hW
   rw [hM] at s3
   have hboth := fine_both parse ts
   have lpx : ∃ (Y : ByteArray) (E : Int), (∀ W, Below w.heap.size w W → TokAtG W (.slice a ts.length c) ts PL PC → Calls Tryz.prog 28 #[.slice a ts.length c] W fun e w' => e = .returned (.tuple #[.string Y, .int .i64 E]) ∧ Below W.heap.size W w') ∧ ((FineOf parse (printM false ts) ts ∧ Y = M ∧ E = 0) ∨ (¬ FineOf parse (printM false ts) ts ∧ Y = ⟨#[]⟩ ∧ E = 7)) := by
    obtain ⟨Z, hZ⟩ : ∃ Z : ByteArray, Z.data.toList = printF false ts := ⟨⟨(printF false ts).toArray⟩, rfl⟩
    have hZs : Z.size ≤ 1000 := by rw [Lib.size_eq, hZ]; omega
    have hZZ : (⟨(printF false ts).toArray⟩ : ByteArray) = Z := text_ofR hZ.symm
    have hmx := scan_max parse (printF false ts).length (printF false ts) 1 1 false [] (Nat.le_refl _) (by decide)
    have lp := fun W (hW : Below w.heap.size w W) (hA : TokAtG W (.slice a ts.length c) ts PL PC) => lprint_any _ ts PL PC W (scanF parse (printF false ts) 1 1 false []) hA (by omega) (by omega) hmx (fun W2 hW2 => by
     rw [hZZ]
     have := SF.out Z hZs W2 (hW.trans (hW2.mono hW.size))
     rw [hZ] at this
     exact this)
    by_cases hf : FineOf parse (printM false ts) ts
    ·have hf2 := hboth.1.2 hf
     refine ⟨M, 0, fun W hW hA => ?_, .inl ⟨hf, rfl, rfl⟩⟩
     refine (lp W hW hA).mono ?_
     rintro e w' ⟨⟨S, E, h1, h2⟩, h3⟩
     rcases h2 with ⟨_, _, h4, h5⟩ | ⟨h4, _⟩
     ·rw [h1, h5, text_ofR ((h4.trans (hboth.2 hf)).trans hM.symm)]
      exact ⟨rfl, h3⟩
     ·exact absurd hf2 h4
    ·refine ⟨⟨#[]⟩, 7, fun W hW hA => ?_, .inr ⟨hf, rfl, rfl⟩⟩
     refine (lp W hW hA).mono ?_
     rintro e w' ⟨⟨S, E, h1, h2⟩, h3⟩
     rcases h2 with ⟨h4, h5, _⟩ | ⟨_, h4, h5⟩
     ·exact absurd (hboth.1.1 ⟨h4, h5⟩) hf
     ·rw [h1, h4, h5]
      exact ⟨rfl, h3⟩
   obtain ⟨Y, E, lp, hYE⟩ := lpx
   have hYE2 : ((FineOf parse (printM false ts) ts ∧ Y = M ∧ E = 0) ∨ (¬ FineOf parse (printM false ts) ts ∧ Y = ⟨#[]⟩ ∧ E = 7)) := hYE
   have hmx3 := scan_max parse (printM false ts).length (printM false ts) 1 1 false [] (Nat.le_refl _) (by decide)
   unfold FineOf at hYE2
   generalize scanF parse (printM false ts) 1 1 false [] = R3 at *
   have YE := Lib.hid hYE2
   have LP := Lib.hid lp
   have KP := Lib.hid kp
   have S3 : Hid (∀ W, Below w.heap.size w W → Calls Tryz.prog 14 #[.string M] W fun e w' => ∃ v, e = .returned (.tuple #[v, .agg #[.int .i64 R3.line, .int .i64 R3.col], .int .i64 R3.err]) ∧ TokRow w' W.heap.size v R3.toks ∧ Below W.heap.size W w') := Lib.hid s3
   have hlt0 : ¬ (k : Int) < (ts.length : Int) := by omega
   clear lp hYE hYE2 kp s3 hboth hM hMs hFl hMl SM SF KN hlt hk
   generalize wr = W0 at *
   go_wp2
   go_loopw [5] (fun i wr => ∃ k : Nat, 1 ≤ k ∧ k ≤ ts.length + 1 ∧ i = .int .i64 k ∧ Below w.heap.size w wr) (fun i _ => ts.length + 1 - (intOf i).toNat)
   case atStart => exact ⟨1, Nat.le_refl _, by omega, rfl, B.out⟩
   case round =>
    obtain ⟨k, hk1, hk, rfl, hB⟩ := hrel
    clear B
    have B := Lib.hid hB
    clear hB
    by_cases hlt : k < ts.length
    ·obtain ⟨d, o, c1, e1, hd, q1⟩ := (HV.out.below B.out).cell2 k hlt
     injection e1 with e1 _ e1c
     subst e1 e1c
     have ht := List.getElem?_eq_getElem hlt
     generalize ts[k] = t at *
     have x0 : wr.cell? ⟨d, o + k * 5, none⟩ = _ := q1 0 _ rfl
     have x1 := q1 1 _ rfl
     have x2 := q1 2 _ rfl
     have x3 := q1 3 _ rfl
     have x4 := q1 4 _ rfl
     clear q1
     have hi : (k : Int) < (ts.length : Int) := by omega
     obtain ⟨j, hj⟩ : ∃ j, k = j + 1 := ⟨k - 1, by omega⟩
     have hlt3 : j < ts.length := by omega
     obtain ⟨d3, o3, c3, e3, _, q3⟩ := (HV.out.below B.out).cell2 j hlt3
     injection e3 with e3 _ e3c
     injection e3 with e3
     injection e3 with e3a e3b
     subst e3a e3b e3c
     generalize ts[j] = p at *
     have z0 : wr.cell? ⟨d, o + j * 5, none⟩ = _ := q3 0 _ rfl
     have z1 := q3 1 _ rfl
     have z2 := q3 2 _ rfl
     have z3 := q3 3 _ rfl
     have z4 := q3 4 _ rfl
     clear q3 ht
     have hji : (j : Int) < (ts.length : Int) := by omega
     have tm : (k : Int) - 1 = (j : Int) := by omega
     have tw : IntKind.i64.wrap (j : Int) = (j : Int) := IntWalk.i64_in _ (by omega)
     clear hj
     obtain ⟨q, hq⟩ : ∃ q, sameB p t = q := ⟨_, rfl⟩
     have RS1 : Hid (Ret Tryz.prog wr 16 #[.agg #[.int .i64 p.kind, .string ⟨p.text.toArray⟩, .string ⟨p.value.toArray⟩, .int .i64 (PL j), .int .i64 (PC j)], .agg #[.int .i64 t.kind, .string ⟨t.text.toArray⟩, .string ⟨t.value.toArray⟩, .int .i64 (PL k), .int .i64 (PC k)]] (.bool q)) := Lib.hid (fun W _ => by rw [← hq]; exact sameG p t (PL j) (PC j) (PL k) (PC k) W)
     have RS2 : Hid (Ret Tryz.prog wr 30 #[.agg #[.int .i64 p.kind, .string ⟨p.text.toArray⟩, .string ⟨p.value.toArray⟩, .int .i64 (PL j), .int .i64 (PC j)], .agg #[.int .i64 t.kind, .string ⟨t.text.toArray⟩, .string ⟨t.value.toArray⟩, .int .i64 (PL k), .int .i64 (PC k)]] (.bool q)) := Lib.hid (fun W _ => by rw [← hq]; exact ksameG p t (PL j) (PC j) (PL k) (PC k) W)
     clear hq
     go_upto_region 12 with (fail)
     refine wp_tab (.v 44 (.slice (some ⟨d, o, none⟩) ts.length c) :: .v 45 (.int .i64 (k : Int)) :: .v 46 (.int .i64 (j : Int)) :: .v 47 (.pointer (some ⟨d, o + j * 5, none⟩)) :: .v 48 (.agg #[.int .i64 p.kind, .string ⟨p.text.toArray⟩, .string ⟨p.value.toArray⟩, .int .i64 (PL j), .int .i64 (PC j)]) :: .v 49 (.slice (some ⟨d, o, none⟩) ts.length c) :: .v 50 (.int .i64 (k : Int)) :: .v 51 (.pointer (some ⟨d, o + k * 5, none⟩)) :: .v 52 (.agg #[.int .i64 t.kind, .string ⟨t.text.toArray⟩, .string ⟨t.value.toArray⟩, .int .i64 (PL k), .int .i64 (PC k)]) :: .v 53 (.bool q) :: .v 54 (.slice (some ⟨d, o, none⟩) ts.length c) :: .v 55 (.int .i64 (k : Int)) :: .v 56 (.int .i64 (j : Int)) :: .v 57 (.pointer (some ⟨d, o + j * 5, none⟩)) :: .v 58 (.agg #[.int .i64 p.kind, .string ⟨p.text.toArray⟩, .string ⟨p.value.toArray⟩, .int .i64 (PL j), .int .i64 (PC j)]) :: .v 59 (.slice (some ⟨d, o, none⟩) ts.length c) :: .v 60 (.int .i64 (k : Int)) :: .v 61 (.pointer (some ⟨d, o + k * 5, none⟩)) :: .v 62 (.agg #[.int .i64 t.kind, .string ⟨t.text.toArray⟩, .string ⟨t.value.toArray⟩, .int .i64 (PL k), .int .i64 (PC k)]) :: .v 63 (.bool q) :: .v 64 (.bool false) :: []) [] [] [] [] [] [] [] (by kernel_rfl) (Below.refl wr.heap.size wr) trivial trivial ⟨pu, pu, ?_, ?_, ?_, pu, pu, ?_, ?_, cl RS1.out, pu, pu, ?_, ?_, ?_, pu, pu, ?_, ?_, cl RS2.out, ?_, trivial⟩ ?_
     ·intro L a U ho J hn dd KK kk; refine .free rfl ?_; have r1 := J.read 1 rfl (dd.get 1 rfl); go_simp; exact kk.out _ _ (J.st 2 rfl rfl)
     ·intro L a U ho J hn dd KK kk; refine .free rfl ?_; have r0 := J.read 0 rfl (dd.get 0 rfl); have r2 := J.read 2 rfl (dd.get 2 rfl); go_simp; exact kk.out _ _ (J.st 3 rfl rfl)
     ·intro L a U ho J hn dd KK kk; refine .free rfl ?_; have r3 := J.read 3 rfl (dd.get 3 rfl); have c0 := (J.bb.cell (p := ⟨d, o + j * 5, none⟩) hd).trans z0; have c1 := (J.bb.cell (p := ⟨d, o + j * 5 + 1, none⟩) hd).trans z1; have c2 := (J.bb.cell (p := ⟨d, o + j * 5 + 2, none⟩) hd).trans z2; have c3 := (J.bb.cell (p := ⟨d, o + j * 5 + 3, none⟩) hd).trans z3; have c4 := (J.bb.cell (p := ⟨d, o + j * 5 + 4, none⟩) hd).trans z4; go_simp; exact kk.out _ _ (J.st 4 rfl rfl)
     ·intro L a U ho J hn dd KK kk; refine .free rfl ?_; have r5 := J.read 5 rfl (dd.get 5 rfl); have r6 := J.read 6 rfl (dd.get 6 rfl); go_simp; exact kk.out _ _ (J.st 7 rfl rfl)
     ·intro L a U ho J hn dd KK kk; refine .free rfl ?_; have r7 := J.read 7 rfl (dd.get 7 rfl); have c0 := (J.bb.cell (p := ⟨d, o + k * 5, none⟩) hd).trans x0; have c1 := (J.bb.cell (p := ⟨d, o + k * 5 + 1, none⟩) hd).trans x1; have c2 := (J.bb.cell (p := ⟨d, o + k * 5 + 2, none⟩) hd).trans x2; have c3 := (J.bb.cell (p := ⟨d, o + k * 5 + 3, none⟩) hd).trans x3; have c4 := (J.bb.cell (p := ⟨d, o + k * 5 + 4, none⟩) hd).trans x4; go_simp; exact kk.out _ _ (J.st 8 rfl rfl)
     ·intro L a U ho J hn dd KK kk; refine .free rfl ?_; have r11 := J.read 11 rfl (dd.get 11 rfl); go_simp; exact kk.out _ _ (J.st 12 rfl rfl)
     ·intro L a U ho J hn dd KK kk; refine .free rfl ?_; have r10 := J.read 10 rfl (dd.get 10 rfl); have r12 := J.read 12 rfl (dd.get 12 rfl); go_simp; exact kk.out _ _ (J.st 13 rfl rfl)
     ·intro L a U ho J hn dd KK kk; refine .free rfl ?_; have r13 := J.read 13 rfl (dd.get 13 rfl); have c0 := (J.bb.cell (p := ⟨d, o + j * 5, none⟩) hd).trans z0; have c1 := (J.bb.cell (p := ⟨d, o + j * 5 + 1, none⟩) hd).trans z1; have c2 := (J.bb.cell (p := ⟨d, o + j * 5 + 2, none⟩) hd).trans z2; have c3 := (J.bb.cell (p := ⟨d, o + j * 5 + 3, none⟩) hd).trans z3; have c4 := (J.bb.cell (p := ⟨d, o + j * 5 + 4, none⟩) hd).trans z4; go_simp; exact kk.out _ _ (J.st 14 rfl rfl)
     ·intro L a U ho J hn dd KK kk; refine .free rfl ?_; have r15 := J.read 15 rfl (dd.get 15 rfl); have r16 := J.read 16 rfl (dd.get 16 rfl); go_simp; exact kk.out _ _ (J.st 17 rfl rfl)
     ·intro L a U ho J hn dd KK kk; refine .free rfl ?_; have r17 := J.read 17 rfl (dd.get 17 rfl); have c0 := (J.bb.cell (p := ⟨d, o + k * 5, none⟩) hd).trans x0; have c1 := (J.bb.cell (p := ⟨d, o + k * 5 + 1, none⟩) hd).trans x1; have c2 := (J.bb.cell (p := ⟨d, o + k * 5 + 2, none⟩) hd).trans x2; have c3 := (J.bb.cell (p := ⟨d, o + k * 5 + 3, none⟩) hd).trans x3; have c4 := (J.bb.cell (p := ⟨d, o + k * 5 + 4, none⟩) hd).trans x4; go_simp; exact kk.out _ _ (J.st 18 rfl rfl)
     ·intro L a U ho J hn dd KK kk; refine .free rfl ?_; have r9 := J.read 9 rfl (dd.get 9 rfl); have r19 := J.read 19 rfl (dd.get 19 rfl); go_simp; exact kk.out _ _ (J.st 20 rfl rfl)
     rintro σ W9 _ _ _ _ QQ
     simp only [slotsOf, finX, nval, nvalN, nvalA, Nat.reduceBEq, cond_true, cond_false, putAll, Act.put, List.setIfInBounds_toArray, List.set_cons_succ, List.set_cons_zero]
     have B2 := Lib.hid (B.out.trans (QQ.out.mono B.out.size))
     clear QQ RS1 RS2
     go_wp2
     go_round
     case rel => exact ⟨k + 1, by omega, by omega, by go_num, B2.out⟩
     case measure => simp [intOf]; omega
    ·have hlt' : ¬ (k : Int) < (ts.length : Int) := by omega
     go_upto_region 15 with (first
      | (go_at_call 28; with_reducible refine (LP.out _ (baseI B.out) (HV.out.below B.out)).mono ?_; rintro e wx ⟨rfl, q⟩; replace B := Lib.hid (goI B.out q); clear q)
      | fail "arm")
     go_upto_region 16 with (first
      | (go_at_call 29; with_reducible refine (KP.out _ (HV.out.below B.out)).mono ?_; rintro e wx ⟨rfl, q⟩; replace B := Lib.hid (goI B.out q); clear q)
      | (go_at_call 14; with_reducible refine (S3.out _ (baseI B.out)).mono ?_; rintro e w2 ⟨v2, rfl, tr2, q2⟩)
      | fail "arm")
     have q3 := q2.alloc q2.size (.cells #[.int .i64 R3.line, .int .i64 R3.col] 27)
     have TR := Lib.hid (tr2.below (below_new w2 (.cells #[.int .i64 R3.line, .int .i64 R3.col] 27))).look
     replace B := Lib.hid (B.out.trans (q3.mono B.out.size))
     obtain ⟨a8, c8, rfl⟩ := tr2.len_eval
     clear tr2 q2 q3 LP S3 hlt hk hk1
     generalize (w2.alloc (Obj.cells #[.int .i64 R3.line, .int .i64 R3.col] 27)) = W2 at *
     obtain ⟨fb0, hfb0⟩ : ∃ fb0, fb0 = ((R3.err == 0) && ((R3.toks.length : Int) == (ts.length : Int))) := ⟨_, rfl⟩
     have HFB := Lib.hid hfb0
     clear hfb0
     go_cut [11] from 77 to 85 (fun bv wc => bv = .bool fb0 ∧ wc = W2)
     case first =>
      cases h1 : (R3.err == 0) with
      | true =>
       have HF := Lib.hid (show fb0 = ((R3.toks.length : Int) == (ts.length : Int)) by rw [HFB.out, h1, Bool.true_and])
       go_wp2_with (fail)
       go_meet
       case rel => exact ⟨by rw [HF.out], rfl⟩
      | false =>
       have HF := Lib.hid (show fb0 = false by rw [HFB.out, h1, Bool.false_and])
       go_wp2_with (fail)
       go_meet
       case rel => exact ⟨by rw [HF.out], rfl⟩
     case rest =>
      obtain ⟨rfl, rfl⟩ := hcut
      go_wp2
      go_loopw [11, 12] (fun fv iv wr => ∃ (fb : Bool) (k : Nat), fv = .bool fb ∧ iv = .int .i64 k ∧ k ≤ R3.toks.length ∧ (fb = true → R3.err = 0 ∧ R3.toks.length = ts.length ∧ SameTo R3.toks ts k) ∧ (fb = false → ¬ (R3.err = 0 ∧ SameL R3.toks ts)) ∧ Below wc.heap.size wc wr) (fun fv iv _ => match fv with | .bool true => R3.toks.length + 1 - (intOf iv).toNat | _ => 0)
      case atStart =>
       refine ⟨fb0, 0, rfl, rfl, Nat.zero_le _, fun h => ?_, fun h => ?_, Below.refl _ _⟩
       ·rw [HFB.out, Bool.and_eq_true, beq_iff_eq, beq_iff_eq] at h
        exact ⟨h.1, by omega, fun i a b h => by omega⟩
       ·rintro ⟨h1, h2⟩
        have h3 := h2.length
        rw [HFB.out, h1, h3] at h
        simp at h
      case round =>
       obtain ⟨fb, k, rfl, rfl, hk, hy, hn, hQB⟩ := hrel
       have QB := Lib.hid hQB
       have HY := Lib.hid hy
       have HN := Lib.hid hn
       clear hQB hy hn
       cases fb with
       | true =>
        obtain ⟨he0, hll, hst⟩ := HY.out rfl
        have HLL := Lib.hid hll
        have ST := Lib.hid hst
        have HE0 := Lib.hid he0
        clear he0 hll hst HY HN
        by_cases hlt2 : k < R3.toks.length
        ·have hlt : k < ts.length := by have := HLL.out; omega
         have B' := Lib.hid (B.out.trans (QB.out.mono B.out.size))
         obtain ⟨d, o, c1, e1, hd, q1⟩ := (HV.out.below B'.out).cell2 k hlt
         obtain ⟨d', o', c4, e2, hd', q2⟩ := (TR.out.below QB.out).cell2 k hlt2
         injection e1 with e1 _ e1c
         injection e2 with e2 _ e2c
         subst e1 e2 e1c e2c
         have ht := List.getElem?_eq_getElem hlt
         have hu := List.getElem?_eq_getElem hlt2
         generalize ts[k] = t at *
         generalize R3.toks[k] = u at *
         have HT := Lib.hid ht
         have HU := Lib.hid hu
         clear ht hu
         have x0 : wr.cell? ⟨d, o + k * 5, none⟩ = _ := q1 0 _ rfl
         have x1 := q1 1 _ rfl
         have x2 := q1 2 _ rfl
         have x3 := q1 3 _ rfl
         have x4 := q1 4 _ rfl
         have y0 : wr.cell? ⟨d', o' + k * 5, none⟩ = _ := q2 0 _ rfl
         have y1 := q2 1 _ rfl
         have y2 := q2 2 _ rfl
         have y3 := q2 3 _ rfl
         have y4 := q2 4 _ rfl
         clear q1 q2
         have hi : (k : Int) < (ts.length : Int) := by omega
         have hi2 : (k : Int) < (R3.toks.length : Int) := by omega
         obtain ⟨q, hq⟩ : ∃ q, sameB u t = q := ⟨_, rfl⟩
         have HQ := Lib.hid hq
         have RS3 : Hid (Ret Tryz.prog wr 30 #[.agg #[.int .i64 u.kind, .string ⟨u.text.toArray⟩, .string ⟨u.value.toArray⟩, .int .i64 ((u.line : Int)), .int .i64 ((u.col : Int))], .agg #[.int .i64 t.kind, .string ⟨t.text.toArray⟩, .string ⟨t.value.toArray⟩, .int .i64 (PL k), .int .i64 (PC k)]] (.bool q)) := Lib.hid (fun W _ => by rw [← hq]; exact ksameG u t (u.line : Int) (u.col : Int) (PL k) (PC k) W)
         clear hq B'
         go_upto_region 20 with (fail)
         refine wp_tab (.v 95 (.slice (some ⟨d', o', none⟩) R3.toks.length c8) :: .v 96 (.int .i64 (k : Int)) :: .v 97 (.pointer (some ⟨d', o' + k * 5, none⟩)) :: .v 98 (.agg #[.int .i64 u.kind, .string ⟨u.text.toArray⟩, .string ⟨u.value.toArray⟩, .int .i64 ((u.line : Int)), .int .i64 ((u.col : Int))]) :: .v 99 (.slice (some ⟨d, o, none⟩) ts.length c) :: .v 100 (.int .i64 (k : Int)) :: .v 101 (.pointer (some ⟨d, o + k * 5, none⟩)) :: .v 102 (.agg #[.int .i64 t.kind, .string ⟨t.text.toArray⟩, .string ⟨t.value.toArray⟩, .int .i64 (PL k), .int .i64 (PC k)]) :: .v 103 (.bool q) :: .v 11 (.bool q) :: []) [] [] [] [] [] [] [] (by kernel_rfl) (Below.refl wr.heap.size wr) trivial trivial ⟨pu, pu, ?_, ?_, pu, pu, ?_, ?_, cl RS3.out, pu, trivial⟩ ?_
         ·intro L a U ho J hn dd KK kk; refine .free rfl ?_; have r0 := J.read 0 rfl (dd.get 0 rfl); have r1 := J.read 1 rfl (dd.get 1 rfl); go_simp; exact kk.out _ _ (J.st 2 rfl rfl)
         ·intro L a U ho J hn dd KK kk; refine .free rfl ?_; have r2 := J.read 2 rfl (dd.get 2 rfl); have c0 := (J.bb.cell (p := ⟨d', o' + k * 5, none⟩) hd').trans y0; have c1 := (J.bb.cell (p := ⟨d', o' + k * 5 + 1, none⟩) hd').trans y1; have c2 := (J.bb.cell (p := ⟨d', o' + k * 5 + 2, none⟩) hd').trans y2; have c3 := (J.bb.cell (p := ⟨d', o' + k * 5 + 3, none⟩) hd').trans y3; have c4 := (J.bb.cell (p := ⟨d', o' + k * 5 + 4, none⟩) hd').trans y4; go_simp; exact kk.out _ _ (J.st 3 rfl rfl)
         ·intro L a U ho J hn dd KK kk; refine .free rfl ?_; have r4 := J.read 4 rfl (dd.get 4 rfl); have r5 := J.read 5 rfl (dd.get 5 rfl); go_simp; exact kk.out _ _ (J.st 6 rfl rfl)
         ·intro L a U ho J hn dd KK kk; refine .free rfl ?_; have r6 := J.read 6 rfl (dd.get 6 rfl); have c0 := (J.bb.cell (p := ⟨d, o + k * 5, none⟩) hd).trans x0; have c1 := (J.bb.cell (p := ⟨d, o + k * 5 + 1, none⟩) hd).trans x1; have c2 := (J.bb.cell (p := ⟨d, o + k * 5 + 2, none⟩) hd).trans x2; have c3 := (J.bb.cell (p := ⟨d, o + k * 5 + 3, none⟩) hd).trans x3; have c4 := (J.bb.cell (p := ⟨d, o + k * 5 + 4, none⟩) hd).trans x4; go_simp; exact kk.out _ _ (J.st 7 rfl rfl)
         rintro σ W9 _ _ _ _ QQ
         simp only [slotsOf, finX, nval, nvalN, nvalA, Nat.reduceBEq, cond_true, cond_false, putAll, Act.put, List.setIfInBounds_toArray, List.set_cons_succ, List.set_cons_zero]
         have QB2 := Lib.hid (QB.out.trans (QQ.out.mono QB.out.size))
         clear QQ RS3
         cases q with
         | true =>
          have NX := Lib.hid (ST.out.next HU.out HT.out HQ.out)
          go_wp2
          refine ⟨⟨true, k + 1, rfl, by go_num, hlt2, (fun _ => ⟨HE0.out, HLL.out, NX.out⟩), (fun h => by cases h), QB2.out⟩, ?_⟩
          simp [intOf]; omega
         | false =>
          have hno : ¬ (R3.err = 0 ∧ SameL R3.toks ts) := fun h => by
           have := (sameB_iff u t).2 (h.2.look k u t HU.out HT.out)
           rw [HQ.out] at this
           cases this
          have HNO := Lib.hid hno
          clear hno
          go_wp2
          refine ⟨⟨false, k + 1, rfl, by go_num, hlt2, (fun h => by cases h), (fun _ => HNO.out), QB2.out⟩, ?_⟩
          simp [intOf]; omega
        ·have hkl : k = R3.toks.length := by omega
         have hsl : SameL R3.toks ts := SameL.of_at HLL.out (fun i a b ha hb => ST.out i a b (by have := (List.getElem?_eq_some_iff.1 ha).1; omega) ha hb)
         have hye : Y = M ∧ E = 0 := by
          rcases YE.out with ⟨_, h1, h2⟩ | ⟨h1, _⟩
          ·exact ⟨h1, h2⟩
          ·exact absurd ⟨HE0.out, hsl⟩ h1
         obtain ⟨hY, hE⟩ := hye
         subst hY hE
         have BB := Lib.hid (B.out.trans (QB.out.mono B.out.size))
         have hlt' : ¬ (k : Int) < (R3.toks.length : Int) := by omega
         clear hsl hkl hlt2 YE ST HLL
         go_wp2_with (first
          | (go_at_call 29; with_reducible refine (KP.out _ (HV.out.below BB.out)).mono ?_; rintro e wx ⟨rfl, q⟩; replace BB := Lib.hid (goI BB.out q); clear q)
          | fail "arm")
         go_ret
         exact ⟨by simp, BB.out⟩
       | false =>
        have hno := HN.out rfl
        have hye : Y = ⟨#[]⟩ ∧ E = 7 := by
         rcases YE.out with ⟨h1, _⟩ | ⟨_, h1, h2⟩
         ·exact absurd h1 hno
         ·exact ⟨h1, h2⟩
        obtain ⟨hY, hE⟩ := hye
        subst hY hE
        have BB := Lib.hid (B.out.trans (QB.out.mono B.out.size))
        clear hno YE HY HN
        by_cases hlt2 : k < R3.toks.length
        ·have hi2 : decide ((k : Int) < (R3.toks.length : Int)) = true := decide_eq_true (by omega)
         clear hlt2
         go_wp2
         all_goals
          go_ret
          exact ⟨by simp, BB.out⟩
        ·have hi2 : decide ((k : Int) < (R3.toks.length : Int)) = false := decide_eq_false (by omega)
         clear hlt2
         go_wp2
         all_goals
          go_ret
          exact ⟨by simp, BB.out⟩

end Go.Proofs.YtfhmgkicccfghaaGreatDoor
