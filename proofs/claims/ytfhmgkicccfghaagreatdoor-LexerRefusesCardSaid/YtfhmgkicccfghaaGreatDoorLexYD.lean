/- The model's scan. -/
import Derived.Test.YtfhmgkicccfghaaGreatDoorLexYC
import Derived.Deep.CutRange
import Derived.Deep.CutBlock
namespace Go.Proofs.YtfhmgkicccfghaaGreatDoor
set_option linter.all false
open Go.RowKit

theorem drop_at (S : ByteArray) (i : Nat) (h : i < S.size) : S.data.toList.drop i = S[i] :: S.data.toList.drop (i + 1) := by
 rw [List.drop_eq_getElem_cons (by rw [← Lib.size_eq]; exact h)]
 rfl
theorem drop_while (p : UInt8 → Bool) : ∀ l : List UInt8, l.dropWhile p = l.drop (l.takeWhile p).length
 | [] => rfl
 | c :: l => by
  rw [List.dropWhile_cons, List.takeWhile_cons]
  split
  ·rw [List.length_cons, List.drop_succ_cons, drop_while p l]
  ·rfl
theorem blank_mem (c : UInt8) : decide (c ∈ (ByteArray.mk #[32, 9, 13]).data.toList) = isBlank c := by
 rw [Bool.eq_iff_iff, decide_eq_true_eq]
 unfold isBlank
 simp
 exact or_assoc.symm
def ScanAt (parse : List UInt8 → List UInt8 × Int) (S : ByteArray) (R : Res) (i line bg : Nat) (found : Bool) (acc : List Tok) : Prop :=
 (i ≤ S.size → scanF parse (S.data.toList.drop i) line (i - bg + 1) found acc = R) ∧ (i = S.size + 1 → R = ⟨acc, 0, 0, 0⟩)
theorem scanAt_eol {parse : List UInt8 → List UInt8 × Int} {S : ByteArray} {R : Res} {i line bg : Nat} {found : Bool} {acc : List Tok} (h : ScanAt parse S R i line bg found acc) (hi : i ≤ S.size) (he : i = S.size ∨ ∃ h : i < S.size, S[i] = 10) :
  (found = true → acc.length = 5000 → R = ⟨[], line, i - bg + 1, 4⟩) ∧ (found = true → acc.length ≠ 5000 → ScanAt parse S R (i + 1) (line + 1) (i + 1) false (acc ++ [endT line (i - bg + 1)])) ∧ (found = false → ScanAt parse S R (i + 1) (line + 1) (i + 1) false acc) := by
 have h1 := h.1 hi
 rcases he with rfl | ⟨hlt, h10⟩
 ·have hd : S.data.toList.drop S.size = [] := List.drop_of_length_le (by rw [← Lib.size_eq]; exact Nat.le_refl _)
  rw [hd, scanF_nil] at h1
  refine ⟨fun hf h5 => ?_, fun hf h5 => ⟨fun h => by omega, fun _ => ?_⟩, fun hf => ⟨fun h => by omega, fun _ => ?_⟩⟩
  ·rw [if_pos hf, if_pos h5] at h1; exact h1.symm
  ·rw [if_pos hf, if_neg h5] at h1; exact h1.symm
  ·rw [if_neg (by rw [hf]; decide)] at h1; exact h1.symm
 ·rw [drop_at S i hlt, h10, scanF_nl] at h1
  have e1 : i + 1 - (i + 1) + 1 = 1 := by omega
  refine ⟨fun hf h5 => ?_, fun hf h5 => ⟨fun _ => ?_, fun h => by omega⟩, fun hf => ⟨fun _ => ?_, fun h => by omega⟩⟩
  ·rw [if_pos hf, if_pos h5] at h1; exact h1.symm
  ·rw [if_pos hf, if_neg h5] at h1; rw [e1]; exact h1
  ·rw [if_neg (by rw [hf]; decide)] at h1; rw [e1]; exact h1

set_option maxRecDepth 100000 in
set_option maxHeartbeats 8000000 in
theorem kscan_any (parse : List UInt8 → List UInt8 × Int) (S : ByteArray) (w : World) (hs : S.size ≤ 65536)
  (hp : ∀ c r, isNumStart c r = true → (c :: r).Sublist S.data.toList → ParseC parse w (c :: r.takeWhile isNum)) :
  Calls Tryz.prog 14 #[.string S] w (ScanR w (scanF parse S.data.toList 1 1 false [])) := by
 have hmf : ∀ (fn : Fn) (first cap : Array Value) (w : World), (Instr.makeFunc fn first cap).run Tryz.prog w = .ok (.func fn first cap) w := fun _ _ _ _ => rfl
 have hst : ScanAt parse S (scanF parse S.data.toList 1 1 false []) 0 1 0 false [] := ⟨fun _ => rfl, fun h => by omega⟩
 generalize scanF parse S.data.toList 1 1 false [] = R at *
 have kp := Blk.fresh w #[.int .i64 0, .int .i64 0] 27
 have b0 := (Below.refl w.heap.size w).alloc (Nat.le_refl _) (.cells #[.int .i64 0, .int .i64 0] 27)
 have hz : (w.alloc (.cells #[.int .i64 0, .int .i64 0] 27)).heap.size = w.heap.size + 1 := by simp
 have ko := Blk.fresh (w.alloc (.cells #[.int .i64 0, .int .i64 0] 27)) #[.slice none 0 0] 25
 rw [hz] at ko
 replace kp := kp.alloc (.cells #[.slice none 0 0] 25)
 have b1 := b0.alloc b0.size (.cells #[.slice none 0 0] 25)
 have KP := Lib.hid kp
 have KO := Lib.hid ko
 have B := Lib.hid b1
 have HP := Lib.hid hp
 have HST := Lib.hid hst
 clear kp b0 hz ko b1 hp hst
 go_enter Tryz.func14, Tryz.ntmps14
 go_upto_region 4 with (fail)
 generalize ((w.alloc (Obj.cells #[.int .i64 0, .int .i64 0] 27)).alloc (Obj.cells #[.slice none 0 0] 25)) = W0 at *
 go_wp2
 go_loopw [6, 7, 8, 10] (fun ln bgv fd iv wr => ∃ (i line bg : Nat) (found : Bool) (acc : List Tok) (v : Value), (ln = .int .i64 line ∧ bgv = .int .i64 bg ∧ fd = .bool found ∧ iv = .int .i64 i) ∧ (i ≤ S.size + 1 ∧ bg ≤ i ∧ line ≤ i + 1 ∧ acc.length ≤ 5000) ∧ Blk wr w.heap.size #[.int .i64 0, .int .i64 0] 27 ∧ Blk wr (w.heap.size + 1) #[v] 25 ∧ TokRow wr (w.heap.size + 2) v acc ∧ Below w.heap.size w wr ∧ ScanAt parse S R i line bg found acc) (fun _ _ _ iv _ => S.size + 2 - (intOf iv).toNat)
 case atStart => exact ⟨0, 1, 0, false, [], _, ⟨rfl, rfl, rfl, rfl⟩, ⟨by omega, by omega, by omega, by decide⟩, KP.out, KO.out, TokRow.nil _ _, B.out, HST.out⟩
 case round =>
  obtain ⟨i, line, bg, found, acc, v, ⟨rfl, rfl, rfl, rfl⟩, ⟨hi, hbg, hline, hacc⟩, hkp, hko, htr, hb, hsa⟩ := hrel
  clear KP KO B HST
  have KP := Lib.hid hkp
  have KO := Lib.hid hko
  have TR := Lib.hid htr
  have B := Lib.hid hb
  have HSA := Lib.hid hsa
  have hsz0 : w.heap.size + 2 ≤ wr.heap.size := by have := hko.lt; omega
  obtain ⟨va, vc, rfl⟩ := htr.len_eval
  clear hkp hko htr hb hsa
  have hcol : ((i - bg + 1 : Nat) : Int) = ((i : Int) - (bg : Int) + 1) := by omega
  by_cases hle : i ≤ S.size
  ·go_upto_region 7 with (fail)
   have KA := Lib.hid (Blk.fresh wr #[.int .i64 (line : Int), .int .i64 ((i : Int) - (bg : Int) + 1)] 27)
   have Q := below_new wr (.cells #[.int .i64 (line : Int), .int .i64 ((i : Int) - (bg : Int) + 1)] 27)
   replace KP := Lib.hid (KP.out.below Q)
   replace KO := Lib.hid (KO.out.below Q)
   replace TR := Lib.hid (TR.out.below Q)
   replace B := Lib.hid (B.out.alloc B.out.size (.cells #[.int .i64 (line : Int), .int .i64 ((i : Int) - (bg : Int) + 1)] 27))
   have hsz : w.heap.size + 2 ≤ (wr.alloc (.cells #[.int .i64 (line : Int), .int .i64 ((i : Int) - (bg : Int) + 1)] 27)).heap.size := Nat.le_trans hsz0 Q.size
   clear Q
   generalize (wr.alloc (Obj.cells #[.int .i64 (line : Int), .int .i64 ((i : Int) - (bg : Int) + 1)] 27)) = W1 at *
   generalize hA : wr.heap.size = A at *
   generalize hV : Value.slice va acc.length vc = v at *
   by_cases heol : i = S.size ∨ ∃ h : i < S.size, S[i] = 10
   ·have heo := scanAt_eol HSA.out hle heol
    have HE := Lib.hid heo
    clear heo HSA
    rcases heol with hi2 | ⟨hi2, h10⟩
    ·have x1 : ((i : Int) == (S.size : Int)) = true := by rw [hi2]; exact beq_self_eq_true _
     clear hi2
     go_upto_region 8 with (fail)
     clear x1
     have a0 := KA.out.at_ 0 _ rfl
     have a1 := KA.out.at_ 1 _ rfl
     cases found with
     | true =>
      by_cases h5 : acc.length = 5000
      ·have AD : Hid (Calls Tryz.prog 34 #[.agg #[.int .i64 5, .string ⟨#[10]⟩, .string ⟨#[]⟩, .int .i64 0, .int .i64 0], .agg #[.int .i64 (line : Int), .int .i64 ((i : Int) - (bg : Int) + 1)], .pointer (some ⟨w.heap.size + 1, 0, none⟩)] W1 fun e w' => e = .returned (.int .i64 4) ∧ Below W1.heap.size W1 w') := Lib.hid (add_full _ _ _ _ _ _ _ KO.out TR.out h5 rfl rfl)
       have hR := HE.out.1 rfl h5
       have HR := Lib.hid hR
       clear hR HE h5
       go_upto_region 11 with (first
        | (go_at_call 34; with_reducible refine AD.out.mono ?_; rintro e wx ⟨rfl, q⟩; replace KA := Lib.hid (KA.out.near (by first | exact Near.same _ | exact Near.one _) q); replace KP := Lib.hid (KP.out.near (by first | exact Near.same _ | exact Near.one _) q); replace KO := Lib.hid (KO.out.near (by first | exact Near.same _ | exact Near.one _) q); replace TR := Lib.hid (TR.out.below q); replace B := Lib.hid (goI B.out q); clear q)
        | fail "arm")
       clear a0 a1
       have hA1 := KA.out.lt
       have hP1 := KP.out.lt
       have hAP : A ≠ w.heap.size := by omega
       refine wp_tab [.v 45 (.agg #[.int .i64 (line : Int), .int .i64 ((i : Int) - (bg : Int) + 1)]), .v 46 (.int .i64 4), .v 2 (.slice none 0 0), .z, .v 4 (.int .i64 4)] [] [⟨A, #[.int .i64 (line : Int), .int .i64 ((i : Int) - (bg : Int) + 1)], 27, none⟩, ⟨w.heap.size, #[.int .i64 0, .int .i64 0], 27, some (3, #[.int .i64 (line : Int), .int .i64 ((i : Int) - (bg : Int) + 1)])⟩] [] [] [] [] [] (by kernel_rfl) B.out ⟨KA.out, KP.out, trivial⟩ trivial ⟨ld 0 0, pu, pu, ?_, pu, trivial⟩ ?_
       ·intro L a U ho J hn dd KK kk; refine .free rfl ?_; have r3 : a.tmps[(3 : Nat)]?.getD undef = .pointer (some ⟨w.heap.size, 0, none⟩) := ho.slot 3 rfl; have r45 := J.read 0 rfl (dd.get 0 rfl); have kb := (J.eldB 1 rfl hn); have c0 := kb.at_ 0 _ rfl; have z0 := kb.free 0; have c1 := kb.at_ 1 _ rfl; have z1 := kb.free 1; clear kb; go_simp; exact kk.out undef _ (J.stored 3 1 rfl rfl (.inl rfl) rfl rfl 0 [.int .i64 (line : Int), .int .i64 ((i : Int) - (bg : Int) + 1)] rfl (Nat.le_refl _) hP1 ⟨.inr hAP, .inl rfl, trivial⟩ hn trivial)
       rintro σ WE _ ⟨_, KE, _⟩ _ _ BE
       simp only [slotsOf, finX, nval, nvalN, nvalA, Nat.reduceBEq, cond_true, cond_false, putAll, Act.put, List.setIfInBounds_toArray, List.set_cons_succ, List.set_cons_zero]
       go_wp2
       have e0 := KE.out.at_ 0 _ rfl
       have e1 := KE.out.at_ 1 _ rfl
       have hR := HR.out
       exact bodyPost_ret (v := scanV (.slice none 0 0) (line : Int) ((i : Int) - (bg : Int) + 1) 4) (by simp [results, Tryz.results14, go_sem, e0, e1, scanV]) rfl ⟨.slice none 0 0, by rw [hR, ← hcol], by rw [hR]; exact TokRow.nil _ _, BE.out⟩
      ·have AD : Hid (Calls Tryz.prog 34 #[.agg #[.int .i64 5, .string ⟨#[10]⟩, .string ⟨#[]⟩, .int .i64 0, .int .i64 0], .agg #[.int .i64 (line : Int), .int .i64 ((i : Int) - (bg : Int) + 1)], .pointer (some ⟨w.heap.size + 1, 0, none⟩)] W1 fun e w' => e = .returned (.int .i64 0) ∧ (∃ v', Blk w' (w.heap.size + 1) #[v'] 25 ∧ TokRow w' (w.heap.size + 2) v' (acc ++ [endT line (i - bg + 1)])) ∧ (∀ b cs T, b < w.heap.size + 2 → b ≠ w.heap.size + 1 → Blk W1 b cs T → Blk w' b cs T) ∧ Below (w.heap.size + 1) W1 w') := Lib.hid (by have h := add_tok (endT line (i - bg + 1)) (w.heap.size + 1) v acc (w.heap.size + 2) W1 (by omega) hsz KO.out TR.out (by omega); rw [show ((endT line (i - bg + 1)).col : Int) = ((i : Int) - (bg : Int) + 1) from hcol] at h; exact h)
       have hN := Lib.hid (HE.out.2.1 rfl h5)
       clear HE
       go_wp2_with (first
        | (go_at_call 34; with_reducible refine AD.out.mono ?_; rintro e wx ⟨rfl, ⟨v2, hO2, ht2⟩, hf, hq⟩; have KO2 := Lib.hid hO2; have TR2 := Lib.hid ht2; have KP2 := Lib.hid (hf _ _ _ (by omega) (by omega) KP.out); have B2 := Lib.hid (B.out.trans (hq.mono (by omega))); clear hO2 ht2 hf hq KO TR KP B)
        | fail "arm")
       refine ⟨⟨i + 1, line + 1, i + 1, false, acc ++ [endT line (i - bg + 1)], v2, ⟨by go_num, by go_num, rfl, by go_num⟩, ⟨by omega, by omega, by omega, by rw [List.length_append]; show acc.length + 1 ≤ 5000; omega⟩, KP2.out, KO2.out, TR2.out, B2.out, hN.out⟩, by simp [intOf]; omega⟩
     | false =>
      have hN := Lib.hid (HE.out.2.2 rfl)
      clear HE a0 a1
      go_wp2
      refine ⟨⟨i + 1, line + 1, i + 1, false, acc, v, ⟨by go_num, by go_num, rfl, by go_num⟩, ⟨by omega, by omega, by omega, hacc⟩, KP.out, KO.out, TR.out, B.out, hN.out⟩, by simp [intOf]; omega⟩
    ·have x1 : ((i : Int) == (S.size : Int)) = false := by rw [beq_eq_false_iff_ne]; omega
     have x2 : (((S[i].toNat : Nat) : Int) == 10) = true := u8_eq_true S[i] 10 (by decide) h10
     clear h10
     go_upto_region 8 with (fail)
     clear x1 x2
     have a0 := KA.out.at_ 0 _ rfl
     have a1 := KA.out.at_ 1 _ rfl
     cases found with
     | true =>
      by_cases h5 : acc.length = 5000
      ·have AD : Hid (Calls Tryz.prog 34 #[.agg #[.int .i64 5, .string ⟨#[10]⟩, .string ⟨#[]⟩, .int .i64 0, .int .i64 0], .agg #[.int .i64 (line : Int), .int .i64 ((i : Int) - (bg : Int) + 1)], .pointer (some ⟨w.heap.size + 1, 0, none⟩)] W1 fun e w' => e = .returned (.int .i64 4) ∧ Below W1.heap.size W1 w') := Lib.hid (add_full _ _ _ _ _ _ _ KO.out TR.out h5 rfl rfl)
       have hR := HE.out.1 rfl h5
       have HR := Lib.hid hR
       clear hR HE h5
       go_upto_region 11 with (first
        | (go_at_call 34; with_reducible refine AD.out.mono ?_; rintro e wx ⟨rfl, q⟩; replace KA := Lib.hid (KA.out.near (by first | exact Near.same _ | exact Near.one _) q); replace KP := Lib.hid (KP.out.near (by first | exact Near.same _ | exact Near.one _) q); replace KO := Lib.hid (KO.out.near (by first | exact Near.same _ | exact Near.one _) q); replace TR := Lib.hid (TR.out.below q); replace B := Lib.hid (goI B.out q); clear q)
        | fail "arm")
       clear a0 a1
       have hA1 := KA.out.lt
       have hP1 := KP.out.lt
       have hAP : A ≠ w.heap.size := by omega
       refine wp_tab [.v 45 (.agg #[.int .i64 (line : Int), .int .i64 ((i : Int) - (bg : Int) + 1)]), .v 46 (.int .i64 4), .v 2 (.slice none 0 0), .z, .v 4 (.int .i64 4)] [] [⟨A, #[.int .i64 (line : Int), .int .i64 ((i : Int) - (bg : Int) + 1)], 27, none⟩, ⟨w.heap.size, #[.int .i64 0, .int .i64 0], 27, some (3, #[.int .i64 (line : Int), .int .i64 ((i : Int) - (bg : Int) + 1)])⟩] [] [] [] [] [] (by kernel_rfl) B.out ⟨KA.out, KP.out, trivial⟩ trivial ⟨ld 0 0, pu, pu, ?_, pu, trivial⟩ ?_
       ·intro L a U ho J hn dd KK kk; refine .free rfl ?_; have r3 : a.tmps[(3 : Nat)]?.getD undef = .pointer (some ⟨w.heap.size, 0, none⟩) := ho.slot 3 rfl; have r45 := J.read 0 rfl (dd.get 0 rfl); have kb := (J.eldB 1 rfl hn); have c0 := kb.at_ 0 _ rfl; have z0 := kb.free 0; have c1 := kb.at_ 1 _ rfl; have z1 := kb.free 1; clear kb; go_simp; exact kk.out undef _ (J.stored 3 1 rfl rfl (.inl rfl) rfl rfl 0 [.int .i64 (line : Int), .int .i64 ((i : Int) - (bg : Int) + 1)] rfl (Nat.le_refl _) hP1 ⟨.inr hAP, .inl rfl, trivial⟩ hn trivial)
       rintro σ WE _ ⟨_, KE, _⟩ _ _ BE
       simp only [slotsOf, finX, nval, nvalN, nvalA, Nat.reduceBEq, cond_true, cond_false, putAll, Act.put, List.setIfInBounds_toArray, List.set_cons_succ, List.set_cons_zero]
       go_wp2
       have e0 := KE.out.at_ 0 _ rfl
       have e1 := KE.out.at_ 1 _ rfl
       have hR := HR.out
       exact bodyPost_ret (v := scanV (.slice none 0 0) (line : Int) ((i : Int) - (bg : Int) + 1) 4) (by simp [results, Tryz.results14, go_sem, e0, e1, scanV]) rfl ⟨.slice none 0 0, by rw [hR, ← hcol], by rw [hR]; exact TokRow.nil _ _, BE.out⟩
      ·have AD : Hid (Calls Tryz.prog 34 #[.agg #[.int .i64 5, .string ⟨#[10]⟩, .string ⟨#[]⟩, .int .i64 0, .int .i64 0], .agg #[.int .i64 (line : Int), .int .i64 ((i : Int) - (bg : Int) + 1)], .pointer (some ⟨w.heap.size + 1, 0, none⟩)] W1 fun e w' => e = .returned (.int .i64 0) ∧ (∃ v', Blk w' (w.heap.size + 1) #[v'] 25 ∧ TokRow w' (w.heap.size + 2) v' (acc ++ [endT line (i - bg + 1)])) ∧ (∀ b cs T, b < w.heap.size + 2 → b ≠ w.heap.size + 1 → Blk W1 b cs T → Blk w' b cs T) ∧ Below (w.heap.size + 1) W1 w') := Lib.hid (by have h := add_tok (endT line (i - bg + 1)) (w.heap.size + 1) v acc (w.heap.size + 2) W1 (by omega) hsz KO.out TR.out (by omega); rw [show ((endT line (i - bg + 1)).col : Int) = ((i : Int) - (bg : Int) + 1) from hcol] at h; exact h)
       have hN := Lib.hid (HE.out.2.1 rfl h5)
       clear HE
       go_wp2_with (first
        | (go_at_call 34; with_reducible refine AD.out.mono ?_; rintro e wx ⟨rfl, ⟨v2, hO2, ht2⟩, hf, hq⟩; have KO2 := Lib.hid hO2; have TR2 := Lib.hid ht2; have KP2 := Lib.hid (hf _ _ _ (by omega) (by omega) KP.out); have B2 := Lib.hid (B.out.trans (hq.mono (by omega))); clear hO2 ht2 hf hq KO TR KP B)
        | fail "arm")
       refine ⟨⟨i + 1, line + 1, i + 1, false, acc ++ [endT line (i - bg + 1)], v2, ⟨by go_num, by go_num, rfl, by go_num⟩, ⟨by omega, by omega, by omega, by rw [List.length_append]; show acc.length + 1 ≤ 5000; omega⟩, KP2.out, KO2.out, TR2.out, B2.out, hN.out⟩, by simp [intOf]; omega⟩
     | false =>
      have hN := Lib.hid (HE.out.2.2 rfl)
      clear HE a0 a1
      go_wp2
      refine ⟨⟨i + 1, line + 1, i + 1, false, acc, v, ⟨by go_num, by go_num, rfl, by go_num⟩, ⟨by omega, by omega, by omega, hacc⟩, KP.out, KO.out, TR.out, B.out, hN.out⟩, by simp [intOf]; omega⟩
   ·have hi2 : i < S.size := by have : i ≠ S.size := fun h => heol (.inl h); omega
    have hn10 : S[i] ≠ 10 := fun h => heol (.inr ⟨hi2, h⟩)
    have x1 : ((i : Int) == (S.size : Int)) = false := by rw [beq_eq_false_iff_ne]; omega
    have x2 : (((S[i].toNat : Nat) : Int) == 10) = false := u8_eq_false S[i] 10 (by decide) hn10
    have hsc := HSA.out.1 hle
    rw [drop_at S i hi2] at hsc
    have hbm := blank_mem S[i]
    have ha := fun W => has_is ⟨#[32, 9, 13]⟩ S[i] W (by decide)
    rw [hbm] at ha
    clear hbm heol HSA
    cases hbk : isBlank S[i] with
    | true =>
     rw [hbk] at ha
     rw [scanF_blank _ _ _ _ _ _ _ hn10 hbk] at hsc
     have HS := Lib.hid hsc
     have HH := Lib.hid ha
     clear hsc ha hbk hn10
     go_wp2_with (first
      | (go_at_call 35; with_reducible refine (HH.out _).mono ?_; rintro e wx ⟨rfl, q⟩; replace KA := Lib.hid (KA.out.near (by first | exact Near.same _ | exact Near.one _) q); replace KP := Lib.hid (KP.out.near (by first | exact Near.same _ | exact Near.one _) q); replace KO := Lib.hid (KO.out.near (by first | exact Near.same _ | exact Near.one _) q); replace TR := Lib.hid (TR.out.below q); replace B := Lib.hid (goI B.out q); clear q)
      | fail "arm")
     refine ⟨⟨i + 1, line, bg, found, acc, v, ⟨rfl, rfl, rfl, by go_num⟩, ⟨by omega, by omega, by omega, hacc⟩, KP.out, KO.out, TR.out, B.out, ⟨fun _ => by rw [show i + 1 - bg + 1 = i - bg + 1 + 1 by omega]; exact HS.out, fun h => by omega⟩⟩, by simp [intOf]; omega⟩
    | false =>
     rw [hbk] at ha
     have HH := Lib.hid ha
     have HBK := Lib.hid hbk
     have HN10 := Lib.hid hn10
     have HS := Lib.hid hsc
     clear hsc ha hbk hn10
     go_upto_block 2 with (first
      | (go_at_call 35; with_reducible refine (HH.out _).mono ?_; rintro e wx ⟨rfl, q⟩; replace KA := Lib.hid (KA.out.near (by first | exact Near.same _ | exact Near.one _) q); replace KP := Lib.hid (KP.out.near (by first | exact Near.same _ | exact Near.one _) q); replace KO := Lib.hid (KO.out.near (by first | exact Near.same _ | exact Near.one _) q); replace TR := Lib.hid (TR.out.below q); replace B := Lib.hid (goI B.out q); clear q)
      | fail "arm")
     clear x1 x2 HH
     have hnotnl : notNl S[i] = true := by unfold notNl; rw [bne_iff_ne]; exact HN10.out
     go_cut [13] from 60 to 71 (fun ev wc => ∃ j : Nat, ev = .int .i64 j ∧ i < j ∧ j ≤ S.size ∧ ((S.data.toList.drop i).takeWhile notNl).length = j - i ∧ wc = wx)
     case first =>
      have HNN := Lib.hid hnotnl
      clear hnotnl
      go_wp2_with (fail)
      go_loopw [13] (fun jv wy => ∃ j : Nat, i ≤ j ∧ j ≤ S.size ∧ jv = .int .i64 j ∧ ((S.data.toList.drop i).take (j - i)).all notNl = true ∧ wy = wx) (fun jv _ => S.size - (intOf jv).toNat)
      case atStart => exact ⟨i, Nat.le_refl _, hle, rfl, by rw [Nat.sub_self]; rfl, rfl⟩
      case round =>
       obtain ⟨j, hj1, hj2, rfl, hall, rfl⟩ := hrel
       have HALL := Lib.hid hall
       clear hall
       have hjl : j - i ≤ (S.data.toList.drop i).length := by rw [List.length_drop, ← Lib.size_eq]; omega
       by_cases hlt : j < S.size
       ·have hd : j - i < (S.data.toList.drop i).length := by rw [List.length_drop, ← Lib.size_eq]; omega
        have hg : (S.data.toList.drop i)[j - i] = S[j] := by
         have e1 : (S.data.toList.drop i)[j - i] = S.data.toList[j]'(by rw [← Lib.size_eq]; exact hlt) := by
          rw [List.getElem_drop]
          congr 1
          omega
         rw [e1]
         rfl
        have hnx := fun h => all_next notNl (S.data.toList.drop i) (j - i) hd HALL.out h
        rw [hg, show j - i + 1 = j + 1 - i by omega] at hnx
        have hst : notNl S[j] = false → ((S.data.toList.drop i).takeWhile notNl).length = j - i := fun h => take_len_end notNl (S.data.toList.drop i) (j - i) hjl HALL.out (fun _ => by rw [hg]; exact h)
        have hij : notNl S[j] = false → i < j := fun h => by
         rcases Nat.lt_or_eq_of_le hj1 with h1 | h1
         ·exact h1
         ·subst h1; rw [HNN.out] at h; cases h
        have HNX := Lib.hid hnx
        have HST := Lib.hid hst
        have HIJ := Lib.hid hij
        clear hnx hst hg hd hij
        by_cases h10 : S[j] = 10
        ·have x1 : (((S[j].toNat : Nat) : Int) == 10) = true := u8_eq_true S[j] 10 (by decide) h10
         have x2 : (((S[j].toNat : Nat) : Int) != 10) = false := by rw [bne, x1]; rfl
         have H10 := Lib.hid h10
         clear h10
         go_wp2
         go_meet
         case rel => exact ⟨j, rfl, HIJ.out (by rw [H10.out]; rfl), hj2, HST.out (by rw [H10.out]; rfl), rfl⟩
        ·have x1 : (((S[j].toNat : Nat) : Int) == 10) = false := u8_eq_false S[j] 10 (by decide) h10
         have x2 : (((S[j].toNat : Nat) : Int) != 10) = true := by rw [bne, x1]; rfl
         have H10 := Lib.hid h10
         clear h10
         go_wp2
         exact ⟨⟨j + 1, by omega, by omega, by go_num, HNX.out (by unfold notNl; rw [bne_iff_ne]; exact H10.out), trivial⟩, by simp [intOf]; omega⟩
       ·obtain rfl : j = S.size := by omega
        have hst : ((S.data.toList.drop i).takeWhile notNl).length = S.size - i := take_len_end notNl (S.data.toList.drop i) (S.size - i) hjl HALL.out (fun h => by rw [List.length_drop, ← Lib.size_eq] at h; omega)
        have HST := Lib.hid hst
        clear hst HALL
        go_wp2
        go_meet
        case rel => exact ⟨S.size, rfl, hi2, Nat.le_refl _, HST.out, rfl⟩
     case rest =>
      obtain ⟨j, rfl, hj1, hj2, hjl, rfl⟩ := hcut
      rw [drop_at S i hi2, List.takeWhile_cons, if_pos hnotnl, List.length_cons] at hjl
      have HJ := Lib.hid hjl
      clear hjl hnotnl
      by_cases h35 : S[i] = 35
      ·have x3 : (((S[i].toNat : Nat) : Int) == 35) = true := u8_eq_true S[i] 35 (by decide) h35
       have H35 := Lib.hid h35
       clear h35
       go_wp2
       refine ⟨⟨j, line, bg, found, acc, v, ⟨rfl, rfl, rfl, rfl⟩, ⟨by omega, by omega, by omega, hacc⟩, KP.out, KO.out, TR.out, B.out, ⟨fun _ => ?_, fun h => by omega⟩⟩, by simp [intOf]; omega⟩
       have h := HS.out
       rw [H35.out, scanF_comment, drop_while, List.drop_drop] at h
       have hj := HJ.out
       rw [show i - bg + 1 + 1 + ((S.data.toList.drop (i + 1)).takeWhile notNl).length = j - bg + 1 by omega, show i + 1 + ((S.data.toList.drop (i + 1)).takeWhile notNl).length = j by omega] at h
       exact h
      ·have x3 : (((S[i].toNat : Nat) : Int) == 35) = false := u8_eq_false S[i] 35 (by decide) h35
       have hS2 : (S.extract i j).data.toList = S[i] :: (S.data.toList.drop (i + 1)).takeWhile notNl := by
        have hj := HJ.out
        rw [show (S.extract i j).data.toList = (S.data.toList.drop i).take (j - i) by simp [ByteArray.data_extract], drop_at S i hi2, ← hj, List.take_succ_cons, takeWhile_take]
       have hsz2 : (S.extract i j).size ≤ 65536 := by rw [ByteArray.size_extract]; omega
       have hsub : (S[i] :: (S.data.toList.drop (i + 1)).takeWhile notNl).Sublist S.data.toList := by
        refine List.Sublist.trans ?_ (List.drop_sublist i S.data.toList)
        rw [drop_at S i hi2]
        exact (List.takeWhile_sublist _).cons₂ _
       have TA := Lib.hid (fun W (hW : Below w.heap.size w W) => token_any parse (S.extract i j) S[i] ((S.data.toList.drop (i + 1)).takeWhile notNl) hS2 hsz2 W (fun hn W' hW' => HP.out _ _ hn hsub W' (goI hW hW')))
       have hflen := first_len parse S[i] ((S.data.toList.drop (i + 1)).takeWhile notNl)
       rw [HJ.out] at hflen
       have hfe := scanF_err parse S[i] (S.data.toList.drop (i + 1)) line (i - bg + 1) found acc HN10.out HBK.out h35
       have hfl := scanF_lim parse S[i] (S.data.toList.drop (i + 1)) line (i - bg + 1) found acc HN10.out HBK.out h35
       have hft := scanF_tok parse S[i] (S.data.toList.drop (i + 1)) line (i - bg + 1) found acc HN10.out HBK.out h35
       rw [HS.out] at hfe hfl hft
       generalize firstS parse S[i] ((S.data.toList.drop (i + 1)).takeWhile notNl) = f at *
       have HFE := Lib.hid hfe
       have HFL := Lib.hid hfl
       have HFT := Lib.hid hft
       have HFN := Lib.hid hflen
       have FB : Hid (∀ W, Below w.heap.size w W → Calls Tryz.prog 36 #[.string (S.extract i j)] W fun e w' => e = .returned (.tuple #[.agg #[.int .i64 f.kind, .string ⟨f.text.toArray⟩, .string ⟨f.value.toArray⟩, .int .i64 0, .int .i64 0], .int .i64 f.len, .int .i64 f.err]) ∧ Below W.heap.size W w') := TA
       clear TA hflen hfe hfl hft h35 hS2 hsz2 hsub HBK HN10 HS
       go_upto_region 22 with (first
        | (go_at_call 36; with_reducible refine (FB.out _ (baseI B.out)).mono ?_; rintro e wx ⟨rfl, q⟩; replace KA := Lib.hid (KA.out.near (by first | exact Near.same _ | exact Near.one _) q); replace KP := Lib.hid (KP.out.near (by first | exact Near.same _ | exact Near.one _) q); replace KO := Lib.hid (KO.out.near (by first | exact Near.same _ | exact Near.one _) q); replace TR := Lib.hid (TR.out.below q); replace B := Lib.hid (goI B.out q); clear q)
        | fail "arm")
       clear x3 FB
       have T0 := Lib.hid (Blk.fresh wx #[.int .i64 f.kind, .string ⟨f.text.toArray⟩, .string ⟨f.value.toArray⟩, .int .i64 0, .int .i64 0] 38)
       have Q := below_new wx (.cells #[.int .i64 f.kind, .string ⟨f.text.toArray⟩, .string ⟨f.value.toArray⟩, .int .i64 0, .int .i64 0] 38)
       have hAw := KA.out.lt
       replace KA := Lib.hid (KA.out.below Q)
       replace KP := Lib.hid (KP.out.below Q)
       replace KO := Lib.hid (KO.out.below Q)
       replace TR := Lib.hid (TR.out.below Q)
       have hsz3 : w.heap.size + 2 ≤ wx.heap.size := by omega
       replace B := Lib.hid (B.out.alloc B.out.size (.cells #[.int .i64 f.kind, .string ⟨f.text.toArray⟩, .string ⟨f.value.toArray⟩, .int .i64 0, .int .i64 0] 38))
       have hsz : w.heap.size + 2 ≤ (wx.alloc (.cells #[.int .i64 f.kind, .string ⟨f.text.toArray⟩, .string ⟨f.value.toArray⟩, .int .i64 0, .int .i64 0] 38)).heap.size := Nat.le_trans hsz3 Q.size
       clear Q
       generalize (wx.alloc (Obj.cells #[.int .i64 f.kind, .string ⟨f.text.toArray⟩, .string ⟨f.value.toArray⟩, .int .i64 0, .int .i64 0] 38)) = W3 at *
       generalize wx.heap.size = tb at *
       by_cases he : f.err = 0
       ·have ee : (f.err == 0) = true := by rw [he]; rfl
        have HE0 := Lib.hid he
        have a0 := KA.out.at_ 0 _ rfl
        have a1 := KA.out.at_ 1 _ rfl
        have y0 := T0.out.at_ 0 _ rfl
        have y1 := T0.out.at_ 1 _ rfl
        have y2 := T0.out.at_ 2 _ rfl
        have y3 := T0.out.at_ 3 _ rfl
        have y4 := T0.out.at_ 4 _ rfl
        clear he
        by_cases h5 : acc.length = 5000
        ·have AD : Hid (Calls Tryz.prog 34 #[.agg #[.int .i64 f.kind, .string ⟨f.text.toArray⟩, .string ⟨f.value.toArray⟩, .int .i64 0, .int .i64 0], .agg #[.int .i64 (line : Int), .int .i64 ((i : Int) - (bg : Int) + 1)], .pointer (some ⟨w.heap.size + 1, 0, none⟩)] W3 fun e w' => e = .returned (.int .i64 4) ∧ Below W3.heap.size W3 w') := Lib.hid (add_full _ _ _ _ _ _ _ KO.out TR.out h5 rfl rfl)
         have HR := Lib.hid (HFL.out HE0.out h5)
         clear h5 HFE HFL HFT
         go_upto_region 25 with (first
          | (go_at_call 34; with_reducible refine AD.out.mono ?_; rintro e wx ⟨rfl, q⟩; replace KA := Lib.hid (KA.out.near (by first | exact Near.same _ | exact Near.one _) q); replace KP := Lib.hid (KP.out.near (by first | exact Near.same _ | exact Near.one _) q); replace KO := Lib.hid (KO.out.near (by first | exact Near.same _ | exact Near.one _) q); replace TR := Lib.hid (TR.out.below q); replace B := Lib.hid (goI B.out q); clear q)
          | fail "arm")
         clear a0 a1 y0 y1 y2 y3 y4
         have hA1 := KA.out.lt
         have hP1 := KP.out.lt
         have hAP : A ≠ w.heap.size := by omega
         refine wp_tab [.v 94 (.agg #[.int .i64 (line : Int), .int .i64 ((i : Int) - (bg : Int) + 1)]), .v 95 (.int .i64 4), .v 2 (.slice none 0 0), .z, .v 4 (.int .i64 4)] [] [⟨A, #[.int .i64 (line : Int), .int .i64 ((i : Int) - (bg : Int) + 1)], 27, none⟩, ⟨w.heap.size, #[.int .i64 0, .int .i64 0], 27, some (3, #[.int .i64 (line : Int), .int .i64 ((i : Int) - (bg : Int) + 1)])⟩] [] [] [] [] [] (by kernel_rfl) B.out ⟨KA.out, KP.out, trivial⟩ trivial ⟨ld 0 0, pu, pu, ?_, pu, trivial⟩ ?_
         ·intro L a U ho J hn dd KK kk; refine .free rfl ?_; have r3 : a.tmps[(3 : Nat)]?.getD undef = .pointer (some ⟨w.heap.size, 0, none⟩) := ho.slot 3 rfl; have r94 := J.read 0 rfl (dd.get 0 rfl); have kb := (J.eldB 1 rfl hn); have c0 := kb.at_ 0 _ rfl; have z0 := kb.free 0; have c1 := kb.at_ 1 _ rfl; have z1 := kb.free 1; clear kb; go_simp; exact kk.out undef _ (J.stored 3 1 rfl rfl (.inl rfl) rfl rfl 0 [.int .i64 (line : Int), .int .i64 ((i : Int) - (bg : Int) + 1)] rfl (Nat.le_refl _) hP1 ⟨.inr hAP, .inl rfl, trivial⟩ hn trivial)
         rintro σ WE _ ⟨_, KE, _⟩ _ _ BE
         simp only [slotsOf, finX, nval, nvalN, nvalA, Nat.reduceBEq, cond_true, cond_false, putAll, Act.put, List.setIfInBounds_toArray, List.set_cons_succ, List.set_cons_zero]
         go_wp2
         have e0 := KE.out.at_ 0 _ rfl
         have e1 := KE.out.at_ 1 _ rfl
         have hR := HR.out
         exact bodyPost_ret (v := scanV (.slice none 0 0) (line : Int) ((i : Int) - (bg : Int) + 1) 4) (by simp [results, Tryz.results14, go_sem, e0, e1, scanV]) rfl ⟨.slice none 0 0, by rw [hR, ← hcol], by rw [hR]; exact TokRow.nil _ _, BE.out⟩
        ·have AD : Hid (Calls Tryz.prog 34 #[.agg #[.int .i64 f.kind, .string ⟨f.text.toArray⟩, .string ⟨f.value.toArray⟩, .int .i64 0, .int .i64 0], .agg #[.int .i64 (line : Int), .int .i64 ((i : Int) - (bg : Int) + 1)], .pointer (some ⟨w.heap.size + 1, 0, none⟩)] W3 fun e w' => e = .returned (.int .i64 0) ∧ (∃ v', Blk w' (w.heap.size + 1) #[v'] 25 ∧ TokRow w' (w.heap.size + 2) v' (acc ++ [f.tok line (i - bg + 1)])) ∧ (∀ b cs T, b < w.heap.size + 2 → b ≠ w.heap.size + 1 → Blk W3 b cs T → Blk w' b cs T) ∧ Below (w.heap.size + 1) W3 w') := Lib.hid (by have h := add_tok (f.tok line (i - bg + 1)) (w.heap.size + 1) v acc (w.heap.size + 2) W3 (by omega) hsz KO.out TR.out (by omega); rw [show ((f.tok line (i - bg + 1)).col : Int) = ((i : Int) - (bg : Int) + 1) from hcol] at h; exact h)
         have HR := Lib.hid (HFT.out HE0.out h5)
         obtain ⟨hl1, hl2⟩ := HFN.out HE0.out
         clear HFE HFL HFT
         go_wp2_with (first
          | (go_at_call 34; with_reducible refine AD.out.mono ?_; rintro e wx ⟨rfl, ⟨v2, hO2, ht2⟩, hf, hq⟩; have KO2 := Lib.hid hO2; have TR2 := Lib.hid ht2; have KP2 := Lib.hid (hf _ _ _ (by omega) (by omega) KP.out); have B2 := Lib.hid (B.out.trans (hq.mono (by omega))); clear hO2 ht2 hf hq KO TR KP B)
          | fail "arm")
         refine ⟨⟨i + f.len, line, bg, true, acc ++ [f.tok line (i - bg + 1)], v2, ⟨rfl, rfl, rfl, by go_num⟩, ⟨by omega, by omega, by omega, by rw [List.length_append]; show acc.length + 1 ≤ 5000; omega⟩, KP2.out, KO2.out, TR2.out, B2.out, ⟨fun _ => ?_, fun h => by omega⟩⟩, by simp [intOf]; omega⟩
         have h := HR.out
         rw [List.drop_drop, show i + 1 + (f.len - 1) = i + f.len by omega, show i - bg + 1 + f.len = i + f.len - bg + 1 by omega] at h
         exact h.symm
       ·have ee : (f.err == 0) = false := by rw [beq_eq_false_iff_ne]; exact he
        have ef : (f.err != 0) = true := by rw [bne_iff_ne]; exact he
        have HR := Lib.hid (HFE.out he)
        clear HFE HFL HFT
        go_upto_region 25 with (fail)
        have hA1 := KA.out.lt
        have hP1 := KP.out.lt
        have hAP : A ≠ w.heap.size := by omega
        refine wp_tab [.v 94 (.agg #[.int .i64 (line : Int), .int .i64 ((i : Int) - (bg : Int) + 1)]), .v 95 (.int .i64 f.err), .v 2 (.slice none 0 0), .z, .v 4 (.int .i64 f.err)] [] [⟨A, #[.int .i64 (line : Int), .int .i64 ((i : Int) - (bg : Int) + 1)], 27, none⟩, ⟨w.heap.size, #[.int .i64 0, .int .i64 0], 27, some (3, #[.int .i64 (line : Int), .int .i64 ((i : Int) - (bg : Int) + 1)])⟩] [] [] [] [] [] (by kernel_rfl) B.out ⟨KA.out, KP.out, trivial⟩ trivial ⟨ld 0 0, pu, pu, ?_, pu, trivial⟩ ?_
        ·intro L a U ho J hn dd KK kk; refine .free rfl ?_; have r3 : a.tmps[(3 : Nat)]?.getD undef = .pointer (some ⟨w.heap.size, 0, none⟩) := ho.slot 3 rfl; have r94 := J.read 0 rfl (dd.get 0 rfl); have kb := (J.eldB 1 rfl hn); have c0 := kb.at_ 0 _ rfl; have z0 := kb.free 0; have c1 := kb.at_ 1 _ rfl; have z1 := kb.free 1; clear kb; go_simp; exact kk.out undef _ (J.stored 3 1 rfl rfl (.inl rfl) rfl rfl 0 [.int .i64 (line : Int), .int .i64 ((i : Int) - (bg : Int) + 1)] rfl (Nat.le_refl _) hP1 ⟨.inr hAP, .inl rfl, trivial⟩ hn trivial)
        rintro σ WE _ ⟨_, KE, _⟩ _ _ BE
        simp only [slotsOf, finX, nval, nvalN, nvalA, Nat.reduceBEq, cond_true, cond_false, putAll, Act.put, List.setIfInBounds_toArray, List.set_cons_succ, List.set_cons_zero]
        go_wp2
        have e0 := KE.out.at_ 0 _ rfl
        have e1 := KE.out.at_ 1 _ rfl
        have hR := HR.out
        exact bodyPost_ret (v := scanV (.slice none 0 0) (line : Int) ((i : Int) - (bg : Int) + 1) f.err) (by simp [results, Tryz.results14, go_sem, e0, e1, scanV]) rfl ⟨.slice none 0 0, by rw [hR, ← hcol], by rw [hR]; exact TokRow.nil _ _, BE.out⟩
  ·obtain rfl : i = S.size + 1 := by omega
   have hR := HSA.out.2 rfl
   clear HSA
   have z0 := KP.out.free 0
   have z1 := KP.out.free 1
   have c0 := KP.out.at_ 0 _ rfl
   have c1 := KP.out.at_ 1 _ rfl
   have o0 := KO.out.at_ 0 _ rfl
   go_wp2
   have KE := (KP.out.set 0 (.int .i64 0)).set 1 (.int .i64 0)
   have BE := (B.out.setCell (p := ⟨w.heap.size, 0, none⟩) (Nat.le_refl _) (.int .i64 0)).setCell (p := ⟨w.heap.size, 1, none⟩) (Nat.le_refl _) (.int .i64 0)
   have TE := (TR.out.set ⟨w.heap.size, 0, none⟩ (by show w.heap.size < _; omega) (.int .i64 0)).set ⟨w.heap.size, 1, none⟩ (by show w.heap.size < _; omega) (.int .i64 0)
   have e0 := KE.at_ 0 _ rfl
   have e1 := KE.at_ 1 _ rfl
   exact bodyPost_ret (v := scanV (.slice va acc.length vc) 0 0 0) (by simp [results, Tryz.results14, go_sem, e0, e1, scanV]) rfl ⟨.slice va acc.length vc, by rw [hR]; rfl, by rw [hR]; exact TE.mono (by omega), BE⟩

end Go.Proofs.YtfhmgkicccfghaaGreatDoor
