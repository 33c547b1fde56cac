/- The walks of package slip, over texts: Kind. -/
import Derived.Test.YtnallacamijkeaaGreatDoorShelf
import Derived.Test.YtnallacamijkeaaGreatDoorGPar
import Derived.Deep.RegionHeld3
import Derived.Laws.ResultCell
import Derived.Deep.Cut
import Derived.Deep.CutRange
import Derived.Deep.DeepCutAuto
import Derived.Outline
namespace Go.Proofs.YtnallacamijkeaaGreatDoor
set_option linter.all false
open Go.RowKit

set_option maxRecDepth 100000 in
set_option maxHeartbeats 8000000 in
theorem skind_of (A1 A2 A3 A0 S1 S2 S3 : ByteArray) (ec sz nz k : Int) (zs dn up : Bool) (res : Value) (w : World)
  (hl : decide (sz < 0) = dn)
  (hu : decide (nz > 0) = up)
  (k0 : ¬ ec = 0 → res = .tuple #[.int .i64 0, .int .i64 ec])
  (k1 : ec = 0 → zs = true → res = .tuple #[.int .i64 0, .int .i64 0])
  (k2 : ec = 0 → ¬ zs = true → (A1.toList == [48]) = true → (A2.toList == [48]) = true → res = .tuple #[.int .i64 5, .int .i64 0])
  (k3 : ec = 0 → ¬ zs = true → ((A1.toList == [48]) = false ∨ (A2.toList == [48]) = false) → (A3.toList == [48]) = true → res = .tuple #[.int .i64 4, .int .i64 0])
  (k4 : ec = 0 → ¬ zs = true → ((A1.toList == [48]) = false ∨ (A2.toList == [48]) = false) → (A3.toList == [48]) = false → (S3.toList == [48]) = true → res = .tuple #[.int .i64 3, .int .i64 0])
  (k5 : ec = 0 → ¬ zs = true → ((A1.toList == [48]) = false ∨ (A2.toList == [48]) = false) → (A3.toList == [48]) = false → (S3.toList == [48]) = false → (dn == up) = true → res = .tuple #[.int .i64 1, .int .i64 0])
  (k6 : ec = 0 → ¬ zs = true → ((A1.toList == [48]) = false ∨ (A2.toList == [48]) = false) → (A3.toList == [48]) = false → (S3.toList == [48]) = false → (dn == up) = false → res = .tuple #[.int .i64 2, .int .i64 0])
  (h_ck : Ret Tryz.prog w 37 #[.agg #[.string A1, .string A2, .string A3, .string A0, .string S1, .string S2, .string S3]] (.int .i64 ec))
  (h_sg : ec = 0 → Ret Tryz.prog w 25 #[.string S3] (.int .i64 sz))
  (h_zt : ec = 0 ∧ zs = true → Ret Tryz.prog w 41 #[.agg #[.string S1, .string S2, .string S3]] (.bool true))
  (h_zf : ec = 0 ∧ ¬ zs = true → Ret Tryz.prog w 41 #[.agg #[.string S1, .string S2, .string S3]] (.bool false))
  (h_sn : ec = 0 → Ret Tryz.prog w 25 #[.string A3] (.int .i64 nz)) :
  Calls Tryz.prog 14 #[.agg #[.string A1, .string A2, .string A3, .string A0, .string S1, .string S2, .string S3]] w fun e w' => e = .returned (res) ∧ Below w.heap.size w w' := by
 have H_CK := Lib.hid h_ck
 clear h_ck
 have B := Lib.hid (Below.refl w.heap.size w)
 go_enter Tryz.func14, Tryz.ntmps14
 go_upto_region 0 with (fail)
 refine wp_tab [.n 1, .v 2 (.int .i64 0), .v 3 (.int .i64 0)] [⟨0, 1, fun g => .pointer (some ⟨g, 0, none⟩), #[.string A1, .string A2, .string A3, .string A0, .string S1, .string S2, .string S3], 46, none⟩] [] [] [] [] [] [] (by kernel_rfl) B.out trivial trivial ⟨ml 0, pu, pu, trivial⟩ ?_
 clear B
 rintro σ W1 ⟨⟨L0, K0⟩, _⟩ _ _ _ B
 simp only [slotsOf, finX, nval, nvalN, nvalA, Nat.reduceBEq, cond_true, cond_false, putAll, Act.put, List.setIfInBounds_toArray, List.set_cons_succ, List.set_cons_zero]
 generalize blkOf (σ 1) = g1_0 at *
 have c0_0 := K0.out.at_ 0 _ rfl
 have c0_1 := K0.out.at_ 1 _ rfl
 have c0_2 := K0.out.at_ 2 _ rfl
 have c0_3 := K0.out.at_ 3 _ rfl
 have c0_4 := K0.out.at_ 4 _ rfl
 have c0_5 := K0.out.at_ 5 _ rfl
 have c0_6 := K0.out.at_ 6 _ rfl
 go_upto_region 2 with (
  (first
  | (go_at_call 37; with_reducible refine (H_CK.out _ (baseI B.out)).mono ?_)
  | fail "arm"); rintro e wx ⟨rfl, q⟩; replace K0 := Lib.hid (K0.out.nearI q); replace B := Lib.hid (goI B.out q); clear q; replace c0_0 := K0.out.at_ 0 _ rfl; replace c0_1 := K0.out.at_ 1 _ rfl; replace c0_2 := K0.out.at_ 2 _ rfl; replace c0_3 := K0.out.at_ 3 _ rfl; replace c0_4 := K0.out.at_ 4 _ rfl; replace c0_5 := K0.out.at_ 5 _ rfl; replace c0_6 := K0.out.at_ 6 _ rfl)
 clear c0_0 c0_1 c0_2 c0_3 c0_4 c0_5 c0_6
 by_cases hec : ec = 0
 ·
  have qec : (ec != 0) = false := by simp [hec]
  have H_SG := Lib.hid (h_sg hec)
  have H_SN := Lib.hid (h_sn hec)
  clear h_sg h_sn
  go_upto_region 4 with (fail)
  have lt0 := K0.out.lt
  refine wp_tab [.v 12 (.pointer (some ⟨g1_0, 0, none⟩)), .v 13 (.pointer (some ⟨g1_0, 0, none⟩)), .v 14 (.agg #[.string A1, .string A2, .string A3]), .v 15 (.pointer (some ⟨g1_0, 4, none⟩)), .v 16 (.pointer (some ⟨g1_0, 6, none⟩)), .v 17 (.string S3), .v 18 (.int .i64 sz), .v 19 (.bool dn), .n 5, .z, .v 6 (.bool dn)] [⟨8, 5, fun g => .pointer (some ⟨g, 0, none⟩), #[.string ⟨#[]⟩, .string ⟨#[]⟩, .string ⟨#[]⟩], 29, some (9, #[.string A1, .string A2, .string A3])⟩] [⟨g1_0, #[.string A1, .string A2, .string A3, .string A0, .string S1, .string S2, .string S3], 46, none⟩] [] [(9, 8)] [] [] [] (by kernel_rfl) B.out ⟨K0.out, trivial⟩ trivial ⟨pu, pu, ld 0 0, pu, pu, ld 0 6, cl H_SG.out, ?_, ml 0, ?_, pu, trivial⟩ ?_
  · intro L a U ho J hn d KK k; refine .free rfl ?_; have r18 := J.read 6 rfl (d.get 6 rfl); go_simp; exact k.out _ _ (J.st 7 rfl rfl)
  · intro L a U ho J hn d KK k; refine .free rfl ?_; have r5 : a.tmps[(5 : Nat)]?.getD undef = .pointer (some ⟨(blkOf (slotOf a 5)), 0, none⟩) := J.readN 0 rfl (d.get 8 rfl); have r14 := J.read 2 rfl (d.get 2 rfl); have kb := (J.nwB 0 rfl (d.get 8 rfl) hn).blk; have c0 := kb.at_ 0 _ rfl; have z0 := kb.free 0; have c1 := kb.at_ 1 _ rfl; have z1 := kb.free 1; have c2 := kb.at_ 2 _ rfl; have z2 := kb.free 2; clear kb; go_simp; exact k.out undef _ (J.storedN 9 0 rfl rfl rfl rfl rfl 0 [.string A1, .string A2, .string A3] rfl ⟨lt0, trivial⟩ (d.get 8 rfl) hn ⟨.inr (d.get 8 rfl), trivial⟩)
  clear K0 B lt0
  rintro σ W2 ⟨⟨L1, K1⟩, _⟩ ⟨K0, _⟩ _ _ B
  simp only [slotsOf, finX, nval, nvalN, nvalA, Nat.reduceBEq, cond_true, cond_false, putAll, Act.put, List.setIfInBounds_toArray, List.set_cons_succ, List.set_cons_zero]
  generalize blkOf (σ 5) = g2_8 at *
  go_upto_region 5 with (fail)
  by_cases hzs : zs = true
  ·
   have H_ZT := Lib.hid (h_zt ⟨hec, hzs⟩)
   clear h_zt
   have c0_4 := K0.out.at_ 4 _ rfl
   have c0_5 := K0.out.at_ 5 _ rfl
   have c0_6 := K0.out.at_ 6 _ rfl
   go_wp2_with (
    (first
    | (go_at_call 41; with_reducible refine (H_ZT.out _ (baseI B.out)).mono ?_)
    | fail "arm"); rintro e wx ⟨rfl, q⟩; replace K0 := Lib.hid (K0.out.nearI q); replace K1 := Lib.hid (K1.out.nearI q); replace B := Lib.hid (goI B.out q); clear q; replace c0_4 := K0.out.at_ 4 _ rfl; replace c0_5 := K0.out.at_ 5 _ rfl; replace c0_6 := K0.out.at_ 6 _ rfl)
   clear c0_4 c0_5 c0_6
   go_ret2
   exact ⟨by first | rfl | (rw [k1 hec hzs] <;> rfl), B.out⟩
  ·
   have H_ZF := Lib.hid (h_zf ⟨hec, hzs⟩)
   clear h_zf
   have c0_4 := K0.out.at_ 4 _ rfl
   have c0_5 := K0.out.at_ 5 _ rfl
   have c0_6 := K0.out.at_ 6 _ rfl
   go_upto_region 7 with (
    (first
    | (go_at_call 41; with_reducible refine (H_ZF.out _ (baseI B.out)).mono ?_)
    | fail "arm"); rintro e wx ⟨rfl, q⟩; replace K0 := Lib.hid (K0.out.nearI q); replace K1 := Lib.hid (K1.out.nearI q); replace B := Lib.hid (goI B.out q); clear q; replace c0_4 := K0.out.at_ 4 _ rfl; replace c0_5 := K0.out.at_ 5 _ rfl; replace c0_6 := K0.out.at_ 6 _ rfl)
   clear c0_4 c0_5 c0_6
   cases tA1 : (A1.toList == [48])
   ·
    have c1_0 := K1.out.at_ 0 _ rfl
    go_upto_region 9 with (fail)
    clear c1_0
    cases tA3 : (A3.toList == [48])
    ·
     have c1_2 := K1.out.at_ 2 _ rfl
     go_upto_region 11 with (fail)
     clear c1_2
     cases tS3 : (S3.toList == [48])
     ·
      have c0_6 := K0.out.at_ 6 _ rfl
      go_upto_region 13 with (fail)
      clear c0_6
      cases hdu : (dn == up)
      ·
       have c1_2 := K1.out.at_ 2 _ rfl
       go_wp2_with (
        (first
        | (go_at_call 25; with_reducible refine (H_SN.out _ (baseI B.out)).mono ?_)
        | fail "arm"); rintro e wx ⟨rfl, q⟩; replace K0 := Lib.hid (K0.out.nearI q); replace K1 := Lib.hid (K1.out.nearI q); replace B := Lib.hid (goI B.out q); clear q; replace c1_2 := K1.out.at_ 2 _ rfl)
       clear c1_2
       go_ret2
       exact ⟨by first | rfl | (rw [k6 hec hzs (.inl tA1) tA3 tS3 hdu] <;> rfl), B.out⟩
      ·
       have c1_2 := K1.out.at_ 2 _ rfl
       go_wp2_with (
        (first
        | (go_at_call 25; with_reducible refine (H_SN.out _ (baseI B.out)).mono ?_)
        | fail "arm"); rintro e wx ⟨rfl, q⟩; replace K0 := Lib.hid (K0.out.nearI q); replace K1 := Lib.hid (K1.out.nearI q); replace B := Lib.hid (goI B.out q); clear q; replace c1_2 := K1.out.at_ 2 _ rfl)
       clear c1_2
       go_ret2
       exact ⟨by first | rfl | (rw [k5 hec hzs (.inl tA1) tA3 tS3 hdu] <;> rfl), B.out⟩
     ·
      have c0_6 := K0.out.at_ 6 _ rfl
      go_wp2
      clear c0_6
      go_ret2
      exact ⟨by first | rfl | (rw [k4 hec hzs (.inl tA1) tA3 tS3] <;> rfl), B.out⟩
    ·
     have c1_2 := K1.out.at_ 2 _ rfl
     go_wp2
     clear c1_2
     go_ret2
     exact ⟨by first | rfl | (rw [k3 hec hzs (.inl tA1) tA3] <;> rfl), B.out⟩
   ·
    cases tA2 : (A2.toList == [48])
    ·
     have c1_0 := K1.out.at_ 0 _ rfl
     have c1_1 := K1.out.at_ 1 _ rfl
     go_upto_region 9 with (fail)
     clear c1_0 c1_1
     cases tA3 : (A3.toList == [48])
     ·
      have c1_2 := K1.out.at_ 2 _ rfl
      go_upto_region 11 with (fail)
      clear c1_2
      cases tS3 : (S3.toList == [48])
      ·
       have c0_6 := K0.out.at_ 6 _ rfl
       go_upto_region 13 with (fail)
       clear c0_6
       cases hdu : (dn == up)
       ·
        have c1_2 := K1.out.at_ 2 _ rfl
        go_wp2_with (
         (first
         | (go_at_call 25; with_reducible refine (H_SN.out _ (baseI B.out)).mono ?_)
         | fail "arm"); rintro e wx ⟨rfl, q⟩; replace K0 := Lib.hid (K0.out.nearI q); replace K1 := Lib.hid (K1.out.nearI q); replace B := Lib.hid (goI B.out q); clear q; replace c1_2 := K1.out.at_ 2 _ rfl)
        clear c1_2
        go_ret2
        exact ⟨by first | rfl | (rw [k6 hec hzs (.inr tA2) tA3 tS3 hdu] <;> rfl), B.out⟩
       ·
        have c1_2 := K1.out.at_ 2 _ rfl
        go_wp2_with (
         (first
         | (go_at_call 25; with_reducible refine (H_SN.out _ (baseI B.out)).mono ?_)
         | fail "arm"); rintro e wx ⟨rfl, q⟩; replace K0 := Lib.hid (K0.out.nearI q); replace K1 := Lib.hid (K1.out.nearI q); replace B := Lib.hid (goI B.out q); clear q; replace c1_2 := K1.out.at_ 2 _ rfl)
        clear c1_2
        go_ret2
        exact ⟨by first | rfl | (rw [k5 hec hzs (.inr tA2) tA3 tS3 hdu] <;> rfl), B.out⟩
      ·
       have c0_6 := K0.out.at_ 6 _ rfl
       go_wp2
       clear c0_6
       go_ret2
       exact ⟨by first | rfl | (rw [k4 hec hzs (.inr tA2) tA3 tS3] <;> rfl), B.out⟩
     ·
      have c1_2 := K1.out.at_ 2 _ rfl
      go_wp2
      clear c1_2
      go_ret2
      exact ⟨by first | rfl | (rw [k3 hec hzs (.inr tA2) tA3] <;> rfl), B.out⟩
    ·
     have c1_0 := K1.out.at_ 0 _ rfl
     have c1_1 := K1.out.at_ 1 _ rfl
     go_wp2
     clear c1_0 c1_1
     go_ret2
     exact ⟨by first | rfl | (rw [k2 hec hzs tA1 tA2] <;> rfl), B.out⟩
 ·
  have qec : (ec != 0) = true := by simp [hec]
  go_wp2
  go_ret2
  exact ⟨by first | rfl | (rw [k0 hec] <;> rfl), B.out⟩

end Go.Proofs.YtnallacamijkeaaGreatDoor
