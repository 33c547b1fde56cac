/- What fits: texts of right numbers of at most 80 digits a part; fits at slices that were just built; rational.Sum, Min and Max. -/
import Derived.Test.YtnallacamijkeaaGreatDoorRfE
namespace Go.Proofs.YtnallacamijkeaaGreatDoor
set_option linter.all false
open Go.RowKit

theorem dec_lt_pow (n k : Nat) (h : (Lib.decDigits n).length ≤ k) : n < 10 ^ k := by
 have h1 := dval_lt (decDigits_all n)
 rw [decDigits_val] at h1
 have h2 : (10 : Nat) ^ (Lib.decDigits n).length ≤ 10 ^ k := Nat.pow_le_pow_right (by omega) h
 omega

theorem size_sz {q : Rat} {k : Nat} (h : (canonR q).size ≤ k) (h0 : 0 < k) : Sz q k := by
 have hsz : (canonR q).size = (ratL q.num q.den).length := rfl
 have h2 : (mdig q.num).length ≤ (Lib.itoa q.num).length := by
  rcases itoa_cases q.num with ⟨_, e⟩ | ⟨_, e⟩
  ·rw [e]; exact Nat.le_refl _
  ·rw [e, List.length_cons]; omega
 refine ⟨dec_lt_pow q.num.natAbs k ?_, ?_⟩
 ·have h3 : (Lib.itoa q.num).length ≤ (ratL q.num q.den).length := by
   unfold ratL
   split
   ·exact Nat.le_refl _
   ·rw [List.length_append]; omega
  have h4 : (mdig q.num).length = (Lib.decDigits q.num.natAbs).length := rfl
  omega
 ·by_cases hd : q.den = 1
  ·rw [hd]; exact Nat.one_lt_pow (by omega) (by omega)
  ·refine dec_lt_pow _ _ ?_
   have : (ratL q.num q.den).length = (Lib.itoa q.num).length + (1 + (Lib.decDigits q.den).length) := by
    unfold ratL
    rw [if_neg hd, List.length_append, List.length_cons]; omega
   omega

theorem fit_q {T : ByteArray} (h : fit1 T = true) : ∃ q, T = canonR q ∧ Sz q 80 ∧ T.size ≤ 80 := by
 unfold fit1 at h
 rw [Bool.and_eq_true] at h
 obtain ⟨q, h1, _, _⟩ := rightQ_of h.2
 have h2 : T.size ≤ 80 := of_decide_eq_true h.1
 subst h1
 exact ⟨q, rfl, size_sz h2 (by omega), h2⟩

theorem fits_q1 {T : ByteArray} (h : fitsB [T] = true) : fit1 T = true := by simpa [fitsB] using h
theorem fits_q2 {T U : ByteArray} (h : fitsB [T, U] = true) : fit1 T = true ∧ fit1 U = true := by simpa [fitsB] using h
theorem fits_q3 {T U V : ByteArray} (h : fitsB [T, U, V] = true) : fit1 T = true ∧ fit1 U = true ∧ fit1 V = true := by simpa [fitsB] using h

theorem below_alloc (W : World) (o : Obj) : Below W.heap.size W (W.alloc o) := (Below.refl _ _).alloc (Nat.le_refl _) _

theorem cmpR_flip (a b : Rat) : cmpR b a = -cmpR a b := by
 unfold cmpR
 rw [← Int.sign_neg]
 congr 1
 omega

theorem cmpR_zero {a b : Rat} (h : cmpR a b = 0) : a = b := by
 rw [cmpR_sub] at h
 have h1 : (a - b).num = 0 := Int.sign_eq_zero_iff_zero.1 h
 have h2 : a - b = 0 := Rat.num_eq_zero.1 h1
 grind

theorem rsum_none (w : World) :
  Calls Tryz.prog 77 #[.slice none 0 0] w fun e w' => e = .returned (.string ⟨#[48]⟩) ∧ Below w.heap.size w w' := by
 go_enter Tryz.func77, Tryz.ntmps77
 go_wp2
 go_loopw [3, 5, 8] (fun v _ i wr => v = .string ⟨#[48]⟩ ∧ i = .int .i64 0 ∧ Below w.heap.size w wr) (fun _ _ _ _ => 0)
 case atStart => exact ⟨rfl, rfl, Below.refl _ _⟩
 case round =>
  obtain ⟨rfl, rfl, hb⟩ := hrel
  go_wp2
  go_ret
  exact ⟨rfl, hb⟩

set_option maxHeartbeats 4000000 in
theorem rsum3 (a b c : Rat) (ha : Sz a 80) (hb : Sz b 80) (hc : Sz c 80) (w : World) (he : Env w) :
  Calls Tryz.prog 77 #[.slice (some ⟨w.heap.size, 0, none⟩) 3 3] (w.alloc (.cells #[.string (canonR a), .string (canonR b), .string (canonR c)] 27)) fun e w' => e = .returned (.string (canonR (a + b + c))) ∧ Below w.heap.size w w' := by
 have h1 := fun W (hW : Below w.heap.size w W) => radd_any 0 a 80 (by omega) (by omega) ⟨by decide, by decide⟩ ha W (he.below hW)
 rw [Rat.zero_add, canonR_zero, show canon 0 = (⟨#[48]⟩ : ByteArray) from ba_of_list _ _ (by rw [← ByteArray.toList_eq]; exact eq_of_beq (canon_beq0 0))] at h1
 have h2 := fun W (hW : Below w.heap.size w W) => radd_any a b 80 (by omega) (by omega) ha hb W (he.below hW)
 have h3 := fun W (hW : Below w.heap.size w W) => radd_any (a + b) c 161 (by omega) (by omega) (ha.add hb) (hc.mono (by omega)) W (he.below hW)
 have x1 := heap_alloc_new w (Obj.cells #[.string (canonR a), .string (canonR b), .string (canonR c)] 27)
 have b0 := below_alloc w (Obj.cells #[.string (canonR a), .string (canonR b), .string (canonR c)] 27)
 have hz : (w.alloc (Obj.cells #[.string (canonR a), .string (canonR b), .string (canonR c)] 27)).heap.size = w.heap.size + 1 := World.size_alloc ..
 have hcell : ∀ (j : Nat) (v : Value), #[Value.string (canonR a), .string (canonR b), .string (canonR c)][j]? = some v → (w.alloc (Obj.cells #[.string (canonR a), .string (canonR b), .string (canonR c)] 27)).cell? ⟨w.heap.size, j, none⟩ = some v := fun j v h => by
  rw [Lib.cell_of_heap x1]; exact h
 have e0 := hcell 0 _ rfl
 have e1 := hcell 1 _ rfl
 have e2 := hcell 2 _ rfl
 generalize canonR (a + b + c) = R at *
 generalize canonR (a + b) = TAB at *
 generalize canonR a = TA at *
 generalize canonR b = TB at *
 generalize canonR c = TC at *
 generalize hw1 : w.alloc (Obj.cells #[.string TA, .string TB, .string TC] 27) = W0 at *
 have H1 := Lib.hid h1
 have H2 := Lib.hid h2
 have H3 := Lib.hid h3
 have hlt : w.heap.size < W0.heap.size := by omega
 have B0 := Lib.hid b0
 have A0 := Lib.hid hlt
 have C0 := Lib.hid e0
 have C1 := Lib.hid e1
 have C2 := Lib.hid e2
 generalize hbk : w.heap.size = bk at *
 clear h1 h2 h3 x1 b0 hz hcell hlt e0 e1 e2 hw1 he ha hb hc
 go_enter Tryz.func77, Tryz.ntmps77
 go_wp2
 go_loopw [3, 5, 8] (fun v _ i wr => ((v = .string ⟨#[48]⟩ ∧ i = .int .i64 0) ∨ (v = .string TA ∧ i = .int .i64 1) ∨ (v = .string TAB ∧ i = .int .i64 2) ∨ (v = .string R ∧ i = .int .i64 3)) ∧ Below bk w wr ∧ Below W0.heap.size W0 wr) (fun _ _ i _ => 3 - (intOf i).toNat)
 case atStart => exact ⟨.inl ⟨rfl, rfl⟩, B0.out, Below.refl _ _⟩
 case round =>
  obtain ⟨hcase, hb1, hb2⟩ := hrel
  have B1 := Lib.hid hb1
  have c0 := (hb2.cell (p := ⟨bk, 0, none⟩) A0.out).trans C0.out
  have c1 := (hb2.cell (p := ⟨bk, 1, none⟩) A0.out).trans C1.out
  have c2 := (hb2.cell (p := ⟨bk, 2, none⟩) A0.out).trans C2.out
  have hbr : bk < wr.heap.size := Nat.lt_of_lt_of_le A0.out hb2.size
  have B2 := Lib.hid hb2
  clear hb1 hb2
  rcases hcase with ⟨rfl, rfl⟩ | ⟨rfl, rfl⟩ | ⟨rfl, rfl⟩ | ⟨rfl, rfl⟩
  ·go_wp2_with (first
    | (go_at_call 26; (with_reducible refine (H1.out _ B1.out).mono ?_); rintro e w6 ⟨rfl, q⟩; have B3 := Lib.hid q; clear q)
    | fail "arm")
   go_roundw
   case rel => exact ⟨.inr (.inl ⟨rfl, rfl⟩), B1.out.trans (B3.out.mono (Nat.le_of_lt (Nat.lt_of_lt_of_le A0.out B2.out.size))), B2.out.trans (B3.out.mono B2.out.size)⟩
   case measure => simp [intOf]
  ·go_wp2_with (first
    | (go_at_call 26; (with_reducible refine (H2.out _ B1.out).mono ?_); rintro e w6 ⟨rfl, q⟩; have B3 := Lib.hid q; clear q)
    | fail "arm")
   go_roundw
   case rel => exact ⟨.inr (.inr (.inl ⟨rfl, rfl⟩)), B1.out.trans (B3.out.mono (Nat.le_of_lt (Nat.lt_of_lt_of_le A0.out B2.out.size))), B2.out.trans (B3.out.mono B2.out.size)⟩
   case measure => simp [intOf]
  ·go_wp2_with (first
    | (go_at_call 26; (with_reducible refine (H3.out _ B1.out).mono ?_); rintro e w6 ⟨rfl, q⟩; have B3 := Lib.hid q; clear q)
    | fail "arm")
   go_roundw
   case rel => exact ⟨.inr (.inr (.inr ⟨rfl, rfl⟩)), B1.out.trans (B3.out.mono (Nat.le_of_lt (Nat.lt_of_lt_of_le A0.out B2.out.size))), B2.out.trans (B3.out.mono B2.out.size)⟩
   case measure => simp [intOf]
  ·go_wp2
   go_ret
   exact ⟨rfl, B1.out⟩

end Go.Proofs.YtnallacamijkeaaGreatDoor
