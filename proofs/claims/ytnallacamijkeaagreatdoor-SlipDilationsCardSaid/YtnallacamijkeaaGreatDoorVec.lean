/- Vectors of rational numbers: bounds of their digits, and the sum of three numbers. -/
import Derived.Test.YtnallacamijkeaaGreatDoorRatD
import Derived.Test.YtnallacamijkeaaGreatDoorRatH
import Derived.Test.YtnallacamijkeaaGreatDoorGLinP
import Derived.Test.YtnallacamijkeaaGreatDoorBox
import Derived.Test.YtnallacamijkeaaGreatDoorRfF
namespace Go.Proofs.YtnallacamijkeaaGreatDoor
set_option linter.all false
open Go.RowKit

theorem Sz.sub {a b : Rat} {N : Nat} (ha : Sz a N) (hb : Sz b N) : Sz (a - b) (N + N + 1) := by
 rw [Rat.sub_eq_add_neg]
 exact ha.add hb.neg
theorem Sz.div {a b : Rat} {N : Nat} (ha : Sz a N) (hb : Sz b N) (h0 : b ≠ 0) : Sz (a / b) (N + N) := by
 rw [Rat.div_def]
 exact ha.mul (hb.inv h0)
theorem Sz.neg1 (N : Nat) (h : 0 < N) : Sz (-1) N := ⟨by show 1 < 10 ^ N; exact Nat.one_lt_pow (by omega) (by omega), by show 1 < 10 ^ N; exact Nat.one_lt_pow (by omega) (by omega)⟩
theorem Sz.int (n : Int) (N : Nat) (h : n.natAbs < 10 ^ N) (h0 : 0 < N) : Sz (n : Rat) N := ⟨h, by show 1 < 10 ^ N; exact Nat.one_lt_pow (by omega) (by omega)⟩

def Sz3 (v : V3) (N : Nat) : Prop := Sz v.x N ∧ Sz v.y N ∧ Sz v.z N
theorem Sz3.mono {v : V3} {N M : Nat} (h : Sz3 v N) (hNM : N ≤ M) : Sz3 v M := ⟨h.1.mono hNM, h.2.1.mono hNM, h.2.2.mono hNM⟩
theorem Sz3.scale {v : V3} {N : Nat} {k : Rat} (h : Sz3 v N) (hk : Sz k N) : Sz3 (v.scale k) (N + N) := ⟨h.1.mul hk, h.2.1.mul hk, h.2.2.mul hk⟩
theorem Sz3.dot {u v : V3} {N : Nat} (hu : Sz3 u N) (hv : Sz3 v N) : Sz (dotR u v) (8 * N + 3) :=
 (((hu.1.mul hv.1).add (hu.2.1.mul hv.2.1)).add ((hu.2.2.mul hv.2.2).mono (by omega))).mono (by omega)
theorem Sz.minor {a b c d : Rat} {N : Nat} (ha : Sz a N) (hb : Sz b N) (hc : Sz c N) (hd : Sz d N) : Sz (a * b - c * d) (4 * N + 1) :=
 ((ha.mul hb).sub (hc.mul hd)).mono (by omega)
theorem Sz3.cross {u v : V3} {N : Nat} (hu : Sz3 u N) (hv : Sz3 v N) : Sz3 (crossR u v) (4 * N + 1) :=
 ⟨hu.2.1.minor hv.2.2 hu.2.2 hv.2.1, hu.2.2.minor hv.1 hu.1 hv.2.2, hu.1.minor hv.2.1 hu.2.1 hv.1⟩

theorem right_of_sz {q : Rat} {N : Nat} (h : Sz q N) (h0 : 0 < N) (hN : N ≤ 200) : rightQ (canonR q) = true :=
 rightQ_true ⟨q, rfl, Nat.le_trans (decDigits_len_le N _ h.1 h0) hN, Nat.le_trans (decDigits_len_le N _ h.2 h0) hN⟩

set_option maxHeartbeats 4000000 in
theorem rsum3N (a b c : Rat) (N : Nat) (hN0 : 0 < N) (hN : N ≤ 400) (ha : Sz a N) (hb : Sz b N) (hc : Sz c N) (w : World) (he : Env w) :
  Calls Tryz.prog 77 #[.slice (some ⟨w.heap.size, 0, none⟩) 3 3] (w.alloc (.cells #[.string (canonR a), .string (canonR b), .string (canonR c)] 27)) fun e w' => e = .returned (.string (canonR (a + b + c))) ∧ Below w.heap.size w w' := by
 have h1 := fun W (hW : Below w.heap.size w W) => radd_any 0 a N (by omega) (by omega) ⟨by show 0 < 10 ^ N; exact Nat.pow_pos (by omega), by show 1 < 10 ^ N; exact Nat.one_lt_pow (by omega) (by omega)⟩ ha W (he.below hW)
 rw [Rat.zero_add, canonR_zero, show canon 0 = (⟨#[48]⟩ : ByteArray) from ba_of_list _ _ (by rw [← ByteArray.toList_eq]; exact eq_of_beq (canon_beq0 0))] at h1
 have h2 := fun W (hW : Below w.heap.size w W) => radd_any a b N (by omega) (by omega) ha hb W (he.below hW)
 have h3 := fun W (hW : Below w.heap.size w W) => radd_any (a + b) c (N + N + 1) (by omega) (by omega) (ha.add hb) (hc.mono (by omega)) W (he.below hW)
 have x1 := heap_alloc_new w (Obj.cells #[.string (canonR a), .string (canonR b), .string (canonR c)] 27)
 have b0 := below_alloc w (Obj.cells #[.string (canonR a), .string (canonR b), .string (canonR c)] 27)
 have hz : (w.alloc (Obj.cells #[.string (canonR a), .string (canonR b), .string (canonR c)] 27)).heap.size = w.heap.size + 1 := World.size_alloc ..
 have hcell : ∀ (j : Nat) (v : Value), #[Value.string (canonR a), .string (canonR b), .string (canonR c)][j]? = some v → (w.alloc (Obj.cells #[.string (canonR a), .string (canonR b), .string (canonR c)] 27)).cell? ⟨w.heap.size, j, none⟩ = some v := fun j v h => by
  rw [Lib.cell_of_heap x1]; exact h
 have e0 := hcell 0 _ rfl
 have e1 := hcell 1 _ rfl
 have e2 := hcell 2 _ rfl
 generalize canonR (a + b + c) = R at *
 generalize canonR (a + b) = TAB at *
 generalize canonR a = TA at *
 generalize canonR b = TB at *
 generalize canonR c = TC at *
 generalize hw1 : w.alloc (Obj.cells #[.string TA, .string TB, .string TC] 27) = W0 at *
 have H1 := Lib.hid h1
 have H2 := Lib.hid h2
 have H3 := Lib.hid h3
 have hlt : w.heap.size < W0.heap.size := by omega
 have B0 := Lib.hid b0
 have A0 := Lib.hid hlt
 have C0 := Lib.hid e0
 have C1 := Lib.hid e1
 have C2 := Lib.hid e2
 generalize hbk : w.heap.size = bk at *
 clear h1 h2 h3 x1 b0 hz hcell hlt e0 e1 e2 hw1 he ha hb hc
 go_enter Tryz.func77, Tryz.ntmps77
 go_wp2
 go_loopw [3, 5, 8] (fun v _ i wr => ((v = .string ⟨#[48]⟩ ∧ i = .int .i64 0) ∨ (v = .string TA ∧ i = .int .i64 1) ∨ (v = .string TAB ∧ i = .int .i64 2) ∨ (v = .string R ∧ i = .int .i64 3)) ∧ Below bk w wr ∧ Below W0.heap.size W0 wr) (fun _ _ i _ => 3 - (intOf i).toNat)
 case atStart => exact ⟨.inl ⟨rfl, rfl⟩, B0.out, Below.refl _ _⟩
 case round =>
  obtain ⟨hcase, hb1, hb2⟩ := hrel
  have B1 := Lib.hid hb1
  have c0 := (hb2.cell (p := ⟨bk, 0, none⟩) A0.out).trans C0.out
  have c1 := (hb2.cell (p := ⟨bk, 1, none⟩) A0.out).trans C1.out
  have c2 := (hb2.cell (p := ⟨bk, 2, none⟩) A0.out).trans C2.out
  have hbr : bk < wr.heap.size := Nat.lt_of_lt_of_le A0.out hb2.size
  have B2 := Lib.hid hb2
  clear hb1 hb2
  rcases hcase with ⟨rfl, rfl⟩ | ⟨rfl, rfl⟩ | ⟨rfl, rfl⟩ | ⟨rfl, rfl⟩
  ·go_wp2_with (first
    | (go_at_call 26; (with_reducible refine (H1.out _ B1.out).mono ?_); rintro e w6 ⟨rfl, q⟩; have B3 := Lib.hid q; clear q)
    | fail "arm")
   go_roundw
   case rel => exact ⟨.inr (.inl ⟨rfl, rfl⟩), B1.out.trans (B3.out.mono (Nat.le_of_lt (Nat.lt_of_lt_of_le A0.out B2.out.size))), B2.out.trans (B3.out.mono B2.out.size)⟩
   case measure => simp [intOf]
  ·go_wp2_with (first
    | (go_at_call 26; (with_reducible refine (H2.out _ B1.out).mono ?_); rintro e w6 ⟨rfl, q⟩; have B3 := Lib.hid q; clear q)
    | fail "arm")
   go_roundw
   case rel => exact ⟨.inr (.inr (.inl ⟨rfl, rfl⟩)), B1.out.trans (B3.out.mono (Nat.le_of_lt (Nat.lt_of_lt_of_le A0.out B2.out.size))), B2.out.trans (B3.out.mono B2.out.size)⟩
   case measure => simp [intOf]
  ·go_wp2_with (first
    | (go_at_call 26; (with_reducible refine (H3.out _ B1.out).mono ?_); rintro e w6 ⟨rfl, q⟩; have B3 := Lib.hid q; clear q)
    | fail "arm")
   go_roundw
   case rel => exact ⟨.inr (.inr (.inr ⟨rfl, rfl⟩)), B1.out.trans (B3.out.mono (Nat.le_of_lt (Nat.lt_of_lt_of_le A0.out B2.out.size))), B2.out.trans (B3.out.mono B2.out.size)⟩
   case measure => simp [intOf]
  ·go_wp2
   go_ret
   exact ⟨rfl, B1.out⟩

end Go.Proofs.YtnallacamijkeaaGreatDoor
