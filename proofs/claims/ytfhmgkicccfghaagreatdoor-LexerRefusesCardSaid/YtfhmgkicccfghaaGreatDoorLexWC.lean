/- The walk of lexer.first: the token at the beginning of a text. -/
import Derived.Test.YtfhmgkicccfghaaGreatDoorLexWB
namespace Go.Proofs.YtfhmgkicccfghaaGreatDoor
set_option linter.all false
open Go.RowKit

theorem Blk.set5 {w : World} {b : Nat} {x0 x1 x2 x3 x4 : Value} {T : TypeId} (h : Blk w b #[x0, x1, x2, x3, x4] T) (y0 y1 y2 y3 y4 : Value) :
  Blk (((((w.setCell ⟨b, 0, none⟩ y0).setCell ⟨b, 1, none⟩ y1).setCell ⟨b, 2, none⟩ y2).setCell ⟨b, 3, none⟩ y3).setCell ⟨b, 4, none⟩ y4) b #[y0, y1, y2, y3, y4] T :=
 ((((h.set 0 y0).set 1 y1).set 2 y2).set 3 y3).set 4 y4
theorem below_set5 {w0 w : World} {B k : Nat} (h : Below B w0 w) (hB : B ≤ k) (y0 y1 y2 y3 y4 : Value) :
  Below B w0 (((((w.setCell ⟨k, 0, none⟩ y0).setCell ⟨k, 1, none⟩ y1).setCell ⟨k, 2, none⟩ y2).setCell ⟨k, 3, none⟩ y3).setCell ⟨k, 4, none⟩ y4) :=
 ((((h.setCell (p := ⟨k, 0, none⟩) hB y0).setCell (p := ⟨k, 1, none⟩) hB y1).setCell (p := ⟨k, 2, none⟩) hB y2).setCell (p := ⟨k, 3, none⟩) hB y3).setCell (p := ⟨k, 4, none⟩) hB y4
def NumT (S : ByteArray) : Prop := ∃ _ : 0 < S.size, isDig S[0] = true ∨ (isDig S[0] = false ∧ S[0] = 45 ∧ ∃ _ : 1 < S.size, isDig S[1] = true)
def NumF (S : ByteArray) : Prop := ∃ _ : 0 < S.size, isDig S[0] = false ∧ (S[0] ≠ 45 ∨ (S[0] = 45 ∧ S.size ≤ 1) ∨ (S[0] = 45 ∧ ∃ _ : 1 < S.size, isDig S[1] = false))
def fstV (k : Int) (t x : ByteArray) (n e : Int) : Value := .tuple #[.agg #[.int .i64 k, .string t, .string x, .int .i64 0, .int .i64 0], .int .i64 n, .int .i64 e]
theorem u8_eq_true (c : UInt8) (n : Nat) (h : n < 256) (e : c = UInt8.ofNat n) : (((c.toNat : Nat) : Int) == (n : Int)) = true := by rw [u8_eq c n h, e, beq_self_eq_true]
theorem u8_eq_false (c : UInt8) (n : Nat) (h : n < 256) (e : c ≠ UInt8.ofNat n) : (((c.toNat : Nat) : Int) == (n : Int)) = false := by rw [u8_eq c n h, beq_eq_false_iff_ne]; exact e

set_option maxRecDepth 100000 in
set_option maxHeartbeats 4000000 in
theorem first_word (S : ByteArray) (w : World) (h0 : 0 < S.size) (hs : S.size ≤ 65536) (hl : isLet S[0] = true) (n : Nat) (hn : WhileR isWord S n) (hn1 : n ≤ S.size) (hn2 : n ≤ 32) :
  Calls Tryz.prog 33 #[.string S] w fun e w' => e = .returned (fstV 1 (S.extract 0 n) ⟨#[]⟩ n 0) ∧ Below w.heap.size w w' := by
 have k0 := Blk.fresh w #[.int .i64 0, .string ⟨#[]⟩, .string ⟨#[]⟩, .int .i64 0, .int .i64 0] 38
 have b0 := (Below.refl w.heap.size w).alloc (Nat.le_refl _) (.cells #[.int .i64 0, .string ⟨#[]⟩, .string ⟨#[]⟩, .int .i64 0, .int .i64 0] 38)
 have K0 := Lib.hid k0
 have B := Lib.hid b0
 clear k0 b0
 have L1 : Hid (∀ W, Calls Tryz.prog 48 #[.int .u8 S[0].toNat] W fun e w' => e = .returned (.bool true) ∧ Below W.heap.size W w') := Lib.hid (fun W => by have h := letter_is S[0] W W (Below.refl _ _); rw [hl] at h; exact h)
 have L2 : Hid (∀ W, Calls Tryz.prog 49 #[.string S, .func (.func 50) #[] #[]] W fun e w' => e = .returned (.int .i64 n) ∧ Below W.heap.size W w') := Lib.hid (fun W => (while_word _ W (by omega)).mono fun e w' ⟨⟨m, h1, h2⟩, h3⟩ => ⟨by rw [h1, h2, hn], h3⟩)
 have t1 : decide ((n : Int) > 32) = false := decide_eq_false (by omega)
 all_goals clear hl hn
 all_goals
  go_enter Tryz.func33, Tryz.ntmps33
  go_upto_region 1 with (fail)
  generalize (w.alloc (Obj.cells #[.int .i64 0, .string ⟨#[]⟩, .string ⟨#[]⟩, .int .i64 0, .int .i64 0] 38)) = W0 at *
  go_upto_region 6 with (first
   | (go_at_call 48; with_reducible refine (L1.out _).mono ?_; rintro e wx ⟨rfl, q⟩; replace K0 := Lib.hid (K0.out.near (by first | exact Near.same _ | exact Near.one _) q); replace B := Lib.hid (goI B.out q); clear q)
   | (go_at_call 49; with_reducible refine (L2.out _).mono ?_; rintro e wx ⟨rfl, q⟩; replace K0 := Lib.hid (K0.out.near (by first | exact Near.same _ | exact Near.one _) q); replace B := Lib.hid (goI B.out q); clear q)
   | fail "arm")
  have z0 := K0.out.free 0
  have z1 := K0.out.free 1
  have z2 := K0.out.free 2
  have z3 := K0.out.free 3
  have z4 := K0.out.free 4
  have c0 := K0.out.at_ 0 _ rfl
  have c1 := K0.out.at_ 1 _ rfl
  have c2 := K0.out.at_ 2 _ rfl
  have c3 := K0.out.at_ 3 _ rfl
  have c4 := K0.out.at_ 4 _ rfl
  go_wp2
  have R := K0.out.set5 (.int .i64 1) (.string (S.extract 0 n)) (.string ⟨#[]⟩) (.int .i64 0) (.int .i64 0)
  have B1 := below_set5 B.out (Nat.le_refl _) (.int .i64 1) (.string (S.extract 0 n)) (.string ⟨#[]⟩) (.int .i64 0) (.int .i64 0)
  generalize (World.setCell (World.setCell (World.setCell (World.setCell (World.setCell wx ⟨w.heap.size, 0, none⟩ (.int .i64 1)) ⟨w.heap.size, 1, none⟩ (.string (S.extract 0 n))) ⟨w.heap.size, 2, none⟩ (.string ⟨#[]⟩)) ⟨w.heap.size, 3, none⟩ (.int .i64 0)) ⟨w.heap.size, 4, none⟩ (.int .i64 0)) = W1 at *
  have e0 := R.at_ 0 _ rfl
  have e1 := R.at_ 1 _ rfl
  have e2 := R.at_ 2 _ rfl
  have e3 := R.at_ 3 _ rfl
  have e4 := R.at_ 4 _ rfl
  exact bodyPost_ret (v := fstV 1 (S.extract 0 n) ⟨#[]⟩ n 0) (by simp [results, Tryz.results33, go_sem, e0, e1, e2, e3, e4, fstV]) rfl ⟨rfl, B1⟩

set_option maxRecDepth 100000 in
set_option maxHeartbeats 4000000 in
theorem first_long (S : ByteArray) (w : World) (h0 : 0 < S.size) (hs : S.size ≤ 65536) (hl : isLet S[0] = true) (n : Nat) (hn : WhileR isWord S n) (hn1 : n ≤ S.size) (hn2 : 32 < n) :
  Calls Tryz.prog 33 #[.string S] w fun e w' => e = .returned (fstV 0 ⟨#[]⟩ ⟨#[]⟩ 0 8) ∧ Below w.heap.size w w' := by
 have k0 := Blk.fresh w #[.int .i64 0, .string ⟨#[]⟩, .string ⟨#[]⟩, .int .i64 0, .int .i64 0] 38
 have b0 := (Below.refl w.heap.size w).alloc (Nat.le_refl _) (.cells #[.int .i64 0, .string ⟨#[]⟩, .string ⟨#[]⟩, .int .i64 0, .int .i64 0] 38)
 have K0 := Lib.hid k0
 have B := Lib.hid b0
 clear k0 b0
 have L1 : Hid (∀ W, Calls Tryz.prog 48 #[.int .u8 S[0].toNat] W fun e w' => e = .returned (.bool true) ∧ Below W.heap.size W w') := Lib.hid (fun W => by have h := letter_is S[0] W W (Below.refl _ _); rw [hl] at h; exact h)
 have L2 : Hid (∀ W, Calls Tryz.prog 49 #[.string S, .func (.func 50) #[] #[]] W fun e w' => e = .returned (.int .i64 n) ∧ Below W.heap.size W w') := Lib.hid (fun W => (while_word _ W (by omega)).mono fun e w' ⟨⟨m, h1, h2⟩, h3⟩ => ⟨by rw [h1, h2, hn], h3⟩)
 have t1 : decide ((n : Int) > 32) = true := decide_eq_true (by omega)
 all_goals clear hl hn
 all_goals
  go_enter Tryz.func33, Tryz.ntmps33
  go_upto_region 1 with (fail)
  generalize (w.alloc (Obj.cells #[.int .i64 0, .string ⟨#[]⟩, .string ⟨#[]⟩, .int .i64 0, .int .i64 0] 38)) = W0 at *
  go_upto_region 5 with (first
   | (go_at_call 48; with_reducible refine (L1.out _).mono ?_; rintro e wx ⟨rfl, q⟩; replace K0 := Lib.hid (K0.out.near (by first | exact Near.same _ | exact Near.one _) q); replace B := Lib.hid (goI B.out q); clear q)
   | (go_at_call 49; with_reducible refine (L2.out _).mono ?_; rintro e wx ⟨rfl, q⟩; replace K0 := Lib.hid (K0.out.near (by first | exact Near.same _ | exact Near.one _) q); replace B := Lib.hid (goI B.out q); clear q)
   | fail "arm")
  have z0 := K0.out.free 0
  have z1 := K0.out.free 1
  have z2 := K0.out.free 2
  have z3 := K0.out.free 3
  have z4 := K0.out.free 4
  have c0 := K0.out.at_ 0 _ rfl
  have c1 := K0.out.at_ 1 _ rfl
  have c2 := K0.out.at_ 2 _ rfl
  have c3 := K0.out.at_ 3 _ rfl
  have c4 := K0.out.at_ 4 _ rfl
  go_wp2
  have R := K0.out.set5 (.int .i64 0) (.string ⟨#[]⟩) (.string ⟨#[]⟩) (.int .i64 0) (.int .i64 0)
  have B1 := below_set5 B.out (Nat.le_refl _) (.int .i64 0) (.string ⟨#[]⟩) (.string ⟨#[]⟩) (.int .i64 0) (.int .i64 0)
  generalize (World.setCell (World.setCell (World.setCell (World.setCell (World.setCell wx ⟨w.heap.size, 0, none⟩ (.int .i64 0)) ⟨w.heap.size, 1, none⟩ (.string ⟨#[]⟩)) ⟨w.heap.size, 2, none⟩ (.string ⟨#[]⟩)) ⟨w.heap.size, 3, none⟩ (.int .i64 0)) ⟨w.heap.size, 4, none⟩ (.int .i64 0)) = W1 at *
  have e0 := R.at_ 0 _ rfl
  have e1 := R.at_ 1 _ rfl
  have e2 := R.at_ 2 _ rfl
  have e3 := R.at_ 3 _ rfl
  have e4 := R.at_ 4 _ rfl
  exact bodyPost_ret (v := fstV 0 ⟨#[]⟩ ⟨#[]⟩ 0 8) (by simp [results, Tryz.results33, go_sem, e0, e1, e2, e3, e4, fstV]) rfl ⟨rfl, B1⟩

set_option maxRecDepth 100000 in
set_option maxHeartbeats 4000000 in
theorem first_num_a (S : ByteArray) (w : World) (h0 : 0 < S.size) (hs : S.size ≤ 65536) (hl : isLet S[0] = false) (hD : isDig S[0] = true) (m : Nat) (hn : WhileR isNum (S.extract 1 S.size) m) (hn1 : 1 + m ≤ S.size) (R0 : ByteArray) (E : Int) (hp : ∀ W, Below w.heap.size w W → Calls Tryz.prog 53 #[.string (S.extract 0 (1 + m))] W fun e w' => e = .returned (.tuple #[.string R0, .int .i64 E]) ∧ Below W.heap.size W w') (he : E = 0)  :
  Calls Tryz.prog 33 #[.string S] w fun e w' => e = .returned (fstV 2 R0 R0 (1 + m) 0) ∧ Below w.heap.size w w' := by
 have k0 := Blk.fresh w #[.int .i64 0, .string ⟨#[]⟩, .string ⟨#[]⟩, .int .i64 0, .int .i64 0] 38
 have b0 := (Below.refl w.heap.size w).alloc (Nat.le_refl _) (.cells #[.int .i64 0, .string ⟨#[]⟩, .string ⟨#[]⟩, .int .i64 0, .int .i64 0] 38)
 have K0 := Lib.hid k0
 have B := Lib.hid b0
 clear k0 b0
 have L1 : Hid (∀ W, Calls Tryz.prog 48 #[.int .u8 S[0].toNat] W fun e w' => e = .returned (.bool false) ∧ Below W.heap.size W w') := Lib.hid (fun W => by have h := letter_is S[0] W W (Below.refl _ _); rw [hl] at h; exact h)
 have D0 : Hid (∀ W, Calls Tryz.prog 51 #[.int .u8 S[0].toNat] W fun e w' => e = .returned (.bool true) ∧ Below W.heap.size W w') := Lib.hid (fun W => by have h := digit_is S[0] W W (Below.refl _ _); rw [hD] at h; exact h)
 have L2 : Hid (∀ W, Calls Tryz.prog 49 #[.string (S.extract 1 S.size), .func (.func 52) #[] #[]] W fun e w' => e = .returned (.int .i64 m) ∧ Below W.heap.size W w') := Lib.hid (fun W => (while_num _ W (by rw [ByteArray.size_extract]; omega)).mono fun e w' ⟨⟨m, h1, h2⟩, h3⟩ => ⟨by rw [h1, h2, hn], h3⟩)
 have e1 : (E != 0) = false := by rw [he]; rfl
 have P1 := Lib.hid hp
 all_goals clear hl hn he hp hD
 all_goals
  go_enter Tryz.func33, Tryz.ntmps33
  go_upto_region 1 with (fail)
  generalize (w.alloc (Obj.cells #[.int .i64 0, .string ⟨#[]⟩, .string ⟨#[]⟩, .int .i64 0, .int .i64 0] 38)) = W0 at *
  go_upto_region 12 with (first
   | (go_at_call 48; with_reducible refine (L1.out _).mono ?_; rintro e wx ⟨rfl, q⟩; replace K0 := Lib.hid (K0.out.near (by first | exact Near.same _ | exact Near.one _) q); replace B := Lib.hid (goI B.out q); clear q)
   | (go_at_call 49; with_reducible refine (L2.out _).mono ?_; rintro e wx ⟨rfl, q⟩; replace K0 := Lib.hid (K0.out.near (by first | exact Near.same _ | exact Near.one _) q); replace B := Lib.hid (goI B.out q); clear q)
   | (go_at_call 51; with_reducible refine (D0.out _).mono ?_; rintro e wx ⟨rfl, q⟩; replace K0 := Lib.hid (K0.out.near (by first | exact Near.same _ | exact Near.one _) q); replace B := Lib.hid (goI B.out q); clear q)
   | (go_at_call 53; with_reducible refine (P1.out _ (baseI B.out)).mono ?_; rintro e wx ⟨rfl, q⟩; replace K0 := Lib.hid (K0.out.near (by first | exact Near.same _ | exact Near.one _) q); replace B := Lib.hid (goI B.out q); clear q)
   | fail "arm")
  have z0 := K0.out.free 0
  have z1 := K0.out.free 1
  have z2 := K0.out.free 2
  have z3 := K0.out.free 3
  have z4 := K0.out.free 4
  have c0 := K0.out.at_ 0 _ rfl
  have c1 := K0.out.at_ 1 _ rfl
  have c2 := K0.out.at_ 2 _ rfl
  have c3 := K0.out.at_ 3 _ rfl
  have c4 := K0.out.at_ 4 _ rfl
  go_wp2
  have R := K0.out.set5 (.int .i64 2) (.string R0) (.string R0) (.int .i64 0) (.int .i64 0)
  have B1 := below_set5 B.out (Nat.le_refl _) (.int .i64 2) (.string R0) (.string R0) (.int .i64 0) (.int .i64 0)
  generalize (World.setCell (World.setCell (World.setCell (World.setCell (World.setCell wx ⟨w.heap.size, 0, none⟩ (.int .i64 2)) ⟨w.heap.size, 1, none⟩ (.string R0)) ⟨w.heap.size, 2, none⟩ (.string R0)) ⟨w.heap.size, 3, none⟩ (.int .i64 0)) ⟨w.heap.size, 4, none⟩ (.int .i64 0)) = W1 at *
  have e0 := R.at_ 0 _ rfl
  have e1 := R.at_ 1 _ rfl
  have e2 := R.at_ 2 _ rfl
  have e3 := R.at_ 3 _ rfl
  have e4 := R.at_ 4 _ rfl
  exact bodyPost_ret (v := fstV 2 R0 R0 (1 + m) 0) (by simp [results, Tryz.results33, go_sem, e0, e1, e2, e3, e4, fstV]) rfl ⟨rfl, B1⟩

set_option maxRecDepth 100000 in
set_option maxHeartbeats 4000000 in
theorem first_nonum_a (S : ByteArray) (w : World) (h0 : 0 < S.size) (hs : S.size ≤ 65536) (hl : isLet S[0] = false) (hD : isDig S[0] = true) (m : Nat) (hn : WhileR isNum (S.extract 1 S.size) m) (hn1 : 1 + m ≤ S.size) (R0 : ByteArray) (E : Int) (hp : ∀ W, Below w.heap.size w W → Calls Tryz.prog 53 #[.string (S.extract 0 (1 + m))] W fun e w' => e = .returned (.tuple #[.string R0, .int .i64 E]) ∧ Below W.heap.size W w') (he : E ≠ 0)  :
  Calls Tryz.prog 33 #[.string S] w fun e w' => e = .returned (fstV 0 ⟨#[]⟩ ⟨#[]⟩ 0 2) ∧ Below w.heap.size w w' := by
 have k0 := Blk.fresh w #[.int .i64 0, .string ⟨#[]⟩, .string ⟨#[]⟩, .int .i64 0, .int .i64 0] 38
 have b0 := (Below.refl w.heap.size w).alloc (Nat.le_refl _) (.cells #[.int .i64 0, .string ⟨#[]⟩, .string ⟨#[]⟩, .int .i64 0, .int .i64 0] 38)
 have K0 := Lib.hid k0
 have B := Lib.hid b0
 clear k0 b0
 have L1 : Hid (∀ W, Calls Tryz.prog 48 #[.int .u8 S[0].toNat] W fun e w' => e = .returned (.bool false) ∧ Below W.heap.size W w') := Lib.hid (fun W => by have h := letter_is S[0] W W (Below.refl _ _); rw [hl] at h; exact h)
 have D0 : Hid (∀ W, Calls Tryz.prog 51 #[.int .u8 S[0].toNat] W fun e w' => e = .returned (.bool true) ∧ Below W.heap.size W w') := Lib.hid (fun W => by have h := digit_is S[0] W W (Below.refl _ _); rw [hD] at h; exact h)
 have L2 : Hid (∀ W, Calls Tryz.prog 49 #[.string (S.extract 1 S.size), .func (.func 52) #[] #[]] W fun e w' => e = .returned (.int .i64 m) ∧ Below W.heap.size W w') := Lib.hid (fun W => (while_num _ W (by rw [ByteArray.size_extract]; omega)).mono fun e w' ⟨⟨m, h1, h2⟩, h3⟩ => ⟨by rw [h1, h2, hn], h3⟩)
 have e1 : (E != 0) = true := by rw [bne_iff_ne]; exact he
 have P1 := Lib.hid hp
 all_goals clear hl hn he hp hD
 all_goals
  go_enter Tryz.func33, Tryz.ntmps33
  go_upto_region 1 with (fail)
  generalize (w.alloc (Obj.cells #[.int .i64 0, .string ⟨#[]⟩, .string ⟨#[]⟩, .int .i64 0, .int .i64 0] 38)) = W0 at *
  go_upto_region 11 with (first
   | (go_at_call 48; with_reducible refine (L1.out _).mono ?_; rintro e wx ⟨rfl, q⟩; replace K0 := Lib.hid (K0.out.near (by first | exact Near.same _ | exact Near.one _) q); replace B := Lib.hid (goI B.out q); clear q)
   | (go_at_call 49; with_reducible refine (L2.out _).mono ?_; rintro e wx ⟨rfl, q⟩; replace K0 := Lib.hid (K0.out.near (by first | exact Near.same _ | exact Near.one _) q); replace B := Lib.hid (goI B.out q); clear q)
   | (go_at_call 51; with_reducible refine (D0.out _).mono ?_; rintro e wx ⟨rfl, q⟩; replace K0 := Lib.hid (K0.out.near (by first | exact Near.same _ | exact Near.one _) q); replace B := Lib.hid (goI B.out q); clear q)
   | (go_at_call 53; with_reducible refine (P1.out _ (baseI B.out)).mono ?_; rintro e wx ⟨rfl, q⟩; replace K0 := Lib.hid (K0.out.near (by first | exact Near.same _ | exact Near.one _) q); replace B := Lib.hid (goI B.out q); clear q)
   | fail "arm")
  have z0 := K0.out.free 0
  have z1 := K0.out.free 1
  have z2 := K0.out.free 2
  have z3 := K0.out.free 3
  have z4 := K0.out.free 4
  have c0 := K0.out.at_ 0 _ rfl
  have c1 := K0.out.at_ 1 _ rfl
  have c2 := K0.out.at_ 2 _ rfl
  have c3 := K0.out.at_ 3 _ rfl
  have c4 := K0.out.at_ 4 _ rfl
  go_wp2
  have R := K0.out.set5 (.int .i64 0) (.string ⟨#[]⟩) (.string ⟨#[]⟩) (.int .i64 0) (.int .i64 0)
  have B1 := below_set5 B.out (Nat.le_refl _) (.int .i64 0) (.string ⟨#[]⟩) (.string ⟨#[]⟩) (.int .i64 0) (.int .i64 0)
  generalize (World.setCell (World.setCell (World.setCell (World.setCell (World.setCell wx ⟨w.heap.size, 0, none⟩ (.int .i64 0)) ⟨w.heap.size, 1, none⟩ (.string ⟨#[]⟩)) ⟨w.heap.size, 2, none⟩ (.string ⟨#[]⟩)) ⟨w.heap.size, 3, none⟩ (.int .i64 0)) ⟨w.heap.size, 4, none⟩ (.int .i64 0)) = W1 at *
  have e0 := R.at_ 0 _ rfl
  have e1 := R.at_ 1 _ rfl
  have e2 := R.at_ 2 _ rfl
  have e3 := R.at_ 3 _ rfl
  have e4 := R.at_ 4 _ rfl
  exact bodyPost_ret (v := fstV 0 ⟨#[]⟩ ⟨#[]⟩ 0 2) (by simp [results, Tryz.results33, go_sem, e0, e1, e2, e3, e4, fstV]) rfl ⟨rfl, B1⟩

set_option maxRecDepth 100000 in
set_option maxHeartbeats 4000000 in
theorem first_num_b (S : ByteArray) (w : World) (h0 : 0 < S.size) (hs : S.size ≤ 65536) (hl : isLet S[0] = false) (hD : isDig S[0] = false) (hM : S[0] = 45) (h1 : 1 < S.size) (hE : isDig S[1] = true) (m : Nat) (hn : WhileR isNum (S.extract 1 S.size) m) (hn1 : 1 + m ≤ S.size) (R0 : ByteArray) (E : Int) (hp : ∀ W, Below w.heap.size w W → Calls Tryz.prog 53 #[.string (S.extract 0 (1 + m))] W fun e w' => e = .returned (.tuple #[.string R0, .int .i64 E]) ∧ Below W.heap.size W w') (he : E = 0)  :
  Calls Tryz.prog 33 #[.string S] w fun e w' => e = .returned (fstV 2 R0 R0 (1 + m) 0) ∧ Below w.heap.size w w' := by
 have k0 := Blk.fresh w #[.int .i64 0, .string ⟨#[]⟩, .string ⟨#[]⟩, .int .i64 0, .int .i64 0] 38
 have b0 := (Below.refl w.heap.size w).alloc (Nat.le_refl _) (.cells #[.int .i64 0, .string ⟨#[]⟩, .string ⟨#[]⟩, .int .i64 0, .int .i64 0] 38)
 have K0 := Lib.hid k0
 have B := Lib.hid b0
 clear k0 b0
 have L1 : Hid (∀ W, Calls Tryz.prog 48 #[.int .u8 S[0].toNat] W fun e w' => e = .returned (.bool false) ∧ Below W.heap.size W w') := Lib.hid (fun W => by have h := letter_is S[0] W W (Below.refl _ _); rw [hl] at h; exact h)
 have D0 : Hid (∀ W, Calls Tryz.prog 51 #[.int .u8 S[0].toNat] W fun e w' => e = .returned (.bool false) ∧ Below W.heap.size W w') := Lib.hid (fun W => by have h := digit_is S[0] W W (Below.refl _ _); rw [hD] at h; exact h)
 have D1 : Hid (∀ W, Calls Tryz.prog 51 #[.int .u8 S[1].toNat] W fun e w' => e = .returned (.bool true) ∧ Below W.heap.size W w') := Lib.hid (fun W => by have h := digit_is S[1] W W (Below.refl _ _); rw [hE] at h; exact h)
 have q45 : (((S[0].toNat : Nat) : Int) == 45) = true := u8_eq_true S[0] 45 (by decide) hM
 have t1 : decide ((S.size : Int) > 1) = true := decide_eq_true (by omega)
 have L2 : Hid (∀ W, Calls Tryz.prog 49 #[.string (S.extract 1 S.size), .func (.func 52) #[] #[]] W fun e w' => e = .returned (.int .i64 m) ∧ Below W.heap.size W w') := Lib.hid (fun W => (while_num _ W (by rw [ByteArray.size_extract]; omega)).mono fun e w' ⟨⟨m, h1, h2⟩, h3⟩ => ⟨by rw [h1, h2, hn], h3⟩)
 have e1 : (E != 0) = false := by rw [he]; rfl
 have P1 := Lib.hid hp
 all_goals clear hl hn he hp hD hM hE
 all_goals
  go_enter Tryz.func33, Tryz.ntmps33
  go_upto_region 1 with (fail)
  generalize (w.alloc (Obj.cells #[.int .i64 0, .string ⟨#[]⟩, .string ⟨#[]⟩, .int .i64 0, .int .i64 0] 38)) = W0 at *
  go_upto_region 12 with (first
   | (go_at_call 48; with_reducible refine (L1.out _).mono ?_; rintro e wx ⟨rfl, q⟩; replace K0 := Lib.hid (K0.out.near (by first | exact Near.same _ | exact Near.one _) q); replace B := Lib.hid (goI B.out q); clear q)
   | (go_at_call 49; with_reducible refine (L2.out _).mono ?_; rintro e wx ⟨rfl, q⟩; replace K0 := Lib.hid (K0.out.near (by first | exact Near.same _ | exact Near.one _) q); replace B := Lib.hid (goI B.out q); clear q)
   | (go_at_call 51; with_reducible refine (D0.out _).mono ?_; rintro e wx ⟨rfl, q⟩; replace K0 := Lib.hid (K0.out.near (by first | exact Near.same _ | exact Near.one _) q); replace B := Lib.hid (goI B.out q); clear q)
   | (go_at_call 51; with_reducible refine (D1.out _).mono ?_; rintro e wx ⟨rfl, q⟩; replace K0 := Lib.hid (K0.out.near (by first | exact Near.same _ | exact Near.one _) q); replace B := Lib.hid (goI B.out q); clear q)
   | (go_at_call 53; with_reducible refine (P1.out _ (baseI B.out)).mono ?_; rintro e wx ⟨rfl, q⟩; replace K0 := Lib.hid (K0.out.near (by first | exact Near.same _ | exact Near.one _) q); replace B := Lib.hid (goI B.out q); clear q)
   | fail "arm")
  have z0 := K0.out.free 0
  have z1 := K0.out.free 1
  have z2 := K0.out.free 2
  have z3 := K0.out.free 3
  have z4 := K0.out.free 4
  have c0 := K0.out.at_ 0 _ rfl
  have c1 := K0.out.at_ 1 _ rfl
  have c2 := K0.out.at_ 2 _ rfl
  have c3 := K0.out.at_ 3 _ rfl
  have c4 := K0.out.at_ 4 _ rfl
  go_wp2
  have R := K0.out.set5 (.int .i64 2) (.string R0) (.string R0) (.int .i64 0) (.int .i64 0)
  have B1 := below_set5 B.out (Nat.le_refl _) (.int .i64 2) (.string R0) (.string R0) (.int .i64 0) (.int .i64 0)
  generalize (World.setCell (World.setCell (World.setCell (World.setCell (World.setCell wx ⟨w.heap.size, 0, none⟩ (.int .i64 2)) ⟨w.heap.size, 1, none⟩ (.string R0)) ⟨w.heap.size, 2, none⟩ (.string R0)) ⟨w.heap.size, 3, none⟩ (.int .i64 0)) ⟨w.heap.size, 4, none⟩ (.int .i64 0)) = W1 at *
  have e0 := R.at_ 0 _ rfl
  have e1 := R.at_ 1 _ rfl
  have e2 := R.at_ 2 _ rfl
  have e3 := R.at_ 3 _ rfl
  have e4 := R.at_ 4 _ rfl
  exact bodyPost_ret (v := fstV 2 R0 R0 (1 + m) 0) (by simp [results, Tryz.results33, go_sem, e0, e1, e2, e3, e4, fstV]) rfl ⟨rfl, B1⟩

set_option maxRecDepth 100000 in
set_option maxHeartbeats 4000000 in
theorem first_nonum_b (S : ByteArray) (w : World) (h0 : 0 < S.size) (hs : S.size ≤ 65536) (hl : isLet S[0] = false) (hD : isDig S[0] = false) (hM : S[0] = 45) (h1 : 1 < S.size) (hE : isDig S[1] = true) (m : Nat) (hn : WhileR isNum (S.extract 1 S.size) m) (hn1 : 1 + m ≤ S.size) (R0 : ByteArray) (E : Int) (hp : ∀ W, Below w.heap.size w W → Calls Tryz.prog 53 #[.string (S.extract 0 (1 + m))] W fun e w' => e = .returned (.tuple #[.string R0, .int .i64 E]) ∧ Below W.heap.size W w') (he : E ≠ 0)  :
  Calls Tryz.prog 33 #[.string S] w fun e w' => e = .returned (fstV 0 ⟨#[]⟩ ⟨#[]⟩ 0 2) ∧ Below w.heap.size w w' := by
 have k0 := Blk.fresh w #[.int .i64 0, .string ⟨#[]⟩, .string ⟨#[]⟩, .int .i64 0, .int .i64 0] 38
 have b0 := (Below.refl w.heap.size w).alloc (Nat.le_refl _) (.cells #[.int .i64 0, .string ⟨#[]⟩, .string ⟨#[]⟩, .int .i64 0, .int .i64 0] 38)
 have K0 := Lib.hid k0
 have B := Lib.hid b0
 clear k0 b0
 have L1 : Hid (∀ W, Calls Tryz.prog 48 #[.int .u8 S[0].toNat] W fun e w' => e = .returned (.bool false) ∧ Below W.heap.size W w') := Lib.hid (fun W => by have h := letter_is S[0] W W (Below.refl _ _); rw [hl] at h; exact h)
 have D0 : Hid (∀ W, Calls Tryz.prog 51 #[.int .u8 S[0].toNat] W fun e w' => e = .returned (.bool false) ∧ Below W.heap.size W w') := Lib.hid (fun W => by have h := digit_is S[0] W W (Below.refl _ _); rw [hD] at h; exact h)
 have D1 : Hid (∀ W, Calls Tryz.prog 51 #[.int .u8 S[1].toNat] W fun e w' => e = .returned (.bool true) ∧ Below W.heap.size W w') := Lib.hid (fun W => by have h := digit_is S[1] W W (Below.refl _ _); rw [hE] at h; exact h)
 have q45 : (((S[0].toNat : Nat) : Int) == 45) = true := u8_eq_true S[0] 45 (by decide) hM
 have t1 : decide ((S.size : Int) > 1) = true := decide_eq_true (by omega)
 have L2 : Hid (∀ W, Calls Tryz.prog 49 #[.string (S.extract 1 S.size), .func (.func 52) #[] #[]] W fun e w' => e = .returned (.int .i64 m) ∧ Below W.heap.size W w') := Lib.hid (fun W => (while_num _ W (by rw [ByteArray.size_extract]; omega)).mono fun e w' ⟨⟨m, h1, h2⟩, h3⟩ => ⟨by rw [h1, h2, hn], h3⟩)
 have e1 : (E != 0) = true := by rw [bne_iff_ne]; exact he
 have P1 := Lib.hid hp
 all_goals clear hl hn he hp hD hM hE
 all_goals
  go_enter Tryz.func33, Tryz.ntmps33
  go_upto_region 1 with (fail)
  generalize (w.alloc (Obj.cells #[.int .i64 0, .string ⟨#[]⟩, .string ⟨#[]⟩, .int .i64 0, .int .i64 0] 38)) = W0 at *
  go_upto_region 11 with (first
   | (go_at_call 48; with_reducible refine (L1.out _).mono ?_; rintro e wx ⟨rfl, q⟩; replace K0 := Lib.hid (K0.out.near (by first | exact Near.same _ | exact Near.one _) q); replace B := Lib.hid (goI B.out q); clear q)
   | (go_at_call 49; with_reducible refine (L2.out _).mono ?_; rintro e wx ⟨rfl, q⟩; replace K0 := Lib.hid (K0.out.near (by first | exact Near.same _ | exact Near.one _) q); replace B := Lib.hid (goI B.out q); clear q)
   | (go_at_call 51; with_reducible refine (D0.out _).mono ?_; rintro e wx ⟨rfl, q⟩; replace K0 := Lib.hid (K0.out.near (by first | exact Near.same _ | exact Near.one _) q); replace B := Lib.hid (goI B.out q); clear q)
   | (go_at_call 51; with_reducible refine (D1.out _).mono ?_; rintro e wx ⟨rfl, q⟩; replace K0 := Lib.hid (K0.out.near (by first | exact Near.same _ | exact Near.one _) q); replace B := Lib.hid (goI B.out q); clear q)
   | (go_at_call 53; with_reducible refine (P1.out _ (baseI B.out)).mono ?_; rintro e wx ⟨rfl, q⟩; replace K0 := Lib.hid (K0.out.near (by first | exact Near.same _ | exact Near.one _) q); replace B := Lib.hid (goI B.out q); clear q)
   | fail "arm")
  have z0 := K0.out.free 0
  have z1 := K0.out.free 1
  have z2 := K0.out.free 2
  have z3 := K0.out.free 3
  have z4 := K0.out.free 4
  have c0 := K0.out.at_ 0 _ rfl
  have c1 := K0.out.at_ 1 _ rfl
  have c2 := K0.out.at_ 2 _ rfl
  have c3 := K0.out.at_ 3 _ rfl
  have c4 := K0.out.at_ 4 _ rfl
  go_wp2
  have R := K0.out.set5 (.int .i64 0) (.string ⟨#[]⟩) (.string ⟨#[]⟩) (.int .i64 0) (.int .i64 0)
  have B1 := below_set5 B.out (Nat.le_refl _) (.int .i64 0) (.string ⟨#[]⟩) (.string ⟨#[]⟩) (.int .i64 0) (.int .i64 0)
  generalize (World.setCell (World.setCell (World.setCell (World.setCell (World.setCell wx ⟨w.heap.size, 0, none⟩ (.int .i64 0)) ⟨w.heap.size, 1, none⟩ (.string ⟨#[]⟩)) ⟨w.heap.size, 2, none⟩ (.string ⟨#[]⟩)) ⟨w.heap.size, 3, none⟩ (.int .i64 0)) ⟨w.heap.size, 4, none⟩ (.int .i64 0)) = W1 at *
  have e0 := R.at_ 0 _ rfl
  have e1 := R.at_ 1 _ rfl
  have e2 := R.at_ 2 _ rfl
  have e3 := R.at_ 3 _ rfl
  have e4 := R.at_ 4 _ rfl
  exact bodyPost_ret (v := fstV 0 ⟨#[]⟩ ⟨#[]⟩ 0 2) (by simp [results, Tryz.results33, go_sem, e0, e1, e2, e3, e4, fstV]) rfl ⟨rfl, B1⟩

set_option maxRecDepth 100000 in
set_option maxHeartbeats 4000000 in
theorem first_quote (S : ByteArray) (w : World) (h0 : 0 < S.size) (hs : S.size ≤ 65536) (hl : isLet S[0] = false) (hD : isDig S[0] = false) (hQ : S[0] = 34) (hM : S[0] ≠ 45) (k : Nat) (hj : Lib.indexByte (S.extract 1 S.size).data.toList (34 : Int).toNat.toUInt8 = (k : Int)) (hk : k + 2 ≤ S.size)  :
  Calls Tryz.prog 33 #[.string S] w fun e w' => e = .returned (fstV 3 (S.extract 1 (k + 1)) ⟨#[]⟩ (k + 2) 0) ∧ Below w.heap.size w w' := by
 have k0 := Blk.fresh w #[.int .i64 0, .string ⟨#[]⟩, .string ⟨#[]⟩, .int .i64 0, .int .i64 0] 38
 have b0 := (Below.refl w.heap.size w).alloc (Nat.le_refl _) (.cells #[.int .i64 0, .string ⟨#[]⟩, .string ⟨#[]⟩, .int .i64 0, .int .i64 0] 38)
 have K0 := Lib.hid k0
 have B := Lib.hid b0
 clear k0 b0
 have L1 : Hid (∀ W, Calls Tryz.prog 48 #[.int .u8 S[0].toNat] W fun e w' => e = .returned (.bool false) ∧ Below W.heap.size W w') := Lib.hid (fun W => by have h := letter_is S[0] W W (Below.refl _ _); rw [hl] at h; exact h)
 have D0 : Hid (∀ W, Calls Tryz.prog 51 #[.int .u8 S[0].toNat] W fun e w' => e = .returned (.bool false) ∧ Below W.heap.size W w') := Lib.hid (fun W => by have h := digit_is S[0] W W (Below.refl _ _); rw [hD] at h; exact h)
 have q45 : (((S[0].toNat : Nat) : Int) == 45) = false := u8_eq_false S[0] 45 (by decide) hM
 have q34 : (((S[0].toNat : Nat) : Int) == 34) = true := u8_eq_true S[0] 34 (by decide) hQ
 have I1 : Hid (∀ W, Calls Tryz.prog 32 #[.string (S.extract 1 S.size), .int .u8 34] W fun e w' => e = .returned (.int .i64 (k : Int)) ∧ Below W.heap.size W w') := Lib.hid (fun W => by have h := Tryz.strings_IndexByte (S.extract 1 S.size) 34 W; rw [hj] at h; exact h.mono fun e w' h => ⟨h.1, by rw [h.2]; exact Below.refl _ _⟩)
 all_goals clear hl hD hM hQ hj
 all_goals
  go_enter Tryz.func33, Tryz.ntmps33
  go_upto_region 1 with (fail)
  generalize (w.alloc (Obj.cells #[.int .i64 0, .string ⟨#[]⟩, .string ⟨#[]⟩, .int .i64 0, .int .i64 0] 38)) = W0 at *
  go_upto_region 17 with (first
   | (go_at_call 48; with_reducible refine (L1.out _).mono ?_; rintro e wx ⟨rfl, q⟩; replace K0 := Lib.hid (K0.out.near (by first | exact Near.same _ | exact Near.one _) q); replace B := Lib.hid (goI B.out q); clear q)
   | (go_at_call 51; with_reducible refine (D0.out _).mono ?_; rintro e wx ⟨rfl, q⟩; replace K0 := Lib.hid (K0.out.near (by first | exact Near.same _ | exact Near.one _) q); replace B := Lib.hid (goI B.out q); clear q)
   | (go_at_call 32; with_reducible refine (I1.out _).mono ?_; rintro e wx ⟨rfl, q⟩; replace K0 := Lib.hid (K0.out.near (by first | exact Near.same _ | exact Near.one _) q); replace B := Lib.hid (goI B.out q); clear q)
   | fail "arm")
  have z0 := K0.out.free 0
  have z1 := K0.out.free 1
  have z2 := K0.out.free 2
  have z3 := K0.out.free 3
  have z4 := K0.out.free 4
  have c0 := K0.out.at_ 0 _ rfl
  have c1 := K0.out.at_ 1 _ rfl
  have c2 := K0.out.at_ 2 _ rfl
  have c3 := K0.out.at_ 3 _ rfl
  have c4 := K0.out.at_ 4 _ rfl
  go_wp2
  have R := K0.out.set5 (.int .i64 3) (.string (S.extract 1 (k + 1))) (.string ⟨#[]⟩) (.int .i64 0) (.int .i64 0)
  have B1 := below_set5 B.out (Nat.le_refl _) (.int .i64 3) (.string (S.extract 1 (k + 1))) (.string ⟨#[]⟩) (.int .i64 0) (.int .i64 0)
  generalize (World.setCell (World.setCell (World.setCell (World.setCell (World.setCell wx ⟨w.heap.size, 0, none⟩ (.int .i64 3)) ⟨w.heap.size, 1, none⟩ (.string (S.extract 1 (k + 1)))) ⟨w.heap.size, 2, none⟩ (.string ⟨#[]⟩)) ⟨w.heap.size, 3, none⟩ (.int .i64 0)) ⟨w.heap.size, 4, none⟩ (.int .i64 0)) = W1 at *
  have e0 := R.at_ 0 _ rfl
  have e1 := R.at_ 1 _ rfl
  have e2 := R.at_ 2 _ rfl
  have e3 := R.at_ 3 _ rfl
  have e4 := R.at_ 4 _ rfl
  exact bodyPost_ret (v := fstV 3 (S.extract 1 (k + 1)) ⟨#[]⟩ (k + 2) 0) (by simp [results, Tryz.results33, go_sem, e0, e1, e2, e3, e4, fstV]) rfl ⟨rfl, B1⟩

set_option maxRecDepth 100000 in
set_option maxHeartbeats 4000000 in
theorem first_open (S : ByteArray) (w : World) (h0 : 0 < S.size) (hs : S.size ≤ 65536) (hl : isLet S[0] = false) (hD : isDig S[0] = false) (hQ : S[0] = 34) (hM : S[0] ≠ 45) (hj : Lib.indexByte (S.extract 1 S.size).data.toList (34 : Int).toNat.toUInt8 = -1)  :
  Calls Tryz.prog 33 #[.string S] w fun e w' => e = .returned (fstV 0 ⟨#[]⟩ ⟨#[]⟩ 0 15) ∧ Below w.heap.size w w' := by
 have k0 := Blk.fresh w #[.int .i64 0, .string ⟨#[]⟩, .string ⟨#[]⟩, .int .i64 0, .int .i64 0] 38
 have b0 := (Below.refl w.heap.size w).alloc (Nat.le_refl _) (.cells #[.int .i64 0, .string ⟨#[]⟩, .string ⟨#[]⟩, .int .i64 0, .int .i64 0] 38)
 have K0 := Lib.hid k0
 have B := Lib.hid b0
 clear k0 b0
 have L1 : Hid (∀ W, Calls Tryz.prog 48 #[.int .u8 S[0].toNat] W fun e w' => e = .returned (.bool false) ∧ Below W.heap.size W w') := Lib.hid (fun W => by have h := letter_is S[0] W W (Below.refl _ _); rw [hl] at h; exact h)
 have D0 : Hid (∀ W, Calls Tryz.prog 51 #[.int .u8 S[0].toNat] W fun e w' => e = .returned (.bool false) ∧ Below W.heap.size W w') := Lib.hid (fun W => by have h := digit_is S[0] W W (Below.refl _ _); rw [hD] at h; exact h)
 have q45 : (((S[0].toNat : Nat) : Int) == 45) = false := u8_eq_false S[0] 45 (by decide) hM
 have q34 : (((S[0].toNat : Nat) : Int) == 34) = true := u8_eq_true S[0] 34 (by decide) hQ
 have I1 : Hid (∀ W, Calls Tryz.prog 32 #[.string (S.extract 1 S.size), .int .u8 34] W fun e w' => e = .returned (.int .i64 (-1)) ∧ Below W.heap.size W w') := Lib.hid (fun W => by have h := Tryz.strings_IndexByte (S.extract 1 S.size) 34 W; rw [hj] at h; exact h.mono fun e w' h => ⟨h.1, by rw [h.2]; exact Below.refl _ _⟩)
 all_goals clear hl hD hM hQ hj
 all_goals
  go_enter Tryz.func33, Tryz.ntmps33
  go_upto_region 1 with (fail)
  generalize (w.alloc (Obj.cells #[.int .i64 0, .string ⟨#[]⟩, .string ⟨#[]⟩, .int .i64 0, .int .i64 0] 38)) = W0 at *
  go_upto_region 16 with (first
   | (go_at_call 48; with_reducible refine (L1.out _).mono ?_; rintro e wx ⟨rfl, q⟩; replace K0 := Lib.hid (K0.out.near (by first | exact Near.same _ | exact Near.one _) q); replace B := Lib.hid (goI B.out q); clear q)
   | (go_at_call 51; with_reducible refine (D0.out _).mono ?_; rintro e wx ⟨rfl, q⟩; replace K0 := Lib.hid (K0.out.near (by first | exact Near.same _ | exact Near.one _) q); replace B := Lib.hid (goI B.out q); clear q)
   | (go_at_call 32; with_reducible refine (I1.out _).mono ?_; rintro e wx ⟨rfl, q⟩; replace K0 := Lib.hid (K0.out.near (by first | exact Near.same _ | exact Near.one _) q); replace B := Lib.hid (goI B.out q); clear q)
   | fail "arm")
  have z0 := K0.out.free 0
  have z1 := K0.out.free 1
  have z2 := K0.out.free 2
  have z3 := K0.out.free 3
  have z4 := K0.out.free 4
  have c0 := K0.out.at_ 0 _ rfl
  have c1 := K0.out.at_ 1 _ rfl
  have c2 := K0.out.at_ 2 _ rfl
  have c3 := K0.out.at_ 3 _ rfl
  have c4 := K0.out.at_ 4 _ rfl
  go_wp2
  have R := K0.out.set5 (.int .i64 0) (.string ⟨#[]⟩) (.string ⟨#[]⟩) (.int .i64 0) (.int .i64 0)
  have B1 := below_set5 B.out (Nat.le_refl _) (.int .i64 0) (.string ⟨#[]⟩) (.string ⟨#[]⟩) (.int .i64 0) (.int .i64 0)
  generalize (World.setCell (World.setCell (World.setCell (World.setCell (World.setCell wx ⟨w.heap.size, 0, none⟩ (.int .i64 0)) ⟨w.heap.size, 1, none⟩ (.string ⟨#[]⟩)) ⟨w.heap.size, 2, none⟩ (.string ⟨#[]⟩)) ⟨w.heap.size, 3, none⟩ (.int .i64 0)) ⟨w.heap.size, 4, none⟩ (.int .i64 0)) = W1 at *
  have e0 := R.at_ 0 _ rfl
  have e1 := R.at_ 1 _ rfl
  have e2 := R.at_ 2 _ rfl
  have e3 := R.at_ 3 _ rfl
  have e4 := R.at_ 4 _ rfl
  exact bodyPost_ret (v := fstV 0 ⟨#[]⟩ ⟨#[]⟩ 0 15) (by simp [results, Tryz.results33, go_sem, e0, e1, e2, e3, e4, fstV]) rfl ⟨rfl, B1⟩

set_option maxRecDepth 100000 in
set_option maxHeartbeats 4000000 in
theorem first_two_al (S : ByteArray) (w : World) (h0 : 0 < S.size) (hs : S.size ≤ 65536) (hl : isLet S[0] = false) (hD : isDig S[0] = false) (hM : S[0] ≠ 45) (hQ : S[0] ≠ 34) (h2 : 1 < S.size) (hc : ∀ W, Below w.heap.size w W → Calls Tryz.prog 54 #[.slice (some ⟨W.heap.size, 0, none⟩) 4 4, .string (S.extract 0 2)] (W.alloc (.cells #[.string ⟨#[45, 62]⟩, .string ⟨#[60, 61]⟩, .string ⟨#[62, 61]⟩, .string ⟨#[33, 61]⟩] 9)) fun e w' => e = .returned (.bool true) ∧ Below W.heap.size W w')  :
  Calls Tryz.prog 33 #[.string S] w fun e w' => e = .returned (fstV 4 (S.extract 0 2) ⟨#[]⟩ 2 0) ∧ Below w.heap.size w w' := by
 have k0 := Blk.fresh w #[.int .i64 0, .string ⟨#[]⟩, .string ⟨#[]⟩, .int .i64 0, .int .i64 0] 38
 have b0 := (Below.refl w.heap.size w).alloc (Nat.le_refl _) (.cells #[.int .i64 0, .string ⟨#[]⟩, .string ⟨#[]⟩, .int .i64 0, .int .i64 0] 38)
 have K0 := Lib.hid k0
 have B := Lib.hid b0
 clear k0 b0
 have L1 : Hid (∀ W, Calls Tryz.prog 48 #[.int .u8 S[0].toNat] W fun e w' => e = .returned (.bool false) ∧ Below W.heap.size W w') := Lib.hid (fun W => by have h := letter_is S[0] W W (Below.refl _ _); rw [hl] at h; exact h)
 have D0 : Hid (∀ W, Calls Tryz.prog 51 #[.int .u8 S[0].toNat] W fun e w' => e = .returned (.bool false) ∧ Below W.heap.size W w') := Lib.hid (fun W => by have h := digit_is S[0] W W (Below.refl _ _); rw [hD] at h; exact h)
 have q45 : (((S[0].toNat : Nat) : Int) == 45) = false := u8_eq_false S[0] 45 (by decide) hM
 have q34 : (((S[0].toNat : Nat) : Int) == 34) = false := u8_eq_false S[0] 34 (by decide) hQ
 have t1 : decide ((S.size : Int) > 1) = true := decide_eq_true (by omega)
 have C1 := Lib.hid hc
 all_goals clear hl hQ hD hM hc
 all_goals
  go_enter Tryz.func33, Tryz.ntmps33
  go_upto_region 1 with (fail)
  generalize (w.alloc (Obj.cells #[.int .i64 0, .string ⟨#[]⟩, .string ⟨#[]⟩, .int .i64 0, .int .i64 0] 38)) = W0 at *
  go_upto_region 19 with (first
   | (go_at_call 48; with_reducible refine (L1.out _).mono ?_; rintro e wx ⟨rfl, q⟩; replace K0 := Lib.hid (K0.out.near (by first | exact Near.same _ | exact Near.one _) q); replace B := Lib.hid (goI B.out q); clear q)
   | (go_at_call 51; with_reducible refine (D0.out _).mono ?_; rintro e wx ⟨rfl, q⟩; replace K0 := Lib.hid (K0.out.near (by first | exact Near.same _ | exact Near.one _) q); replace B := Lib.hid (goI B.out q); clear q)
   | (go_at_call 54; with_reducible refine (C1.out _ B.out).mono ?_; rintro e wx ⟨rfl, q⟩; replace K0 := Lib.hid (K0.out.near (by first | exact Near.same _ | exact Near.one _) q); replace B := Lib.hid (goI B.out q); clear q)
   | fail "arm")
  have z0 := K0.out.free 0
  have z1 := K0.out.free 1
  have z2 := K0.out.free 2
  have z3 := K0.out.free 3
  have z4 := K0.out.free 4
  have c0 := K0.out.at_ 0 _ rfl
  have c1 := K0.out.at_ 1 _ rfl
  have c2 := K0.out.at_ 2 _ rfl
  have c3 := K0.out.at_ 3 _ rfl
  have c4 := K0.out.at_ 4 _ rfl
  go_wp2
  have R := K0.out.set5 (.int .i64 4) (.string (S.extract 0 2)) (.string ⟨#[]⟩) (.int .i64 0) (.int .i64 0)
  have B1 := below_set5 B.out (Nat.le_refl _) (.int .i64 4) (.string (S.extract 0 2)) (.string ⟨#[]⟩) (.int .i64 0) (.int .i64 0)
  generalize (World.setCell (World.setCell (World.setCell (World.setCell (World.setCell wx ⟨w.heap.size, 0, none⟩ (.int .i64 4)) ⟨w.heap.size, 1, none⟩ (.string (S.extract 0 2))) ⟨w.heap.size, 2, none⟩ (.string ⟨#[]⟩)) ⟨w.heap.size, 3, none⟩ (.int .i64 0)) ⟨w.heap.size, 4, none⟩ (.int .i64 0)) = W1 at *
  have e0 := R.at_ 0 _ rfl
  have e1 := R.at_ 1 _ rfl
  have e2 := R.at_ 2 _ rfl
  have e3 := R.at_ 3 _ rfl
  have e4 := R.at_ 4 _ rfl
  exact bodyPost_ret (v := fstV 4 (S.extract 0 2) ⟨#[]⟩ 2 0) (by simp [results, Tryz.results33, go_sem, e0, e1, e2, e3, e4, fstV]) rfl ⟨rfl, B1⟩

set_option maxRecDepth 100000 in
set_option maxHeartbeats 4000000 in
theorem first_two_cl (S : ByteArray) (w : World) (h0 : 0 < S.size) (hs : S.size ≤ 65536) (hl : isLet S[0] = false) (hD : isDig S[0] = false) (hM : S[0] = 45) (h1 : 1 < S.size) (hE : isDig S[1] = false) (hQ : S[0] ≠ 34) (h2 : 1 < S.size) (hc : ∀ W, Below w.heap.size w W → Calls Tryz.prog 54 #[.slice (some ⟨W.heap.size, 0, none⟩) 4 4, .string (S.extract 0 2)] (W.alloc (.cells #[.string ⟨#[45, 62]⟩, .string ⟨#[60, 61]⟩, .string ⟨#[62, 61]⟩, .string ⟨#[33, 61]⟩] 9)) fun e w' => e = .returned (.bool true) ∧ Below W.heap.size W w')  :
  Calls Tryz.prog 33 #[.string S] w fun e w' => e = .returned (fstV 4 (S.extract 0 2) ⟨#[]⟩ 2 0) ∧ Below w.heap.size w w' := by
 have k0 := Blk.fresh w #[.int .i64 0, .string ⟨#[]⟩, .string ⟨#[]⟩, .int .i64 0, .int .i64 0] 38
 have b0 := (Below.refl w.heap.size w).alloc (Nat.le_refl _) (.cells #[.int .i64 0, .string ⟨#[]⟩, .string ⟨#[]⟩, .int .i64 0, .int .i64 0] 38)
 have K0 := Lib.hid k0
 have B := Lib.hid b0
 clear k0 b0
 have L1 : Hid (∀ W, Calls Tryz.prog 48 #[.int .u8 S[0].toNat] W fun e w' => e = .returned (.bool false) ∧ Below W.heap.size W w') := Lib.hid (fun W => by have h := letter_is S[0] W W (Below.refl _ _); rw [hl] at h; exact h)
 have D0 : Hid (∀ W, Calls Tryz.prog 51 #[.int .u8 S[0].toNat] W fun e w' => e = .returned (.bool false) ∧ Below W.heap.size W w') := Lib.hid (fun W => by have h := digit_is S[0] W W (Below.refl _ _); rw [hD] at h; exact h)
 have D1 : Hid (∀ W, Calls Tryz.prog 51 #[.int .u8 S[1].toNat] W fun e w' => e = .returned (.bool false) ∧ Below W.heap.size W w') := Lib.hid (fun W => by have h := digit_is S[1] W W (Below.refl _ _); rw [hE] at h; exact h)
 have q45 : (((S[0].toNat : Nat) : Int) == 45) = true := u8_eq_true S[0] 45 (by decide) hM
 have t1 : decide ((S.size : Int) > 1) = true := decide_eq_true (by omega)
 have q34 : (((S[0].toNat : Nat) : Int) == 34) = false := u8_eq_false S[0] 34 (by decide) hQ
 have C1 := Lib.hid hc
 all_goals clear hl hQ hD hM hE hc
 all_goals
  go_enter Tryz.func33, Tryz.ntmps33
  go_upto_region 1 with (fail)
  generalize (w.alloc (Obj.cells #[.int .i64 0, .string ⟨#[]⟩, .string ⟨#[]⟩, .int .i64 0, .int .i64 0] 38)) = W0 at *
  go_upto_region 19 with (first
   | (go_at_call 48; with_reducible refine (L1.out _).mono ?_; rintro e wx ⟨rfl, q⟩; replace K0 := Lib.hid (K0.out.near (by first | exact Near.same _ | exact Near.one _) q); replace B := Lib.hid (goI B.out q); clear q)
   | (go_at_call 51; with_reducible refine (D0.out _).mono ?_; rintro e wx ⟨rfl, q⟩; replace K0 := Lib.hid (K0.out.near (by first | exact Near.same _ | exact Near.one _) q); replace B := Lib.hid (goI B.out q); clear q)
   | (go_at_call 51; with_reducible refine (D1.out _).mono ?_; rintro e wx ⟨rfl, q⟩; replace K0 := Lib.hid (K0.out.near (by first | exact Near.same _ | exact Near.one _) q); replace B := Lib.hid (goI B.out q); clear q)
   | (go_at_call 54; with_reducible refine (C1.out _ B.out).mono ?_; rintro e wx ⟨rfl, q⟩; replace K0 := Lib.hid (K0.out.near (by first | exact Near.same _ | exact Near.one _) q); replace B := Lib.hid (goI B.out q); clear q)
   | fail "arm")
  have z0 := K0.out.free 0
  have z1 := K0.out.free 1
  have z2 := K0.out.free 2
  have z3 := K0.out.free 3
  have z4 := K0.out.free 4
  have c0 := K0.out.at_ 0 _ rfl
  have c1 := K0.out.at_ 1 _ rfl
  have c2 := K0.out.at_ 2 _ rfl
  have c3 := K0.out.at_ 3 _ rfl
  have c4 := K0.out.at_ 4 _ rfl
  go_wp2
  have R := K0.out.set5 (.int .i64 4) (.string (S.extract 0 2)) (.string ⟨#[]⟩) (.int .i64 0) (.int .i64 0)
  have B1 := below_set5 B.out (Nat.le_refl _) (.int .i64 4) (.string (S.extract 0 2)) (.string ⟨#[]⟩) (.int .i64 0) (.int .i64 0)
  generalize (World.setCell (World.setCell (World.setCell (World.setCell (World.setCell wx ⟨w.heap.size, 0, none⟩ (.int .i64 4)) ⟨w.heap.size, 1, none⟩ (.string (S.extract 0 2))) ⟨w.heap.size, 2, none⟩ (.string ⟨#[]⟩)) ⟨w.heap.size, 3, none⟩ (.int .i64 0)) ⟨w.heap.size, 4, none⟩ (.int .i64 0)) = W1 at *
  have e0 := R.at_ 0 _ rfl
  have e1 := R.at_ 1 _ rfl
  have e2 := R.at_ 2 _ rfl
  have e3 := R.at_ 3 _ rfl
  have e4 := R.at_ 4 _ rfl
  exact bodyPost_ret (v := fstV 4 (S.extract 0 2) ⟨#[]⟩ 2 0) (by simp [results, Tryz.results33, go_sem, e0, e1, e2, e3, e4, fstV]) rfl ⟨rfl, B1⟩

set_option maxRecDepth 100000 in
set_option maxHeartbeats 4000000 in
theorem first_one_as (S : ByteArray) (w : World) (h0 : 0 < S.size) (hs : S.size ≤ 65536) (hl : isLet S[0] = false) (hD : isDig S[0] = false) (hM : S[0] ≠ 45) (hQ : S[0] ≠ 34) (h2 : S.size ≤ 1) (i : Nat) (hi : Lib.indexByte (ByteArray.mk #[40, 41, 91, 93, 123, 125, 58, 44, 59, 61, 60, 62, 43, 42, 47, 46, 64, 124, 38, 45]).data.toList (S[0].toNat : Int).toNat.toUInt8 = (i : Int))  :
  Calls Tryz.prog 33 #[.string S] w fun e w' => e = .returned (fstV 4 (S.extract 0 1) ⟨#[]⟩ 1 0) ∧ Below w.heap.size w w' := by
 have k0 := Blk.fresh w #[.int .i64 0, .string ⟨#[]⟩, .string ⟨#[]⟩, .int .i64 0, .int .i64 0] 38
 have b0 := (Below.refl w.heap.size w).alloc (Nat.le_refl _) (.cells #[.int .i64 0, .string ⟨#[]⟩, .string ⟨#[]⟩, .int .i64 0, .int .i64 0] 38)
 have K0 := Lib.hid k0
 have B := Lib.hid b0
 clear k0 b0
 have L1 : Hid (∀ W, Calls Tryz.prog 48 #[.int .u8 S[0].toNat] W fun e w' => e = .returned (.bool false) ∧ Below W.heap.size W w') := Lib.hid (fun W => by have h := letter_is S[0] W W (Below.refl _ _); rw [hl] at h; exact h)
 have D0 : Hid (∀ W, Calls Tryz.prog 51 #[.int .u8 S[0].toNat] W fun e w' => e = .returned (.bool false) ∧ Below W.heap.size W w') := Lib.hid (fun W => by have h := digit_is S[0] W W (Below.refl _ _); rw [hD] at h; exact h)
 have q45 : (((S[0].toNat : Nat) : Int) == 45) = false := u8_eq_false S[0] 45 (by decide) hM
 have q34 : (((S[0].toNat : Nat) : Int) == 34) = false := u8_eq_false S[0] 34 (by decide) hQ
 have t1 : decide ((S.size : Int) > 1) = false := decide_eq_false (by omega)
 have I1 : Hid (∀ W, Calls Tryz.prog 32 #[.string ⟨#[40, 41, 91, 93, 123, 125, 58, 44, 59, 61, 60, 62, 43, 42, 47, 46, 64, 124, 38, 45]⟩, .int .u8 (S[0].toNat : Int)] W fun e w' => e = .returned (.int .i64 (i : Int)) ∧ Below W.heap.size W w') := Lib.hid (fun W => by have h := Tryz.strings_IndexByte ⟨#[40, 41, 91, 93, 123, 125, 58, 44, 59, 61, 60, 62, 43, 42, 47, 46, 64, 124, 38, 45]⟩ (S[0].toNat : Int) W; rw [hi] at h; exact h.mono fun e w' h => ⟨h.1, by rw [h.2]; exact Below.refl _ _⟩)
 all_goals clear hl hQ hD hM hi
 all_goals
  go_enter Tryz.func33, Tryz.ntmps33
  go_upto_region 1 with (fail)
  generalize (w.alloc (Obj.cells #[.int .i64 0, .string ⟨#[]⟩, .string ⟨#[]⟩, .int .i64 0, .int .i64 0] 38)) = W0 at *
  go_upto_region 21 with (first
   | (go_at_call 48; with_reducible refine (L1.out _).mono ?_; rintro e wx ⟨rfl, q⟩; replace K0 := Lib.hid (K0.out.near (by first | exact Near.same _ | exact Near.one _) q); replace B := Lib.hid (goI B.out q); clear q)
   | (go_at_call 51; with_reducible refine (D0.out _).mono ?_; rintro e wx ⟨rfl, q⟩; replace K0 := Lib.hid (K0.out.near (by first | exact Near.same _ | exact Near.one _) q); replace B := Lib.hid (goI B.out q); clear q)
   | (go_at_call 32; with_reducible refine (I1.out _).mono ?_; rintro e wx ⟨rfl, q⟩; replace K0 := Lib.hid (K0.out.near (by first | exact Near.same _ | exact Near.one _) q); replace B := Lib.hid (goI B.out q); clear q)
   | fail "arm")
  have z0 := K0.out.free 0
  have z1 := K0.out.free 1
  have z2 := K0.out.free 2
  have z3 := K0.out.free 3
  have z4 := K0.out.free 4
  have c0 := K0.out.at_ 0 _ rfl
  have c1 := K0.out.at_ 1 _ rfl
  have c2 := K0.out.at_ 2 _ rfl
  have c3 := K0.out.at_ 3 _ rfl
  have c4 := K0.out.at_ 4 _ rfl
  go_wp2
  have R := K0.out.set5 (.int .i64 4) (.string (S.extract 0 1)) (.string ⟨#[]⟩) (.int .i64 0) (.int .i64 0)
  have B1 := below_set5 B.out (Nat.le_refl _) (.int .i64 4) (.string (S.extract 0 1)) (.string ⟨#[]⟩) (.int .i64 0) (.int .i64 0)
  generalize (World.setCell (World.setCell (World.setCell (World.setCell (World.setCell wx ⟨w.heap.size, 0, none⟩ (.int .i64 4)) ⟨w.heap.size, 1, none⟩ (.string (S.extract 0 1))) ⟨w.heap.size, 2, none⟩ (.string ⟨#[]⟩)) ⟨w.heap.size, 3, none⟩ (.int .i64 0)) ⟨w.heap.size, 4, none⟩ (.int .i64 0)) = W1 at *
  have e0 := R.at_ 0 _ rfl
  have e1 := R.at_ 1 _ rfl
  have e2 := R.at_ 2 _ rfl
  have e3 := R.at_ 3 _ rfl
  have e4 := R.at_ 4 _ rfl
  exact bodyPost_ret (v := fstV 4 (S.extract 0 1) ⟨#[]⟩ 1 0) (by simp [results, Tryz.results33, go_sem, e0, e1, e2, e3, e4, fstV]) rfl ⟨rfl, B1⟩

set_option maxRecDepth 100000 in
set_option maxHeartbeats 4000000 in
theorem first_one_al (S : ByteArray) (w : World) (h0 : 0 < S.size) (hs : S.size ≤ 65536) (hl : isLet S[0] = false) (hD : isDig S[0] = false) (hM : S[0] ≠ 45) (hQ : S[0] ≠ 34) (h2 : 1 < S.size) (hc : ∀ W, Below w.heap.size w W → Calls Tryz.prog 54 #[.slice (some ⟨W.heap.size, 0, none⟩) 4 4, .string (S.extract 0 2)] (W.alloc (.cells #[.string ⟨#[45, 62]⟩, .string ⟨#[60, 61]⟩, .string ⟨#[62, 61]⟩, .string ⟨#[33, 61]⟩] 9)) fun e w' => e = .returned (.bool false) ∧ Below W.heap.size W w') (i : Nat) (hi : Lib.indexByte (ByteArray.mk #[40, 41, 91, 93, 123, 125, 58, 44, 59, 61, 60, 62, 43, 42, 47, 46, 64, 124, 38, 45]).data.toList (S[0].toNat : Int).toNat.toUInt8 = (i : Int))  :
  Calls Tryz.prog 33 #[.string S] w fun e w' => e = .returned (fstV 4 (S.extract 0 1) ⟨#[]⟩ 1 0) ∧ Below w.heap.size w w' := by
 have k0 := Blk.fresh w #[.int .i64 0, .string ⟨#[]⟩, .string ⟨#[]⟩, .int .i64 0, .int .i64 0] 38
 have b0 := (Below.refl w.heap.size w).alloc (Nat.le_refl _) (.cells #[.int .i64 0, .string ⟨#[]⟩, .string ⟨#[]⟩, .int .i64 0, .int .i64 0] 38)
 have K0 := Lib.hid k0
 have B := Lib.hid b0
 clear k0 b0
 have L1 : Hid (∀ W, Calls Tryz.prog 48 #[.int .u8 S[0].toNat] W fun e w' => e = .returned (.bool false) ∧ Below W.heap.size W w') := Lib.hid (fun W => by have h := letter_is S[0] W W (Below.refl _ _); rw [hl] at h; exact h)
 have D0 : Hid (∀ W, Calls Tryz.prog 51 #[.int .u8 S[0].toNat] W fun e w' => e = .returned (.bool false) ∧ Below W.heap.size W w') := Lib.hid (fun W => by have h := digit_is S[0] W W (Below.refl _ _); rw [hD] at h; exact h)
 have q45 : (((S[0].toNat : Nat) : Int) == 45) = false := u8_eq_false S[0] 45 (by decide) hM
 have q34 : (((S[0].toNat : Nat) : Int) == 34) = false := u8_eq_false S[0] 34 (by decide) hQ
 have t1 : decide ((S.size : Int) > 1) = true := decide_eq_true (by omega)
 have C1 := Lib.hid hc
 have I1 : Hid (∀ W, Calls Tryz.prog 32 #[.string ⟨#[40, 41, 91, 93, 123, 125, 58, 44, 59, 61, 60, 62, 43, 42, 47, 46, 64, 124, 38, 45]⟩, .int .u8 (S[0].toNat : Int)] W fun e w' => e = .returned (.int .i64 (i : Int)) ∧ Below W.heap.size W w') := Lib.hid (fun W => by have h := Tryz.strings_IndexByte ⟨#[40, 41, 91, 93, 123, 125, 58, 44, 59, 61, 60, 62, 43, 42, 47, 46, 64, 124, 38, 45]⟩ (S[0].toNat : Int) W; rw [hi] at h; exact h.mono fun e w' h => ⟨h.1, by rw [h.2]; exact Below.refl _ _⟩)
 all_goals clear hl hQ hD hM hc hi
 all_goals
  go_enter Tryz.func33, Tryz.ntmps33
  go_upto_region 1 with (fail)
  generalize (w.alloc (Obj.cells #[.int .i64 0, .string ⟨#[]⟩, .string ⟨#[]⟩, .int .i64 0, .int .i64 0] 38)) = W0 at *
  go_upto_region 21 with (first
   | (go_at_call 48; with_reducible refine (L1.out _).mono ?_; rintro e wx ⟨rfl, q⟩; replace K0 := Lib.hid (K0.out.near (by first | exact Near.same _ | exact Near.one _) q); replace B := Lib.hid (goI B.out q); clear q)
   | (go_at_call 51; with_reducible refine (D0.out _).mono ?_; rintro e wx ⟨rfl, q⟩; replace K0 := Lib.hid (K0.out.near (by first | exact Near.same _ | exact Near.one _) q); replace B := Lib.hid (goI B.out q); clear q)
   | (go_at_call 54; with_reducible refine (C1.out _ B.out).mono ?_; rintro e wx ⟨rfl, q⟩; replace K0 := Lib.hid (K0.out.near (by first | exact Near.same _ | exact Near.one _) q); replace B := Lib.hid (goI B.out q); clear q)
   | (go_at_call 32; with_reducible refine (I1.out _).mono ?_; rintro e wx ⟨rfl, q⟩; replace K0 := Lib.hid (K0.out.near (by first | exact Near.same _ | exact Near.one _) q); replace B := Lib.hid (goI B.out q); clear q)
   | fail "arm")
  have z0 := K0.out.free 0
  have z1 := K0.out.free 1
  have z2 := K0.out.free 2
  have z3 := K0.out.free 3
  have z4 := K0.out.free 4
  have c0 := K0.out.at_ 0 _ rfl
  have c1 := K0.out.at_ 1 _ rfl
  have c2 := K0.out.at_ 2 _ rfl
  have c3 := K0.out.at_ 3 _ rfl
  have c4 := K0.out.at_ 4 _ rfl
  go_wp2
  have R := K0.out.set5 (.int .i64 4) (.string (S.extract 0 1)) (.string ⟨#[]⟩) (.int .i64 0) (.int .i64 0)
  have B1 := below_set5 B.out (Nat.le_refl _) (.int .i64 4) (.string (S.extract 0 1)) (.string ⟨#[]⟩) (.int .i64 0) (.int .i64 0)
  generalize (World.setCell (World.setCell (World.setCell (World.setCell (World.setCell wx ⟨w.heap.size, 0, none⟩ (.int .i64 4)) ⟨w.heap.size, 1, none⟩ (.string (S.extract 0 1))) ⟨w.heap.size, 2, none⟩ (.string ⟨#[]⟩)) ⟨w.heap.size, 3, none⟩ (.int .i64 0)) ⟨w.heap.size, 4, none⟩ (.int .i64 0)) = W1 at *
  have e0 := R.at_ 0 _ rfl
  have e1 := R.at_ 1 _ rfl
  have e2 := R.at_ 2 _ rfl
  have e3 := R.at_ 3 _ rfl
  have e4 := R.at_ 4 _ rfl
  exact bodyPost_ret (v := fstV 4 (S.extract 0 1) ⟨#[]⟩ 1 0) (by simp [results, Tryz.results33, go_sem, e0, e1, e2, e3, e4, fstV]) rfl ⟨rfl, B1⟩

set_option maxRecDepth 100000 in
set_option maxHeartbeats 4000000 in
theorem first_one_bs (S : ByteArray) (w : World) (h0 : 0 < S.size) (hs : S.size ≤ 65536) (hl : isLet S[0] = false) (hD : isDig S[0] = false) (hM : S[0] = 45) (h1 : S.size ≤ 1) (hQ : S[0] ≠ 34) (h2 : S.size ≤ 1) (i : Nat) (hi : Lib.indexByte (ByteArray.mk #[40, 41, 91, 93, 123, 125, 58, 44, 59, 61, 60, 62, 43, 42, 47, 46, 64, 124, 38, 45]).data.toList (S[0].toNat : Int).toNat.toUInt8 = (i : Int))  :
  Calls Tryz.prog 33 #[.string S] w fun e w' => e = .returned (fstV 4 (S.extract 0 1) ⟨#[]⟩ 1 0) ∧ Below w.heap.size w w' := by
 have k0 := Blk.fresh w #[.int .i64 0, .string ⟨#[]⟩, .string ⟨#[]⟩, .int .i64 0, .int .i64 0] 38
 have b0 := (Below.refl w.heap.size w).alloc (Nat.le_refl _) (.cells #[.int .i64 0, .string ⟨#[]⟩, .string ⟨#[]⟩, .int .i64 0, .int .i64 0] 38)
 have K0 := Lib.hid k0
 have B := Lib.hid b0
 clear k0 b0
 have L1 : Hid (∀ W, Calls Tryz.prog 48 #[.int .u8 S[0].toNat] W fun e w' => e = .returned (.bool false) ∧ Below W.heap.size W w') := Lib.hid (fun W => by have h := letter_is S[0] W W (Below.refl _ _); rw [hl] at h; exact h)
 have D0 : Hid (∀ W, Calls Tryz.prog 51 #[.int .u8 S[0].toNat] W fun e w' => e = .returned (.bool false) ∧ Below W.heap.size W w') := Lib.hid (fun W => by have h := digit_is S[0] W W (Below.refl _ _); rw [hD] at h; exact h)
 have q45 : (((S[0].toNat : Nat) : Int) == 45) = true := u8_eq_true S[0] 45 (by decide) hM
 have t1 : decide ((S.size : Int) > 1) = false := decide_eq_false (by omega)
 have q34 : (((S[0].toNat : Nat) : Int) == 34) = false := u8_eq_false S[0] 34 (by decide) hQ
 have I1 : Hid (∀ W, Calls Tryz.prog 32 #[.string ⟨#[40, 41, 91, 93, 123, 125, 58, 44, 59, 61, 60, 62, 43, 42, 47, 46, 64, 124, 38, 45]⟩, .int .u8 (S[0].toNat : Int)] W fun e w' => e = .returned (.int .i64 (i : Int)) ∧ Below W.heap.size W w') := Lib.hid (fun W => by have h := Tryz.strings_IndexByte ⟨#[40, 41, 91, 93, 123, 125, 58, 44, 59, 61, 60, 62, 43, 42, 47, 46, 64, 124, 38, 45]⟩ (S[0].toNat : Int) W; rw [hi] at h; exact h.mono fun e w' h => ⟨h.1, by rw [h.2]; exact Below.refl _ _⟩)
 all_goals clear hl hQ hD hM hi
 all_goals
  go_enter Tryz.func33, Tryz.ntmps33
  go_upto_region 1 with (fail)
  generalize (w.alloc (Obj.cells #[.int .i64 0, .string ⟨#[]⟩, .string ⟨#[]⟩, .int .i64 0, .int .i64 0] 38)) = W0 at *
  go_upto_region 21 with (first
   | (go_at_call 48; with_reducible refine (L1.out _).mono ?_; rintro e wx ⟨rfl, q⟩; replace K0 := Lib.hid (K0.out.near (by first | exact Near.same _ | exact Near.one _) q); replace B := Lib.hid (goI B.out q); clear q)
   | (go_at_call 51; with_reducible refine (D0.out _).mono ?_; rintro e wx ⟨rfl, q⟩; replace K0 := Lib.hid (K0.out.near (by first | exact Near.same _ | exact Near.one _) q); replace B := Lib.hid (goI B.out q); clear q)
   | (go_at_call 32; with_reducible refine (I1.out _).mono ?_; rintro e wx ⟨rfl, q⟩; replace K0 := Lib.hid (K0.out.near (by first | exact Near.same _ | exact Near.one _) q); replace B := Lib.hid (goI B.out q); clear q)
   | fail "arm")
  have z0 := K0.out.free 0
  have z1 := K0.out.free 1
  have z2 := K0.out.free 2
  have z3 := K0.out.free 3
  have z4 := K0.out.free 4
  have c0 := K0.out.at_ 0 _ rfl
  have c1 := K0.out.at_ 1 _ rfl
  have c2 := K0.out.at_ 2 _ rfl
  have c3 := K0.out.at_ 3 _ rfl
  have c4 := K0.out.at_ 4 _ rfl
  go_wp2
  have R := K0.out.set5 (.int .i64 4) (.string (S.extract 0 1)) (.string ⟨#[]⟩) (.int .i64 0) (.int .i64 0)
  have B1 := below_set5 B.out (Nat.le_refl _) (.int .i64 4) (.string (S.extract 0 1)) (.string ⟨#[]⟩) (.int .i64 0) (.int .i64 0)
  generalize (World.setCell (World.setCell (World.setCell (World.setCell (World.setCell wx ⟨w.heap.size, 0, none⟩ (.int .i64 4)) ⟨w.heap.size, 1, none⟩ (.string (S.extract 0 1))) ⟨w.heap.size, 2, none⟩ (.string ⟨#[]⟩)) ⟨w.heap.size, 3, none⟩ (.int .i64 0)) ⟨w.heap.size, 4, none⟩ (.int .i64 0)) = W1 at *
  have e0 := R.at_ 0 _ rfl
  have e1 := R.at_ 1 _ rfl
  have e2 := R.at_ 2 _ rfl
  have e3 := R.at_ 3 _ rfl
  have e4 := R.at_ 4 _ rfl
  exact bodyPost_ret (v := fstV 4 (S.extract 0 1) ⟨#[]⟩ 1 0) (by simp [results, Tryz.results33, go_sem, e0, e1, e2, e3, e4, fstV]) rfl ⟨rfl, B1⟩

set_option maxRecDepth 100000 in
set_option maxHeartbeats 4000000 in
theorem first_one_cl (S : ByteArray) (w : World) (h0 : 0 < S.size) (hs : S.size ≤ 65536) (hl : isLet S[0] = false) (hD : isDig S[0] = false) (hM : S[0] = 45) (h1 : 1 < S.size) (hE : isDig S[1] = false) (hQ : S[0] ≠ 34) (h2 : 1 < S.size) (hc : ∀ W, Below w.heap.size w W → Calls Tryz.prog 54 #[.slice (some ⟨W.heap.size, 0, none⟩) 4 4, .string (S.extract 0 2)] (W.alloc (.cells #[.string ⟨#[45, 62]⟩, .string ⟨#[60, 61]⟩, .string ⟨#[62, 61]⟩, .string ⟨#[33, 61]⟩] 9)) fun e w' => e = .returned (.bool false) ∧ Below W.heap.size W w') (i : Nat) (hi : Lib.indexByte (ByteArray.mk #[40, 41, 91, 93, 123, 125, 58, 44, 59, 61, 60, 62, 43, 42, 47, 46, 64, 124, 38, 45]).data.toList (S[0].toNat : Int).toNat.toUInt8 = (i : Int))  :
  Calls Tryz.prog 33 #[.string S] w fun e w' => e = .returned (fstV 4 (S.extract 0 1) ⟨#[]⟩ 1 0) ∧ Below w.heap.size w w' := by
 have k0 := Blk.fresh w #[.int .i64 0, .string ⟨#[]⟩, .string ⟨#[]⟩, .int .i64 0, .int .i64 0] 38
 have b0 := (Below.refl w.heap.size w).alloc (Nat.le_refl _) (.cells #[.int .i64 0, .string ⟨#[]⟩, .string ⟨#[]⟩, .int .i64 0, .int .i64 0] 38)
 have K0 := Lib.hid k0
 have B := Lib.hid b0
 clear k0 b0
 have L1 : Hid (∀ W, Calls Tryz.prog 48 #[.int .u8 S[0].toNat] W fun e w' => e = .returned (.bool false) ∧ Below W.heap.size W w') := Lib.hid (fun W => by have h := letter_is S[0] W W (Below.refl _ _); rw [hl] at h; exact h)
 have D0 : Hid (∀ W, Calls Tryz.prog 51 #[.int .u8 S[0].toNat] W fun e w' => e = .returned (.bool false) ∧ Below W.heap.size W w') := Lib.hid (fun W => by have h := digit_is S[0] W W (Below.refl _ _); rw [hD] at h; exact h)
 have D1 : Hid (∀ W, Calls Tryz.prog 51 #[.int .u8 S[1].toNat] W fun e w' => e = .returned (.bool false) ∧ Below W.heap.size W w') := Lib.hid (fun W => by have h := digit_is S[1] W W (Below.refl _ _); rw [hE] at h; exact h)
 have q45 : (((S[0].toNat : Nat) : Int) == 45) = true := u8_eq_true S[0] 45 (by decide) hM
 have t1 : decide ((S.size : Int) > 1) = true := decide_eq_true (by omega)
 have q34 : (((S[0].toNat : Nat) : Int) == 34) = false := u8_eq_false S[0] 34 (by decide) hQ
 have C1 := Lib.hid hc
 have I1 : Hid (∀ W, Calls Tryz.prog 32 #[.string ⟨#[40, 41, 91, 93, 123, 125, 58, 44, 59, 61, 60, 62, 43, 42, 47, 46, 64, 124, 38, 45]⟩, .int .u8 (S[0].toNat : Int)] W fun e w' => e = .returned (.int .i64 (i : Int)) ∧ Below W.heap.size W w') := Lib.hid (fun W => by have h := Tryz.strings_IndexByte ⟨#[40, 41, 91, 93, 123, 125, 58, 44, 59, 61, 60, 62, 43, 42, 47, 46, 64, 124, 38, 45]⟩ (S[0].toNat : Int) W; rw [hi] at h; exact h.mono fun e w' h => ⟨h.1, by rw [h.2]; exact Below.refl _ _⟩)
 all_goals clear hl hQ hD hM hE hc hi
 all_goals
  go_enter Tryz.func33, Tryz.ntmps33
  go_upto_region 1 with (fail)
  generalize (w.alloc (Obj.cells #[.int .i64 0, .string ⟨#[]⟩, .string ⟨#[]⟩, .int .i64 0, .int .i64 0] 38)) = W0 at *
  go_upto_region 21 with (first
   | (go_at_call 48; with_reducible refine (L1.out _).mono ?_; rintro e wx ⟨rfl, q⟩; replace K0 := Lib.hid (K0.out.near (by first | exact Near.same _ | exact Near.one _) q); replace B := Lib.hid (goI B.out q); clear q)
   | (go_at_call 51; with_reducible refine (D0.out _).mono ?_; rintro e wx ⟨rfl, q⟩; replace K0 := Lib.hid (K0.out.near (by first | exact Near.same _ | exact Near.one _) q); replace B := Lib.hid (goI B.out q); clear q)
   | (go_at_call 51; with_reducible refine (D1.out _).mono ?_; rintro e wx ⟨rfl, q⟩; replace K0 := Lib.hid (K0.out.near (by first | exact Near.same _ | exact Near.one _) q); replace B := Lib.hid (goI B.out q); clear q)
   | (go_at_call 54; with_reducible refine (C1.out _ B.out).mono ?_; rintro e wx ⟨rfl, q⟩; replace K0 := Lib.hid (K0.out.near (by first | exact Near.same _ | exact Near.one _) q); replace B := Lib.hid (goI B.out q); clear q)
   | (go_at_call 32; with_reducible refine (I1.out _).mono ?_; rintro e wx ⟨rfl, q⟩; replace K0 := Lib.hid (K0.out.near (by first | exact Near.same _ | exact Near.one _) q); replace B := Lib.hid (goI B.out q); clear q)
   | fail "arm")
  have z0 := K0.out.free 0
  have z1 := K0.out.free 1
  have z2 := K0.out.free 2
  have z3 := K0.out.free 3
  have z4 := K0.out.free 4
  have c0 := K0.out.at_ 0 _ rfl
  have c1 := K0.out.at_ 1 _ rfl
  have c2 := K0.out.at_ 2 _ rfl
  have c3 := K0.out.at_ 3 _ rfl
  have c4 := K0.out.at_ 4 _ rfl
  go_wp2
  have R := K0.out.set5 (.int .i64 4) (.string (S.extract 0 1)) (.string ⟨#[]⟩) (.int .i64 0) (.int .i64 0)
  have B1 := below_set5 B.out (Nat.le_refl _) (.int .i64 4) (.string (S.extract 0 1)) (.string ⟨#[]⟩) (.int .i64 0) (.int .i64 0)
  generalize (World.setCell (World.setCell (World.setCell (World.setCell (World.setCell wx ⟨w.heap.size, 0, none⟩ (.int .i64 4)) ⟨w.heap.size, 1, none⟩ (.string (S.extract 0 1))) ⟨w.heap.size, 2, none⟩ (.string ⟨#[]⟩)) ⟨w.heap.size, 3, none⟩ (.int .i64 0)) ⟨w.heap.size, 4, none⟩ (.int .i64 0)) = W1 at *
  have e0 := R.at_ 0 _ rfl
  have e1 := R.at_ 1 _ rfl
  have e2 := R.at_ 2 _ rfl
  have e3 := R.at_ 3 _ rfl
  have e4 := R.at_ 4 _ rfl
  exact bodyPost_ret (v := fstV 4 (S.extract 0 1) ⟨#[]⟩ 1 0) (by simp [results, Tryz.results33, go_sem, e0, e1, e2, e3, e4, fstV]) rfl ⟨rfl, B1⟩

set_option maxRecDepth 100000 in
set_option maxHeartbeats 4000000 in
theorem first_none_as (S : ByteArray) (w : World) (h0 : 0 < S.size) (hs : S.size ≤ 65536) (hl : isLet S[0] = false) (hD : isDig S[0] = false) (hM : S[0] ≠ 45) (hQ : S[0] ≠ 34) (h2 : S.size ≤ 1) (hi : Lib.indexByte (ByteArray.mk #[40, 41, 91, 93, 123, 125, 58, 44, 59, 61, 60, 62, 43, 42, 47, 46, 64, 124, 38, 45]).data.toList (S[0].toNat : Int).toNat.toUInt8 = -1)  :
  Calls Tryz.prog 33 #[.string S] w fun e w' => e = .returned (fstV 0 ⟨#[]⟩ ⟨#[]⟩ 0 15) ∧ Below w.heap.size w w' := by
 have k0 := Blk.fresh w #[.int .i64 0, .string ⟨#[]⟩, .string ⟨#[]⟩, .int .i64 0, .int .i64 0] 38
 have b0 := (Below.refl w.heap.size w).alloc (Nat.le_refl _) (.cells #[.int .i64 0, .string ⟨#[]⟩, .string ⟨#[]⟩, .int .i64 0, .int .i64 0] 38)
 have K0 := Lib.hid k0
 have B := Lib.hid b0
 clear k0 b0
 have L1 : Hid (∀ W, Calls Tryz.prog 48 #[.int .u8 S[0].toNat] W fun e w' => e = .returned (.bool false) ∧ Below W.heap.size W w') := Lib.hid (fun W => by have h := letter_is S[0] W W (Below.refl _ _); rw [hl] at h; exact h)
 have D0 : Hid (∀ W, Calls Tryz.prog 51 #[.int .u8 S[0].toNat] W fun e w' => e = .returned (.bool false) ∧ Below W.heap.size W w') := Lib.hid (fun W => by have h := digit_is S[0] W W (Below.refl _ _); rw [hD] at h; exact h)
 have q45 : (((S[0].toNat : Nat) : Int) == 45) = false := u8_eq_false S[0] 45 (by decide) hM
 have q34 : (((S[0].toNat : Nat) : Int) == 34) = false := u8_eq_false S[0] 34 (by decide) hQ
 have t1 : decide ((S.size : Int) > 1) = false := decide_eq_false (by omega)
 have I1 : Hid (∀ W, Calls Tryz.prog 32 #[.string ⟨#[40, 41, 91, 93, 123, 125, 58, 44, 59, 61, 60, 62, 43, 42, 47, 46, 64, 124, 38, 45]⟩, .int .u8 (S[0].toNat : Int)] W fun e w' => e = .returned (.int .i64 (-1)) ∧ Below W.heap.size W w') := Lib.hid (fun W => by have h := Tryz.strings_IndexByte ⟨#[40, 41, 91, 93, 123, 125, 58, 44, 59, 61, 60, 62, 43, 42, 47, 46, 64, 124, 38, 45]⟩ (S[0].toNat : Int) W; rw [hi] at h; exact h.mono fun e w' h => ⟨h.1, by rw [h.2]; exact Below.refl _ _⟩)
 all_goals clear hl hQ hD hM hi
 all_goals
  go_enter Tryz.func33, Tryz.ntmps33
  go_upto_region 1 with (fail)
  generalize (w.alloc (Obj.cells #[.int .i64 0, .string ⟨#[]⟩, .string ⟨#[]⟩, .int .i64 0, .int .i64 0] 38)) = W0 at *
  go_upto_region 22 with (first
   | (go_at_call 48; with_reducible refine (L1.out _).mono ?_; rintro e wx ⟨rfl, q⟩; replace K0 := Lib.hid (K0.out.near (by first | exact Near.same _ | exact Near.one _) q); replace B := Lib.hid (goI B.out q); clear q)
   | (go_at_call 51; with_reducible refine (D0.out _).mono ?_; rintro e wx ⟨rfl, q⟩; replace K0 := Lib.hid (K0.out.near (by first | exact Near.same _ | exact Near.one _) q); replace B := Lib.hid (goI B.out q); clear q)
   | (go_at_call 32; with_reducible refine (I1.out _).mono ?_; rintro e wx ⟨rfl, q⟩; replace K0 := Lib.hid (K0.out.near (by first | exact Near.same _ | exact Near.one _) q); replace B := Lib.hid (goI B.out q); clear q)
   | fail "arm")
  have z0 := K0.out.free 0
  have z1 := K0.out.free 1
  have z2 := K0.out.free 2
  have z3 := K0.out.free 3
  have z4 := K0.out.free 4
  have c0 := K0.out.at_ 0 _ rfl
  have c1 := K0.out.at_ 1 _ rfl
  have c2 := K0.out.at_ 2 _ rfl
  have c3 := K0.out.at_ 3 _ rfl
  have c4 := K0.out.at_ 4 _ rfl
  go_wp2
  have R := K0.out.set5 (.int .i64 0) (.string ⟨#[]⟩) (.string ⟨#[]⟩) (.int .i64 0) (.int .i64 0)
  have B1 := below_set5 B.out (Nat.le_refl _) (.int .i64 0) (.string ⟨#[]⟩) (.string ⟨#[]⟩) (.int .i64 0) (.int .i64 0)
  generalize (World.setCell (World.setCell (World.setCell (World.setCell (World.setCell wx ⟨w.heap.size, 0, none⟩ (.int .i64 0)) ⟨w.heap.size, 1, none⟩ (.string ⟨#[]⟩)) ⟨w.heap.size, 2, none⟩ (.string ⟨#[]⟩)) ⟨w.heap.size, 3, none⟩ (.int .i64 0)) ⟨w.heap.size, 4, none⟩ (.int .i64 0)) = W1 at *
  have e0 := R.at_ 0 _ rfl
  have e1 := R.at_ 1 _ rfl
  have e2 := R.at_ 2 _ rfl
  have e3 := R.at_ 3 _ rfl
  have e4 := R.at_ 4 _ rfl
  exact bodyPost_ret (v := fstV 0 ⟨#[]⟩ ⟨#[]⟩ 0 15) (by simp [results, Tryz.results33, go_sem, e0, e1, e2, e3, e4, fstV]) rfl ⟨rfl, B1⟩

set_option maxRecDepth 100000 in
set_option maxHeartbeats 4000000 in
theorem first_none_al (S : ByteArray) (w : World) (h0 : 0 < S.size) (hs : S.size ≤ 65536) (hl : isLet S[0] = false) (hD : isDig S[0] = false) (hM : S[0] ≠ 45) (hQ : S[0] ≠ 34) (h2 : 1 < S.size) (hc : ∀ W, Below w.heap.size w W → Calls Tryz.prog 54 #[.slice (some ⟨W.heap.size, 0, none⟩) 4 4, .string (S.extract 0 2)] (W.alloc (.cells #[.string ⟨#[45, 62]⟩, .string ⟨#[60, 61]⟩, .string ⟨#[62, 61]⟩, .string ⟨#[33, 61]⟩] 9)) fun e w' => e = .returned (.bool false) ∧ Below W.heap.size W w') (hi : Lib.indexByte (ByteArray.mk #[40, 41, 91, 93, 123, 125, 58, 44, 59, 61, 60, 62, 43, 42, 47, 46, 64, 124, 38, 45]).data.toList (S[0].toNat : Int).toNat.toUInt8 = -1)  :
  Calls Tryz.prog 33 #[.string S] w fun e w' => e = .returned (fstV 0 ⟨#[]⟩ ⟨#[]⟩ 0 15) ∧ Below w.heap.size w w' := by
 have k0 := Blk.fresh w #[.int .i64 0, .string ⟨#[]⟩, .string ⟨#[]⟩, .int .i64 0, .int .i64 0] 38
 have b0 := (Below.refl w.heap.size w).alloc (Nat.le_refl _) (.cells #[.int .i64 0, .string ⟨#[]⟩, .string ⟨#[]⟩, .int .i64 0, .int .i64 0] 38)
 have K0 := Lib.hid k0
 have B := Lib.hid b0
 clear k0 b0
 have L1 : Hid (∀ W, Calls Tryz.prog 48 #[.int .u8 S[0].toNat] W fun e w' => e = .returned (.bool false) ∧ Below W.heap.size W w') := Lib.hid (fun W => by have h := letter_is S[0] W W (Below.refl _ _); rw [hl] at h; exact h)
 have D0 : Hid (∀ W, Calls Tryz.prog 51 #[.int .u8 S[0].toNat] W fun e w' => e = .returned (.bool false) ∧ Below W.heap.size W w') := Lib.hid (fun W => by have h := digit_is S[0] W W (Below.refl _ _); rw [hD] at h; exact h)
 have q45 : (((S[0].toNat : Nat) : Int) == 45) = false := u8_eq_false S[0] 45 (by decide) hM
 have q34 : (((S[0].toNat : Nat) : Int) == 34) = false := u8_eq_false S[0] 34 (by decide) hQ
 have t1 : decide ((S.size : Int) > 1) = true := decide_eq_true (by omega)
 have C1 := Lib.hid hc
 have I1 : Hid (∀ W, Calls Tryz.prog 32 #[.string ⟨#[40, 41, 91, 93, 123, 125, 58, 44, 59, 61, 60, 62, 43, 42, 47, 46, 64, 124, 38, 45]⟩, .int .u8 (S[0].toNat : Int)] W fun e w' => e = .returned (.int .i64 (-1)) ∧ Below W.heap.size W w') := Lib.hid (fun W => by have h := Tryz.strings_IndexByte ⟨#[40, 41, 91, 93, 123, 125, 58, 44, 59, 61, 60, 62, 43, 42, 47, 46, 64, 124, 38, 45]⟩ (S[0].toNat : Int) W; rw [hi] at h; exact h.mono fun e w' h => ⟨h.1, by rw [h.2]; exact Below.refl _ _⟩)
 all_goals clear hl hQ hD hM hc hi
 all_goals
  go_enter Tryz.func33, Tryz.ntmps33
  go_upto_region 1 with (fail)
  generalize (w.alloc (Obj.cells #[.int .i64 0, .string ⟨#[]⟩, .string ⟨#[]⟩, .int .i64 0, .int .i64 0] 38)) = W0 at *
  go_upto_region 22 with (first
   | (go_at_call 48; with_reducible refine (L1.out _).mono ?_; rintro e wx ⟨rfl, q⟩; replace K0 := Lib.hid (K0.out.near (by first | exact Near.same _ | exact Near.one _) q); replace B := Lib.hid (goI B.out q); clear q)
   | (go_at_call 51; with_reducible refine (D0.out _).mono ?_; rintro e wx ⟨rfl, q⟩; replace K0 := Lib.hid (K0.out.near (by first | exact Near.same _ | exact Near.one _) q); replace B := Lib.hid (goI B.out q); clear q)
   | (go_at_call 54; with_reducible refine (C1.out _ B.out).mono ?_; rintro e wx ⟨rfl, q⟩; replace K0 := Lib.hid (K0.out.near (by first | exact Near.same _ | exact Near.one _) q); replace B := Lib.hid (goI B.out q); clear q)
   | (go_at_call 32; with_reducible refine (I1.out _).mono ?_; rintro e wx ⟨rfl, q⟩; replace K0 := Lib.hid (K0.out.near (by first | exact Near.same _ | exact Near.one _) q); replace B := Lib.hid (goI B.out q); clear q)
   | fail "arm")
  have z0 := K0.out.free 0
  have z1 := K0.out.free 1
  have z2 := K0.out.free 2
  have z3 := K0.out.free 3
  have z4 := K0.out.free 4
  have c0 := K0.out.at_ 0 _ rfl
  have c1 := K0.out.at_ 1 _ rfl
  have c2 := K0.out.at_ 2 _ rfl
  have c3 := K0.out.at_ 3 _ rfl
  have c4 := K0.out.at_ 4 _ rfl
  go_wp2
  have R := K0.out.set5 (.int .i64 0) (.string ⟨#[]⟩) (.string ⟨#[]⟩) (.int .i64 0) (.int .i64 0)
  have B1 := below_set5 B.out (Nat.le_refl _) (.int .i64 0) (.string ⟨#[]⟩) (.string ⟨#[]⟩) (.int .i64 0) (.int .i64 0)
  generalize (World.setCell (World.setCell (World.setCell (World.setCell (World.setCell wx ⟨w.heap.size, 0, none⟩ (.int .i64 0)) ⟨w.heap.size, 1, none⟩ (.string ⟨#[]⟩)) ⟨w.heap.size, 2, none⟩ (.string ⟨#[]⟩)) ⟨w.heap.size, 3, none⟩ (.int .i64 0)) ⟨w.heap.size, 4, none⟩ (.int .i64 0)) = W1 at *
  have e0 := R.at_ 0 _ rfl
  have e1 := R.at_ 1 _ rfl
  have e2 := R.at_ 2 _ rfl
  have e3 := R.at_ 3 _ rfl
  have e4 := R.at_ 4 _ rfl
  exact bodyPost_ret (v := fstV 0 ⟨#[]⟩ ⟨#[]⟩ 0 15) (by simp [results, Tryz.results33, go_sem, e0, e1, e2, e3, e4, fstV]) rfl ⟨rfl, B1⟩

end Go.Proofs.YtfhmgkicccfghaaGreatDoor
