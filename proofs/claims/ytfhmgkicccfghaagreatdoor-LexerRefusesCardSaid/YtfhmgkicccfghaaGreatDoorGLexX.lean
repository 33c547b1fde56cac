/- The reader of tokens: its methods. -/
import Derived.Test.YtfhmgkicccfghaaGreatDoorLexWF
import Derived.BigQuiet
import Derived.StillTailTactics
import Derived.IntWalk
/- The reader of tokens: what is read of a row of tokens; slices.Clone, Open. -/
namespace Go.Proofs.YtfhmgkicccfghaaGreatDoor
set_option linter.all false
open Go.RowKit

def Tok.zero : Tok := ⟨0, [], [], 0, 0⟩
def tokV (t : Tok) : Value := .agg t.cells.toArray
theorem tokCells_get : ∀ (ts : List Tok) (i j : Nat) (t : Tok) (v : Value), ts[i]? = some t → t.cells[j]? = some v → (tokCells ts)[i * 5 + j]? = some v
 | [], i, j, t, v, h, _ => by simp at h
 | x :: ts, 0, j, t, v, h, hv => by
  simp at h
  subst h
  unfold tokCells
  rw [List.flatMap_cons, Nat.zero_mul, Nat.zero_add, List.getElem?_append_left (List.getElem?_eq_some_iff.1 hv).1]
  exact hv
 | x :: ts, i + 1, j, t, v, h, hv => by
  have ih := tokCells_get ts i j t v (by simpa using h) hv
  unfold tokCells at ih ⊢
  have hl : x.cells.length = 5 := rfl
  rw [List.flatMap_cons, List.getElem?_append_right (by omega), hl, show (i + 1) * 5 + j - 5 = i * 5 + j by omega]
  exact ih
def TokAt (W : World) (v : Value) (ts : List Tok) : Prop :=
 ∃ a c, v = .slice a ts.length c ∧ ∀ i t, ts[i]? = some t → ∃ d o, a = some ⟨d, o, none⟩ ∧ d < W.heap.size ∧ ∀ j u, t.cells[j]? = some u → W.cell? ⟨d, o + i * 5 + j, none⟩ = some u
theorem TokRow.look {W : World} {base : Nat} {v : Value} {ts : List Tok} (h : TokRow W base v ts) : TokAt W v ts := by
 rcases h with ⟨rfl, rfl⟩ | ⟨d, c, r, rfl, h2, h3, h4, h5⟩
 ·exact ⟨none, 0, rfl, fun i t h => by simp at h⟩
 ·refine ⟨_, c, rfl, fun i t ht => ⟨d, 0, rfl, h4.lt, fun j u hu => ?_⟩⟩
  rw [Nat.zero_add]
  refine h4.atL _ _ ?_
  have := tokCells_get ts i j t u ht hu
  rw [List.getElem?_append_left (List.getElem?_eq_some_iff.1 this).1]
  exact this
theorem TokAt.below {W W' : World} {v : Value} {ts : List Tok} (h : TokAt W v ts) (q : Below W.heap.size W W') : TokAt W' v ts := by
 obtain ⟨a, c, h1, h2⟩ := h
 refine ⟨a, c, h1, fun i t ht => ?_⟩
 obtain ⟨d, o, e1, e2, e3⟩ := h2 i t ht
 exact ⟨d, o, e1, Nat.lt_of_lt_of_le e2 q.size, fun j u hu => (q.cell (p := ⟨d, _, none⟩) e2).trans (e3 j u hu)⟩
theorem TokRow.grown {W W' : World} {base b : Nat} {v : Value} {ts : List Tok} {cs : Array Value} {T : TypeId} (h : TokRow W base v ts) (k : Blk W b cs T) (hT : T ≠ 38) (q : W.grownBy W' (some b)) : TokRow W' base v ts := by
 rcases h with h | ⟨d, c, r, h1, h2, h3, h4, h5⟩
 ·exact .inl h
 ·refine .inr ⟨d, c, r, h1, h2, h3, h4.grown q (fun e => ?_), h5⟩
  injection e with e
  subst e
  have := h4.symm.trans k
  injection this with this
  injection this with _ h6
  exact hT h6.symm

theorem tokCells_one : ∀ (ts : List Tok), ∀ u ∈ tokCells ts, u.oneCell' = true
 | [], u, h => by cases h
 | t :: ts, u, h => by
  unfold tokCells at h
  rw [List.flatMap_cons, List.mem_append] at h
  rcases h with h | h
  ·simp only [Tok.cells, List.mem_cons, List.not_mem_nil, or_false] at h
   rcases h with rfl | rfl | rfl | rfl | rfl <;> rfl
  ·exact tokCells_one ts u h
theorem TokRow.of_own {W : World} {base : Nat} {v : Value} {ts : List Tok} (h : W.ownsRow base 38 5 v ts.length (tokCells ts)) (hne : ts ≠ []) : TokRow W base v ts := by
 have hpos : 0 < ts.length := by
  cases ts with
  | nil => exact absurd rfl hne
  | cons _ _ => simp
 rcases h.2 with ⟨_, hn0⟩ | ⟨g, cap, cur, rfl, hg, hh, hle, hc, hcs, ht⟩
 ·omega
 ·have hcur : cur = (tokCells ts ++ cur.toList.drop (ts.length * 5)).toArray := by
   have e1 : cur.toList = tokCells ts ++ cur.toList.drop (ts.length * 5) := by
    conv => lhs; rw [← List.take_append_drop (ts.length * 5) cur.toList]
    rw [ht]
   rw [← e1]
  refine .inr ⟨g, cap, cur.toList.drop (ts.length * 5), rfl, hg, hne, ?_, ⟨tokCells_len ts, ?_, hle, hc⟩⟩
  ·rw [← hcur]
   exact hh
  ·have := congrArg Array.size hcur
   simp only [List.size_toArray] at this
   rw [← this, hcs]

set_option maxRecDepth 100000 in
set_option maxHeartbeats 4000000 in
theorem clone_any (s : Value) (ts : List Tok) (w : World) (base : Nat) (hr : TokRow w base s ts) (hl : ts.length ≤ 5000) :
  Calls Tryz.prog 37 #[s] w fun e w' => (∃ v, e = .returned v ∧ TokRow w' w.heap.size v ts) ∧ Below w.heap.size w w' := by
 rcases hr with ⟨rfl, rfl⟩ | ⟨d, c, r, rfl, h2, h3, h4, h5⟩
 ·have q : ∀ w, (binOp .eql 25 (.slice none 0 0) (.slice none 0 0)).run Tryz.prog w = .ok (.bool true) w := fun w => Lib.run_eql_slice_nil w _ _ none 0 0 0 0 tokElem.ht
  go_enter Tryz.func37, Tryz.ntmps37
  go_wp2
  go_ret
  exact ⟨⟨_, rfl, TokRow.nil _ _⟩, Below.refl _ _⟩
 ·have q : ∀ w, (binOp .eql 25 (.slice (some ⟨d, 0, none⟩) ts.length c) (.slice none 0 0)).run Tryz.prog w = .ok (.bool false) w := fun w => Lib.run_eql_slice_nil w _ _ (some ⟨d, 0, none⟩) ts.length c 0 0 tokElem.ht
  obtain ⟨i0, z0, hi, hz0, hz1, hz2, hz3⟩ := StrElem.parts tokElem
  have hlen := tokCells_len ts
  have hpos : 0 < ts.length := by cases ts with
   | nil => exact absurd rfl h3
   | cons _ _ => simp
  have H4 := Lib.hid h4
  have H5 := Lib.hid h5
  clear h4 h5
  go_enter Tryz.func37, Tryz.ntmps37
  go_wp2_with (at_builtin; go_loud (refine wpList_append_own_at _ rfl (.tmp 5) (.tmp 6) 25 rfl w.heap.size 38 i0 z0 5 56 tokElem.ht hi hz0 hz2 hz3 hz1 (by decide) (.slice (some ⟨w.heap.size, 0, none⟩) 0 0) 0 [] rfl (World.ownsRow_made w #[] 0 (Nat.le_refl _) (Nat.zero_le _) rfl) ⟨d, 0, none⟩ ts.length c (tokCells ts) rfl ?qc1 ?qc2 ?qc3 ?qc4 ?qc5 ?qc6 ?_))
  case qc1 => exact hlen
  case qc2 =>
   intro j u hj
   rw [Addr.add_lit]
   refine Lib.cell?_alloc_some _ ?_
   rw [Nat.zero_add]
   exact H4.out.atL j u (by rw [List.getElem?_append_left (List.getElem?_eq_some_iff.1 hj).1]; exact hj)
  case qc3 => exact tokCells_one ts
  case qc4 => unfold maxLen; omega
  case qc5 => omega
  case qc6 => simp
  intro v' w1 hown hgrow hnil hblk
  have hT : TokRow w1 w.heap.size v' ts := TokRow.of_own (by simpa using hown) h3
  have hB : Below w.heap.size w w1 := ((Below.refl _ w).alloc (Nat.le_refl _) _).grown hgrow (by simp) (by intro k hk; simp [Value.ownBlock] at hk; omega)
  have HT := Lib.hid hT
  have HB := Lib.hid hB
  clear hown hgrow hnil hblk hT hB
  go_wp2
  go_ret
  exact ⟨⟨_, rfl, HT.out⟩, HB.out⟩


def Rdr (W : World) (b : Nat) (s : Value) (n : Nat) : Prop := Blk W b #[s, .int .i64 n] 66
def ptrV (b : Nat) : Value := .pointer (some ⟨b, 0, none⟩)

set_option maxRecDepth 100000 in
set_option maxHeartbeats 4000000 in
theorem open_tok (s : Value) (ts : List Tok) (w : World) (base : Nat) (hr : TokRow w base s ts) (hl : ts.length ≤ 5000) :
  Calls Tryz.prog 17 #[s] w fun e w' => (∃ b v, w.heap.size ≤ b ∧ e = .returned (ptrV b) ∧ Rdr w' b v 0 ∧ TokRow w' w.heap.size v ts) ∧ Below w.heap.size w w' := by
 have hc := clone_any s ts w base hr hl
 have HC := Lib.hid hc
 clear hc hr
 go_enter Tryz.func17, Tryz.ntmps17
 go_wp2_with (first
  | (go_at_call 37; with_reducible refine HC.out.mono ?_; rintro e wx ⟨⟨v, rfl, hT⟩, q⟩; obtain ⟨va, vc, rfl⟩ := hT.len_eval)
  | fail "arm")
 go_ret
 exact ⟨⟨_, _, q.size, rfl, Blk.fresh wx _ _, hT.below (below_new wx _)⟩, q.alloc q.size _⟩

end Go.Proofs.YtfhmgkicccfghaaGreatDoor

/- The reader of tokens: Position, Back, Peek, At. -/
namespace Go.Proofs.YtfhmgkicccfghaaGreatDoor
set_option linter.all false
open Go.RowKit

theorem Rdr.pos {W : World} {b : Nat} {s : Value} {n : Nat} (h : Rdr W b s n) : W.cell? ⟨b, 1, none⟩ = some (.int .i64 n) := Blk.at_ (cs := #[s, .int .i64 n]) h 1 _ rfl
theorem Rdr.row {W : World} {b : Nat} {s : Value} {n : Nat} (h : Rdr W b s n) : W.cell? ⟨b, 0, none⟩ = some s := Blk.at_ (cs := #[s, .int .i64 n]) h 0 _ rfl
theorem Rdr.free {W : World} {b : Nat} {s : Value} {n : Nat} (h : Rdr W b s n) (j : Nat) : W.frozen? ⟨b, j, none⟩ = false := Blk.free (cs := #[s, .int .i64 n]) h j
theorem Rdr.below {W W' : World} {b : Nat} {s : Value} {n : Nat} (h : Rdr W b s n) (q : Below W.heap.size W W') : Rdr W' b s n := Blk.below (cs := #[s, .int .i64 n]) h q
theorem Rdr.lt {W : World} {b : Nat} {s : Value} {n : Nat} (h : Rdr W b s n) : b < W.heap.size := Blk.lt (cs := #[s, .int .i64 n]) h

set_option maxRecDepth 100000 in
set_option maxHeartbeats 4000000 in
theorem pos_any (b : Nat) (s : Value) (n : Nat) (w : World) (hr : Rdr w b s n) :
  Calls Tryz.prog 19 #[ptrV b] w fun e w' => e = .returned (.int .i64 n) ∧ Below w.heap.size w w' := by
 have c1 := hr.pos
 clear hr
 unfold ptrV
 go_enter Tryz.func19, Tryz.ntmps19
 go_wp2
 go_ret
 exact ⟨rfl, Below.refl _ _⟩
set_option maxRecDepth 100000 in
set_option maxHeartbeats 4000000 in
theorem back_no (b : Nat) (s : Value) (n : Nat) (p : Int) (w : World) (hr : Rdr w b s n) (hp : p < 0 ∨ (n : Int) < p) :
  Calls Tryz.prog 27 #[ptrV b, .int .i64 p] w fun e w' => e = .returned (.bool false) ∧ Below w.heap.size w w' := by
 have c1 := hr.pos
 clear hr
 unfold ptrV
 by_cases h0 : p < 0
 ·have d0 : decide (p < 0) = true := decide_eq_true h0
  clear hp h0
  go_enter Tryz.func27, Tryz.ntmps27
  go_wp2
  go_ret
  exact ⟨rfl, Below.refl _ _⟩
 ·have d0 : decide (p < 0) = false := decide_eq_false h0
  have d1 : decide (p > (n : Int)) = true := decide_eq_true (by omega)
  clear hp h0
  go_enter Tryz.func27, Tryz.ntmps27
  go_wp2
  go_ret
  exact ⟨rfl, Below.refl _ _⟩
set_option maxRecDepth 100000 in
set_option maxHeartbeats 4000000 in
theorem back_yes (b : Nat) (s : Value) (n m : Nat) (w : World) (hr : Rdr w b s n) (hp : m ≤ n) (hn : n ≤ 100000) :
  Calls Tryz.prog 27 #[ptrV b, .int .i64 m] w fun e w' => (e = .returned (.bool true) ∧ Rdr w' b s m) ∧ w.grownBy w' (some b) := by
 have c1 := hr.pos
 have z1 := hr.free 1
 have hs : Rdr (w.setCell ⟨b, 1, none⟩ (.int .i64 m)) b s m := Blk.set (cs := #[s, .int .i64 n]) hr 1 _
 have HS := Lib.hid hs
 clear hr hs
 unfold ptrV
 have d0 : decide ((m : Int) < 0) = false := decide_eq_false (by omega)
 have d1 : decide ((m : Int) > (n : Int)) = false := decide_eq_false (by omega)
 go_enter Tryz.func27, Tryz.ntmps27
 go_wp2
 go_ret
 exact ⟨⟨rfl, HS.out⟩, Lib.grownBy_setCell _ _ _ _⟩

structure Rd (w : World) (b : Nat) (s : Value) (n : Nat) (ts : List Tok) : Prop where
 r : Rdr w b s n
 t : TokAt w s ts
 le : ts.length ≤ 5000
 nle : n ≤ 5000
set_option maxRecDepth 100000 in
set_option maxHeartbeats 4000000 in
theorem peek_end (b : Nat) (s : Value) (n : Nat) (ts : List Tok) (w : World) (h : Rd w b s n ts) (hn : ts.length ≤ n) :
  Calls Tryz.prog 18 #[ptrV b] w fun e w' => e = .returned (.tuple #[tokV Tok.zero, .bool false]) ∧ Below w.heap.size w w' := by
 obtain ⟨hr, ⟨a, c, rfl, ht⟩, hl, hn5⟩ := h
 have k0 := Blk.fresh w #[.int .i64 0, .string ⟨#[]⟩, .string ⟨#[]⟩, .int .i64 0, .int .i64 0] 38
 have b0 := (Below.refl w.heap.size w).alloc (Nat.le_refl _) (.cells #[.int .i64 0, .string ⟨#[]⟩, .string ⟨#[]⟩, .int .i64 0, .int .i64 0] 38)
 replace hr := hr.below b0
 have K0 := Lib.hid k0
 have B := Lib.hid b0
 have c0 := hr.row
 have c1 := hr.pos
 clear k0 b0 hr ht
 have dn : decide ((n : Int) ≥ (ts.length : Int)) = true := decide_eq_true (by omega)
 unfold ptrV
 go_enter Tryz.func18, Tryz.ntmps18
 go_upto_region 1 with (fail)
 generalize (w.alloc (Obj.cells #[.int .i64 0, .string ⟨#[]⟩, .string ⟨#[]⟩, .int .i64 0, .int .i64 0] 38)) = W0 at *
 go_quiet (fail)
 clear c0 c1
 generalize hdn : W0.drewN nq = W1 at *
 replace K0 : Hid (Blk W1 w.heap.size #[.int .i64 0, .string ⟨#[]⟩, .string ⟨#[]⟩, .int .i64 0, .int .i64 0] 38) := Lib.hid (by rw [← hdn]; exact K0.out.below ((Drew.of _ _).below _))
 replace B : Hid (Below w.heap.size w W1) := Lib.hid (by rw [← hdn]; exact B.out.trans ((Drew.of _ _).below _))
 have c0 := K0.out.at_ 0 _ rfl
 have c1 := K0.out.at_ 1 _ rfl
 have c2 := K0.out.at_ 2 _ rfl
 have c3 := K0.out.at_ 3 _ rfl
 have c4 := K0.out.at_ 4 _ rfl
 have z0 := K0.out.free 0
 have z1 := K0.out.free 1
 have z2 := K0.out.free 2
 have z3 := K0.out.free 3
 have z4 := K0.out.free 4
 go_wp2
 have R := K0.out.set5 (.int .i64 0) (.string ⟨#[]⟩) (.string ⟨#[]⟩) (.int .i64 0) (.int .i64 0)
 have B1 := below_set5 B.out (Nat.le_refl _) (.int .i64 0) (.string ⟨#[]⟩) (.string ⟨#[]⟩) (.int .i64 0) (.int .i64 0)
 have e0 := R.at_ 0 _ rfl
 have e1 := R.at_ 1 _ rfl
 have e2 := R.at_ 2 _ rfl
 have e3 := R.at_ 3 _ rfl
 have e4 := R.at_ 4 _ rfl
 exact bodyPost_ret (v := .tuple #[tokV Tok.zero, .bool false]) (by simp [results, Tryz.results18, go_sem, e0, e1, e2, e3, e4, tokV, Tok.cells, Tok.zero]) rfl ⟨rfl, B1⟩
set_option maxRecDepth 100000 in
set_option maxHeartbeats 4000000 in
theorem peek_tok (b : Nat) (s : Value) (n : Nat) (ts : List Tok) (t : Tok) (w : World) (h : Rd w b s n ts) (hn : ts[n]? = some t) :
  Calls Tryz.prog 18 #[ptrV b] w fun e w' => e = .returned (.tuple #[tokV t, .bool true]) ∧ Below w.heap.size w w' := by
 obtain ⟨hr, ⟨a, c, rfl, ht⟩, hl, hn5⟩ := h
 have hlt : n < ts.length := (List.getElem?_eq_some_iff.1 hn).1
 obtain ⟨d, o, rfl, hd, hc⟩ := ht n t hn
 have k0 := Blk.fresh w #[.int .i64 0, .string ⟨#[]⟩, .string ⟨#[]⟩, .int .i64 0, .int .i64 0] 38
 have b0 := (Below.refl w.heap.size w).alloc (Nat.le_refl _) (.cells #[.int .i64 0, .string ⟨#[]⟩, .string ⟨#[]⟩, .int .i64 0, .int .i64 0] 38)
 have q0 := (b0.cell (p := ⟨d, o + n * 5, none⟩) hd).trans (hc 0 _ rfl)
 have q1 := (b0.cell (p := ⟨d, o + n * 5 + 1, none⟩) hd).trans (hc 1 _ rfl)
 have q2 := (b0.cell (p := ⟨d, o + n * 5 + 2, none⟩) hd).trans (hc 2 _ rfl)
 have q3 := (b0.cell (p := ⟨d, o + n * 5 + 3, none⟩) hd).trans (hc 3 _ rfl)
 have q4 := (b0.cell (p := ⟨d, o + n * 5 + 4, none⟩) hd).trans (hc 4 _ rfl)
 replace hr := hr.below b0
 have K0 := Lib.hid k0
 have B := Lib.hid b0
 have c0 := hr.row
 have c1 := hr.pos
 clear k0 b0 hr ht hc hn
 have dn : decide ((n : Int) ≥ (ts.length : Int)) = false := decide_eq_false (by omega)
 unfold ptrV
 go_enter Tryz.func18, Tryz.ntmps18
 go_upto_region 1 with (fail)
 generalize (w.alloc (Obj.cells #[.int .i64 0, .string ⟨#[]⟩, .string ⟨#[]⟩, .int .i64 0, .int .i64 0] 38)) = W0 at *
 go_quiet (fail)
 generalize hdn : W0.drewN nq = W1 at *
 replace K0 : Hid (Blk W1 w.heap.size #[.int .i64 0, .string ⟨#[]⟩, .string ⟨#[]⟩, .int .i64 0, .int .i64 0] 38) := Lib.hid (by rw [← hdn]; exact K0.out.below ((Drew.of _ _).below _))
 replace B : Hid (Below w.heap.size w W1) := Lib.hid (by rw [← hdn]; exact B.out.trans ((Drew.of _ _).below _))
 change (W0.drewN nq).cell? _ = _ at c0 c1 q0 q1 q2 q3 q4
 rw [hdn] at c0 c1 q0 q1 q2 q3 q4
 clear hdn
 go_upto_region 3 with (fail)
 have hi : (n : Int) < (ts.length : Int) := by omega
 go_still_tail 10, (by kernel_rfl)
 change wpList _ _ _ _ _ W1.drew
 replace K0 : Hid (Blk W1.drew w.heap.size #[.int .i64 0, .string ⟨#[]⟩, .string ⟨#[]⟩, .int .i64 0, .int .i64 0] 38) := Lib.hid K0.out
 replace B : Hid (Below w.heap.size w W1.drew) := Lib.hid (B.out.drew)
 clear c0 c1 q0 q1 q2 q3 q4
 generalize W1.drew = W2 at *
 have c0 := K0.out.at_ 0 _ rfl
 have c1 := K0.out.at_ 1 _ rfl
 have c2 := K0.out.at_ 2 _ rfl
 have c3 := K0.out.at_ 3 _ rfl
 have c4 := K0.out.at_ 4 _ rfl
 have z0 := K0.out.free 0
 have z1 := K0.out.free 1
 have z2 := K0.out.free 2
 have z3 := K0.out.free 3
 have z4 := K0.out.free 4
 go_wp2
 have R := K0.out.set5 (.int .i64 t.kind) (.string ⟨t.text.toArray⟩) (.string ⟨t.value.toArray⟩) (.int .i64 t.line) (.int .i64 t.col)
 have B1 := below_set5 B.out (Nat.le_refl _) (.int .i64 t.kind) (.string ⟨t.text.toArray⟩) (.string ⟨t.value.toArray⟩) (.int .i64 t.line) (.int .i64 t.col)
 have e0 := R.at_ 0 _ rfl
 have e1 := R.at_ 1 _ rfl
 have e2 := R.at_ 2 _ rfl
 have e3 := R.at_ 3 _ rfl
 have e4 := R.at_ 4 _ rfl
 exact bodyPost_ret (v := .tuple #[tokV t, .bool true]) (by simp [results, Tryz.results18, go_sem, e0, e1, e2, e3, e4, tokV, Tok.cells, Tok.zero]) rfl ⟨rfl, B1⟩

end Go.Proofs.YtfhmgkicccfghaaGreatDoor

/- The reader of tokens: take, Next, Take, Accept. -/
namespace Go.Proofs.YtfhmgkicccfghaaGreatDoor
set_option linter.all false
open Go.RowKit

theorem Rd.below {w W : World} {b n : Nat} {s : Value} {ts : List Tok} (h : Rd w b s n ts) (q : Below w.heap.size w W) : Rd W b s n ts :=
 ⟨h.r.below q, h.t.below q, h.le, h.nle⟩
theorem grown_set {w W : World} {b : Nat} (q : Below w.heap.size w W) (j : Nat) (v : Value) : w.grownBy (W.setCell ⟨b, j, none⟩ v) (some b) :=
 ⟨q.os, q.tape, q.output, by rw [World.size_setCell]; exact q.size, fun k hk hne => (Below.heap_setCell W ⟨b, j, none⟩ v k (fun e => hne (by rw [e]))).trans (q.block k hk)⟩
theorem grown_more {w W V : World} {r : Option Nat} (q : w.grownBy W r) (h : Below w.heap.size W V) : w.grownBy V r :=
 ⟨h.os.trans q.os, h.tape.trans q.tape, h.output.trans q.output, Nat.le_trans q.size h.size, fun k hk hne => (h.block k hk).trans (q.block k hk hne)⟩

set_option maxRecDepth 100000 in
set_option maxHeartbeats 4000000 in
theorem nextf_is (t : Tok) (W : World) :
  Calls Tryz.prog 39 #[.agg #[.int .i64 t.kind, .string ⟨t.text.toArray⟩, .string ⟨t.value.toArray⟩, .int .i64 t.line, .int .i64 t.col]] W fun e w' => e = .returned (.bool true) ∧ Below W.heap.size W w' := by
 have k0 := Blk.fresh W #[.int .i64 t.kind, .string ⟨t.text.toArray⟩, .string ⟨t.value.toArray⟩, .int .i64 t.line, .int .i64 t.col] 38
 have b0 := (Below.refl W.heap.size W).alloc (Nat.le_refl _) (.cells #[.int .i64 t.kind, .string ⟨t.text.toArray⟩, .string ⟨t.value.toArray⟩, .int .i64 t.line, .int .i64 t.col] 38)
 have K0 := Lib.hid k0
 have B := Lib.hid b0
 clear k0 b0
 go_enter Tryz.func39, Tryz.ntmps39
 go_upto_region 1 with (fail)
 generalize (W.alloc (Obj.cells #[.int .i64 t.kind, .string ⟨t.text.toArray⟩, .string ⟨t.value.toArray⟩, .int .i64 t.line, .int .i64 t.col] 38)) = W0 at *
 have c0 := K0.out.at_ 0 _ rfl
 have c1 := K0.out.at_ 1 _ rfl
 go_wp2
 go_ret
 exact ⟨rfl, B.out⟩

set_option maxRecDepth 100000 in
set_option maxHeartbeats 4000000 in
theorem takef_is (t : Tok) (q : Nat) (k : Int) (W : World) (hql : q < W.heap.size) (hqc : W.cell? ⟨q, 0, none⟩ = some (.int .i64 k)) :
  Calls Tryz.prog 40 #[.agg #[.int .i64 t.kind, .string ⟨t.text.toArray⟩, .string ⟨t.value.toArray⟩, .int .i64 t.line, .int .i64 t.col], .pointer (some ⟨q, 0, none⟩)] W fun e w' => e = .returned (.bool (t.kind == k)) ∧ Below W.heap.size W w' := by
 have k0 := Blk.fresh W #[.int .i64 t.kind, .string ⟨t.text.toArray⟩, .string ⟨t.value.toArray⟩, .int .i64 t.line, .int .i64 t.col] 38
 have b0 := (Below.refl W.heap.size W).alloc (Nat.le_refl _) (.cells #[.int .i64 t.kind, .string ⟨t.text.toArray⟩, .string ⟨t.value.toArray⟩, .int .i64 t.line, .int .i64 t.col] 38)
 have K0 := Lib.hid k0
 have B := Lib.hid b0
 have hq := (b0.cell (p := ⟨q, 0, none⟩) hql).trans hqc
 clear hqc
 clear k0 b0
 go_enter Tryz.func40, Tryz.ntmps40
 go_upto_region 1 with (fail)
 generalize (W.alloc (Obj.cells #[.int .i64 t.kind, .string ⟨t.text.toArray⟩, .string ⟨t.value.toArray⟩, .int .i64 t.line, .int .i64 t.col] 38)) = W0 at *
 have c0 := K0.out.at_ 0 _ rfl
 have c1 := K0.out.at_ 1 _ rfl
 go_wp2
 go_ret
 exact ⟨rfl, B.out⟩

set_option maxRecDepth 100000 in
set_option maxHeartbeats 4000000 in
theorem acceptf_is (t : Tok) (q : Nat) (S : ByteArray) (W : World) (hql : q < W.heap.size) (hqc : W.cell? ⟨q, 0, none⟩ = some (.string S)) :
  Calls Tryz.prog 41 #[.agg #[.int .i64 t.kind, .string ⟨t.text.toArray⟩, .string ⟨t.value.toArray⟩, .int .i64 t.line, .int .i64 t.col], .pointer (some ⟨q, 0, none⟩)] W fun e w' => e = .returned (.bool ((t.kind == 1 || t.kind == 4) && (ByteArray.toList ⟨t.text.toArray⟩ == S.toList))) ∧ Below W.heap.size W w' := by
 have k0 := Blk.fresh W #[.int .i64 t.kind, .string ⟨t.text.toArray⟩, .string ⟨t.value.toArray⟩, .int .i64 t.line, .int .i64 t.col] 38
 have b0 := (Below.refl W.heap.size W).alloc (Nat.le_refl _) (.cells #[.int .i64 t.kind, .string ⟨t.text.toArray⟩, .string ⟨t.value.toArray⟩, .int .i64 t.line, .int .i64 t.col] 38)
 have K0 := Lib.hid k0
 have B := Lib.hid b0
 have hq := (b0.cell (p := ⟨q, 0, none⟩) hql).trans hqc
 clear hqc
 clear k0 b0
 go_enter Tryz.func41, Tryz.ntmps41
 go_upto_region 1 with (fail)
 generalize (W.alloc (Obj.cells #[.int .i64 t.kind, .string ⟨t.text.toArray⟩, .string ⟨t.value.toArray⟩, .int .i64 t.line, .int .i64 t.col] 38)) = W0 at *
 have c0 := K0.out.at_ 0 _ rfl
 have c1 := K0.out.at_ 1 _ rfl
 cases h1 : (t.kind == 1) with
 | true =>
  go_wp2
  go_ret
  exact ⟨by simp [h1], B.out⟩
 | false =>
  cases h4 : (t.kind == 4) with
  | true =>
   go_wp2
   go_ret
   exact ⟨by simp [h1, h4], B.out⟩
  | false =>
   go_wp2
   go_ret
   exact ⟨by simp [h1, h4], B.out⟩

set_option maxRecDepth 100000 in
set_option maxHeartbeats 4000000 in
theorem take_end_n (p : Value) (w : World)
  (hp : ∀ W, Below w.heap.size w W → Calls Tryz.prog 18 #[p] W fun e w' => e = .returned (.tuple #[tokV Tok.zero, .bool false]) ∧ Below W.heap.size W w') :
  Calls Tryz.prog 38 #[p, .func (.func 39) #[] #[]] w fun e w' => e = .returned (.tuple #[tokV Tok.zero, .bool false]) ∧ Below w.heap.size w w' := by
 have PK : Hid (∀ W, Below w.heap.size w W → Calls Tryz.prog 18 #[p] W fun e w' => e = .returned (.tuple #[.agg #[.int .i64 0, .string ⟨#[]⟩, .string ⟨#[]⟩, .int .i64 0, .int .i64 0], .bool false]) ∧ Below W.heap.size W w') := Lib.hid hp
 clear hp
 have k0 := Blk.fresh w #[.int .i64 0, .string ⟨#[]⟩, .string ⟨#[]⟩, .int .i64 0, .int .i64 0] 38
 have b0 := (Below.refl w.heap.size w).alloc (Nat.le_refl _) (.cells #[.int .i64 0, .string ⟨#[]⟩, .string ⟨#[]⟩, .int .i64 0, .int .i64 0] 38)
 have K0 := Lib.hid k0
 have B := Lib.hid b0
 clear k0 b0
 go_enter Tryz.func38, Tryz.ntmps38
 go_upto_region 1 with (fail)
 generalize (w.alloc (Obj.cells #[.int .i64 0, .string ⟨#[]⟩, .string ⟨#[]⟩, .int .i64 0, .int .i64 0] 38)) = W0 at *
 go_upto_region 2 with (first
  | (go_at_call 18; with_reducible refine (PK.out _ (baseI B.out)).mono ?_; rintro e wx ⟨rfl, q⟩; replace K0 := Lib.hid (K0.out.near (by first | exact Near.same _ | exact Near.one _) q); replace B := Lib.hid (goI B.out q); clear q; have c0 := K0.out.at_ 0 _ rfl; have c1 := K0.out.at_ 1 _ rfl; have c2 := K0.out.at_ 2 _ rfl; have c3 := K0.out.at_ 3 _ rfl; have c4 := K0.out.at_ 4 _ rfl; have z0 := K0.out.free 0; have z1 := K0.out.free 1; have z2 := K0.out.free 2; have z3 := K0.out.free 3; have z4 := K0.out.free 4)
  | fail "arm")
 have K1 : Hid (Blk _ w.heap.size #[.int .i64 0, .string ⟨#[]⟩, .string ⟨#[]⟩, .int .i64 0, .int .i64 0] 38) := Lib.hid (K0.out.set5 (.int .i64 0) (.string ⟨#[]⟩) (.string ⟨#[]⟩) (.int .i64 0) (.int .i64 0))
 replace B := Lib.hid (below_set5 B.out (Nat.le_refl _) (.int .i64 0) (.string ⟨#[]⟩) (.string ⟨#[]⟩) (.int .i64 0) (.int .i64 0))
 clear c0 c1 c2 c3 c4 z0 z1 z2 z3 z4
 clear K0
 generalize (World.setCell (World.setCell (World.setCell (World.setCell (World.setCell wx ⟨w.heap.size, 0, none⟩ (.int .i64 0)) ⟨w.heap.size, 1, none⟩ (.string ⟨#[]⟩)) ⟨w.heap.size, 2, none⟩ (.string ⟨#[]⟩)) ⟨w.heap.size, 3, none⟩ (.int .i64 0)) ⟨w.heap.size, 4, none⟩ (.int .i64 0)) = W1 at *
 go_upto_region 3 with (fail)
 have c0 := K1.out.at_ 0 _ rfl
 have c1 := K1.out.at_ 1 _ rfl
 have c2 := K1.out.at_ 2 _ rfl
 have c3 := K1.out.at_ 3 _ rfl
 have c4 := K1.out.at_ 4 _ rfl
 have z0 := K1.out.free 0
 have z1 := K1.out.free 1
 have z2 := K1.out.free 2
 have z3 := K1.out.free 3
 have z4 := K1.out.free 4
 go_wp2
 have K2 : Hid (Blk _ w.heap.size #[.int .i64 0, .string ⟨#[]⟩, .string ⟨#[]⟩, .int .i64 0, .int .i64 0] 38) := Lib.hid (K1.out.set5 (.int .i64 0) (.string ⟨#[]⟩) (.string ⟨#[]⟩) (.int .i64 0) (.int .i64 0))
 replace B := Lib.hid (below_set5 B.out (Nat.le_refl _) (.int .i64 0) (.string ⟨#[]⟩) (.string ⟨#[]⟩) (.int .i64 0) (.int .i64 0))
 have e0 := K2.out.at_ 0 _ rfl
 have e1 := K2.out.at_ 1 _ rfl
 have e2 := K2.out.at_ 2 _ rfl
 have e3 := K2.out.at_ 3 _ rfl
 have e4 := K2.out.at_ 4 _ rfl
 exact bodyPost_ret (v := .tuple #[tokV Tok.zero, .bool false]) (by simp [results, Tryz.results38, go_sem, e0, e1, e2, e3, e4, tokV, Tok.cells, Tok.zero]) rfl ⟨rfl, B.out⟩

set_option maxRecDepth 100000 in
set_option maxHeartbeats 4000000 in
theorem take_yes_n (b n : Nat) (s : Value) (ts : List Tok) (t : Tok) (w : World) (h : Rd w b s n ts) (hn : ts[n]? = some t) :
  Calls Tryz.prog 38 #[ptrV b, .func (.func 39) #[] #[]] w fun e w' => (e = .returned (.tuple #[tokV t, .bool true]) ∧ Rdr w' b s (n + 1)) ∧ w.grownBy w' (some b) := by
 have pk : ∀ W, Below w.heap.size w W → Calls Tryz.prog 18 #[ptrV b] W fun e w' => e = .returned (.tuple #[tokV t, .bool true]) ∧ Below W.heap.size W w' := fun W hW => peek_tok b s n ts t W (h.below hW) hn
 have PK : Hid (∀ W, Below w.heap.size w W → Calls Tryz.prog 18 #[.pointer (some ⟨b, 0, none⟩)] W fun e w' => e = .returned (.tuple #[.agg #[.int .i64 t.kind, .string ⟨t.text.toArray⟩, .string ⟨t.value.toArray⟩, .int .i64 t.line, .int .i64 t.col], .bool true]) ∧ Below W.heap.size W w') := Lib.hid pk
 have FC : Hid (∀ W, Below w.heap.size w W → Calls Tryz.prog 39 #[.agg #[.int .i64 t.kind, .string ⟨t.text.toArray⟩, .string ⟨t.value.toArray⟩, .int .i64 t.line, .int .i64 t.col]] W fun e w' => e = .returned (.bool true) ∧ Below W.heap.size W w') := Lib.hid (fun W hW => nextf_is t W)
 have RR := Lib.hid h.r
 have hbl := h.r.lt
 have hn5 := h.nle
 unfold ptrV
 clear pk h hn
 have k0 := Blk.fresh w #[.int .i64 0, .string ⟨#[]⟩, .string ⟨#[]⟩, .int .i64 0, .int .i64 0] 38
 have b0 := (Below.refl w.heap.size w).alloc (Nat.le_refl _) (.cells #[.int .i64 0, .string ⟨#[]⟩, .string ⟨#[]⟩, .int .i64 0, .int .i64 0] 38)
 have K0 := Lib.hid k0
 have B := Lib.hid b0
 clear k0 b0
 go_enter Tryz.func38, Tryz.ntmps38
 go_upto_region 1 with (fail)
 generalize (w.alloc (Obj.cells #[.int .i64 0, .string ⟨#[]⟩, .string ⟨#[]⟩, .int .i64 0, .int .i64 0] 38)) = W0 at *
 go_upto_region 2 with (first
  | (go_at_call 18; with_reducible refine (PK.out _ (baseI B.out)).mono ?_; rintro e wx ⟨rfl, q⟩; replace K0 := Lib.hid (K0.out.near (by first | exact Near.same _ | exact Near.one _) q); replace B := Lib.hid (goI B.out q); clear q; have c0 := K0.out.at_ 0 _ rfl; have c1 := K0.out.at_ 1 _ rfl; have c2 := K0.out.at_ 2 _ rfl; have c3 := K0.out.at_ 3 _ rfl; have c4 := K0.out.at_ 4 _ rfl; have z0 := K0.out.free 0; have z1 := K0.out.free 1; have z2 := K0.out.free 2; have z3 := K0.out.free 3; have z4 := K0.out.free 4)
  | fail "arm")
 have K1 : Hid (Blk _ w.heap.size #[.int .i64 t.kind, .string ⟨t.text.toArray⟩, .string ⟨t.value.toArray⟩, .int .i64 t.line, .int .i64 t.col] 38) := Lib.hid (K0.out.set5 (.int .i64 t.kind) (.string ⟨t.text.toArray⟩) (.string ⟨t.value.toArray⟩) (.int .i64 t.line) (.int .i64 t.col))
 replace B := Lib.hid (below_set5 B.out (Nat.le_refl _) (.int .i64 t.kind) (.string ⟨t.text.toArray⟩) (.string ⟨t.value.toArray⟩) (.int .i64 t.line) (.int .i64 t.col))
 clear c0 c1 c2 c3 c4 z0 z1 z2 z3 z4
 clear K0
 generalize (World.setCell (World.setCell (World.setCell (World.setCell (World.setCell wx ⟨w.heap.size, 0, none⟩ (.int .i64 t.kind)) ⟨w.heap.size, 1, none⟩ (.string ⟨t.text.toArray⟩)) ⟨w.heap.size, 2, none⟩ (.string ⟨t.value.toArray⟩)) ⟨w.heap.size, 3, none⟩ (.int .i64 t.line)) ⟨w.heap.size, 4, none⟩ (.int .i64 t.col)) = W1 at *
 have x0 := K1.out.at_ 0 _ rfl
 have x1 := K1.out.at_ 1 _ rfl
 have x2 := K1.out.at_ 2 _ rfl
 have x3 := K1.out.at_ 3 _ rfl
 have x4 := K1.out.at_ 4 _ rfl
 go_upto_region 4 with (first
  | (go_at_call 39; with_reducible refine (FC.out _ (baseI B.out)).mono ?_; rintro e wx ⟨rfl, q⟩; replace K1 := Lib.hid (K1.out.near (by first | exact Near.same _ | exact Near.one _) q); replace B := Lib.hid (goI B.out q); clear q)
  | fail "arm")
 clear x0 x1 x2 x3 x4
 have hrr := RR.out.below B.out
 have p1 := hrr.pos
 have pz := hrr.free 1
 have S2 : Hid (Rdr (wx.setCell ⟨b, 1, none⟩ (.int .i64 ((n : Int) + 1))) b s (n + 1)) := Lib.hid (by have h := Blk.set (cs := #[s, .int .i64 n]) hrr 1 (.int .i64 ((n : Int) + 1)); exact h)
 have G2 := Lib.hid (grown_set (b := b) B.out 1 (.int .i64 ((n : Int) + 1)))
 have K2 := Lib.hid (K1.out.else1 ⟨b, 1, none⟩ (by show b ≠ w.heap.size; omega) (.int .i64 ((n : Int) + 1)))
 clear hrr K1 RR B
 go_upto_region 5 with (fail)
 clear p1 pz
 generalize (wx.setCell ⟨b, 1, none⟩ (.int .i64 ((n : Int) + 1))) = W2 at *
 have c0 := K2.out.at_ 0 _ rfl
 have c1 := K2.out.at_ 1 _ rfl
 have c2 := K2.out.at_ 2 _ rfl
 have c3 := K2.out.at_ 3 _ rfl
 have c4 := K2.out.at_ 4 _ rfl
 have z0 := K2.out.free 0
 have z1 := K2.out.free 1
 have z2 := K2.out.free 2
 have z3 := K2.out.free 3
 have z4 := K2.out.free 4
 go_wp2
 have K3 : Hid (Blk _ w.heap.size #[.int .i64 t.kind, .string ⟨t.text.toArray⟩, .string ⟨t.value.toArray⟩, .int .i64 t.line, .int .i64 t.col] 38) := Lib.hid (K2.out.set5 (.int .i64 t.kind) (.string ⟨t.text.toArray⟩) (.string ⟨t.value.toArray⟩) (.int .i64 t.line) (.int .i64 t.col))
 have B3 := below_set5 (Below.refl w.heap.size W2) (Nat.le_refl w.heap.size) (.int .i64 t.kind) (.string ⟨t.text.toArray⟩) (.string ⟨t.value.toArray⟩) (.int .i64 t.line) (.int .i64 t.col)
 have e0 := K3.out.at_ 0 _ rfl
 have e1 := K3.out.at_ 1 _ rfl
 have e2 := K3.out.at_ 2 _ rfl
 have e3 := K3.out.at_ 3 _ rfl
 have e4 := K3.out.at_ 4 _ rfl
 exact bodyPost_ret (v := .tuple #[tokV t, .bool true]) (by simp [results, Tryz.results38, go_sem, e0, e1, e2, e3, e4, tokV, Tok.cells, Tok.zero]) rfl ⟨⟨rfl, Blk.kept S2.out hbl B3⟩, grown_more G2.out B3⟩

set_option maxRecDepth 100000 in
set_option maxHeartbeats 4000000 in
theorem take_end_t (p : Value) (q : Nat) (w : World)
  (hp : ∀ W, Below w.heap.size w W → Calls Tryz.prog 18 #[p] W fun e w' => e = .returned (.tuple #[tokV Tok.zero, .bool false]) ∧ Below W.heap.size W w') :
  Calls Tryz.prog 38 #[p, .func (.func 40) #[] #[.pointer (some ⟨q, 0, none⟩)]] w fun e w' => e = .returned (.tuple #[tokV Tok.zero, .bool false]) ∧ Below w.heap.size w w' := by
 have PK : Hid (∀ W, Below w.heap.size w W → Calls Tryz.prog 18 #[p] W fun e w' => e = .returned (.tuple #[.agg #[.int .i64 0, .string ⟨#[]⟩, .string ⟨#[]⟩, .int .i64 0, .int .i64 0], .bool false]) ∧ Below W.heap.size W w') := Lib.hid hp
 clear hp
 have k0 := Blk.fresh w #[.int .i64 0, .string ⟨#[]⟩, .string ⟨#[]⟩, .int .i64 0, .int .i64 0] 38
 have b0 := (Below.refl w.heap.size w).alloc (Nat.le_refl _) (.cells #[.int .i64 0, .string ⟨#[]⟩, .string ⟨#[]⟩, .int .i64 0, .int .i64 0] 38)
 have K0 := Lib.hid k0
 have B := Lib.hid b0
 clear k0 b0
 go_enter Tryz.func38, Tryz.ntmps38
 go_upto_region 1 with (fail)
 generalize (w.alloc (Obj.cells #[.int .i64 0, .string ⟨#[]⟩, .string ⟨#[]⟩, .int .i64 0, .int .i64 0] 38)) = W0 at *
 go_upto_region 2 with (first
  | (go_at_call 18; with_reducible refine (PK.out _ (baseI B.out)).mono ?_; rintro e wx ⟨rfl, q⟩; replace K0 := Lib.hid (K0.out.near (by first | exact Near.same _ | exact Near.one _) q); replace B := Lib.hid (goI B.out q); clear q; have c0 := K0.out.at_ 0 _ rfl; have c1 := K0.out.at_ 1 _ rfl; have c2 := K0.out.at_ 2 _ rfl; have c3 := K0.out.at_ 3 _ rfl; have c4 := K0.out.at_ 4 _ rfl; have z0 := K0.out.free 0; have z1 := K0.out.free 1; have z2 := K0.out.free 2; have z3 := K0.out.free 3; have z4 := K0.out.free 4)
  | fail "arm")
 have K1 : Hid (Blk _ w.heap.size #[.int .i64 0, .string ⟨#[]⟩, .string ⟨#[]⟩, .int .i64 0, .int .i64 0] 38) := Lib.hid (K0.out.set5 (.int .i64 0) (.string ⟨#[]⟩) (.string ⟨#[]⟩) (.int .i64 0) (.int .i64 0))
 replace B := Lib.hid (below_set5 B.out (Nat.le_refl _) (.int .i64 0) (.string ⟨#[]⟩) (.string ⟨#[]⟩) (.int .i64 0) (.int .i64 0))
 clear c0 c1 c2 c3 c4 z0 z1 z2 z3 z4
 clear K0
 generalize (World.setCell (World.setCell (World.setCell (World.setCell (World.setCell wx ⟨w.heap.size, 0, none⟩ (.int .i64 0)) ⟨w.heap.size, 1, none⟩ (.string ⟨#[]⟩)) ⟨w.heap.size, 2, none⟩ (.string ⟨#[]⟩)) ⟨w.heap.size, 3, none⟩ (.int .i64 0)) ⟨w.heap.size, 4, none⟩ (.int .i64 0)) = W1 at *
 go_upto_region 3 with (fail)
 have c0 := K1.out.at_ 0 _ rfl
 have c1 := K1.out.at_ 1 _ rfl
 have c2 := K1.out.at_ 2 _ rfl
 have c3 := K1.out.at_ 3 _ rfl
 have c4 := K1.out.at_ 4 _ rfl
 have z0 := K1.out.free 0
 have z1 := K1.out.free 1
 have z2 := K1.out.free 2
 have z3 := K1.out.free 3
 have z4 := K1.out.free 4
 go_wp2
 have K2 : Hid (Blk _ w.heap.size #[.int .i64 0, .string ⟨#[]⟩, .string ⟨#[]⟩, .int .i64 0, .int .i64 0] 38) := Lib.hid (K1.out.set5 (.int .i64 0) (.string ⟨#[]⟩) (.string ⟨#[]⟩) (.int .i64 0) (.int .i64 0))
 replace B := Lib.hid (below_set5 B.out (Nat.le_refl _) (.int .i64 0) (.string ⟨#[]⟩) (.string ⟨#[]⟩) (.int .i64 0) (.int .i64 0))
 have e0 := K2.out.at_ 0 _ rfl
 have e1 := K2.out.at_ 1 _ rfl
 have e2 := K2.out.at_ 2 _ rfl
 have e3 := K2.out.at_ 3 _ rfl
 have e4 := K2.out.at_ 4 _ rfl
 exact bodyPost_ret (v := .tuple #[tokV Tok.zero, .bool false]) (by simp [results, Tryz.results38, go_sem, e0, e1, e2, e3, e4, tokV, Tok.cells, Tok.zero]) rfl ⟨rfl, B.out⟩

set_option maxRecDepth 100000 in
set_option maxHeartbeats 4000000 in
theorem take_no_t (b n : Nat) (s : Value) (ts : List Tok) (t : Tok) (q : Nat) (k : Int) (w : World) (h : Rd w b s n ts) (hn : ts[n]? = some t) (hql : q < w.heap.size) (hqc : w.cell? ⟨q, 0, none⟩ = some (.int .i64 k)) (hv : (t.kind == k) = false) :
  Calls Tryz.prog 38 #[ptrV b, .func (.func 40) #[] #[.pointer (some ⟨q, 0, none⟩)]] w fun e w' => e = .returned (.tuple #[tokV Tok.zero, .bool false]) ∧ Below w.heap.size w w' := by
 have pk : ∀ W, Below w.heap.size w W → Calls Tryz.prog 18 #[ptrV b] W fun e w' => e = .returned (.tuple #[tokV t, .bool true]) ∧ Below W.heap.size W w' := fun W hW => peek_tok b s n ts t W (h.below hW) hn
 have PK : Hid (∀ W, Below w.heap.size w W → Calls Tryz.prog 18 #[.pointer (some ⟨b, 0, none⟩)] W fun e w' => e = .returned (.tuple #[.agg #[.int .i64 t.kind, .string ⟨t.text.toArray⟩, .string ⟨t.value.toArray⟩, .int .i64 t.line, .int .i64 t.col], .bool true]) ∧ Below W.heap.size W w') := Lib.hid pk
 have FC : Hid (∀ W, Below w.heap.size w W → Calls Tryz.prog 40 #[.agg #[.int .i64 t.kind, .string ⟨t.text.toArray⟩, .string ⟨t.value.toArray⟩, .int .i64 t.line, .int .i64 t.col], .pointer (some ⟨q, 0, none⟩)] W fun e w' => e = .returned (.bool false) ∧ Below W.heap.size W w') := Lib.hid (fun W hW => by have h := takef_is t q k W (Nat.lt_of_lt_of_le hql hW.size) ((hW.cell (p := ⟨q, 0, none⟩) hql).trans hqc); rw [hv] at h; exact h)
 have RR := Lib.hid h.r
 have hbl := h.r.lt
 have hn5 := h.nle
 unfold ptrV
 clear pk h hn hqc hv
 have k0 := Blk.fresh w #[.int .i64 0, .string ⟨#[]⟩, .string ⟨#[]⟩, .int .i64 0, .int .i64 0] 38
 have b0 := (Below.refl w.heap.size w).alloc (Nat.le_refl _) (.cells #[.int .i64 0, .string ⟨#[]⟩, .string ⟨#[]⟩, .int .i64 0, .int .i64 0] 38)
 have K0 := Lib.hid k0
 have B := Lib.hid b0
 clear k0 b0
 go_enter Tryz.func38, Tryz.ntmps38
 go_upto_region 1 with (fail)
 generalize (w.alloc (Obj.cells #[.int .i64 0, .string ⟨#[]⟩, .string ⟨#[]⟩, .int .i64 0, .int .i64 0] 38)) = W0 at *
 go_upto_region 2 with (first
  | (go_at_call 18; with_reducible refine (PK.out _ (baseI B.out)).mono ?_; rintro e wx ⟨rfl, q⟩; replace K0 := Lib.hid (K0.out.near (by first | exact Near.same _ | exact Near.one _) q); replace B := Lib.hid (goI B.out q); clear q; have c0 := K0.out.at_ 0 _ rfl; have c1 := K0.out.at_ 1 _ rfl; have c2 := K0.out.at_ 2 _ rfl; have c3 := K0.out.at_ 3 _ rfl; have c4 := K0.out.at_ 4 _ rfl; have z0 := K0.out.free 0; have z1 := K0.out.free 1; have z2 := K0.out.free 2; have z3 := K0.out.free 3; have z4 := K0.out.free 4)
  | fail "arm")
 have K1 : Hid (Blk _ w.heap.size #[.int .i64 t.kind, .string ⟨t.text.toArray⟩, .string ⟨t.value.toArray⟩, .int .i64 t.line, .int .i64 t.col] 38) := Lib.hid (K0.out.set5 (.int .i64 t.kind) (.string ⟨t.text.toArray⟩) (.string ⟨t.value.toArray⟩) (.int .i64 t.line) (.int .i64 t.col))
 replace B := Lib.hid (below_set5 B.out (Nat.le_refl _) (.int .i64 t.kind) (.string ⟨t.text.toArray⟩) (.string ⟨t.value.toArray⟩) (.int .i64 t.line) (.int .i64 t.col))
 clear c0 c1 c2 c3 c4 z0 z1 z2 z3 z4
 clear K0
 generalize (World.setCell (World.setCell (World.setCell (World.setCell (World.setCell wx ⟨w.heap.size, 0, none⟩ (.int .i64 t.kind)) ⟨w.heap.size, 1, none⟩ (.string ⟨t.text.toArray⟩)) ⟨w.heap.size, 2, none⟩ (.string ⟨t.value.toArray⟩)) ⟨w.heap.size, 3, none⟩ (.int .i64 t.line)) ⟨w.heap.size, 4, none⟩ (.int .i64 t.col)) = W1 at *
 have x0 := K1.out.at_ 0 _ rfl
 have x1 := K1.out.at_ 1 _ rfl
 have x2 := K1.out.at_ 2 _ rfl
 have x3 := K1.out.at_ 3 _ rfl
 have x4 := K1.out.at_ 4 _ rfl
 go_upto_region 3 with (first
  | (go_at_call 40; with_reducible refine (FC.out _ (baseI B.out)).mono ?_; rintro e wx ⟨rfl, q⟩; replace K1 := Lib.hid (K1.out.near (by first | exact Near.same _ | exact Near.one _) q); replace B := Lib.hid (goI B.out q); clear q)
  | fail "arm")
 clear x0 x1 x2 x3 x4
 have c0 := K1.out.at_ 0 _ rfl
 have c1 := K1.out.at_ 1 _ rfl
 have c2 := K1.out.at_ 2 _ rfl
 have c3 := K1.out.at_ 3 _ rfl
 have c4 := K1.out.at_ 4 _ rfl
 have z0 := K1.out.free 0
 have z1 := K1.out.free 1
 have z2 := K1.out.free 2
 have z3 := K1.out.free 3
 have z4 := K1.out.free 4
 go_wp2
 have K2 : Hid (Blk _ w.heap.size #[.int .i64 0, .string ⟨#[]⟩, .string ⟨#[]⟩, .int .i64 0, .int .i64 0] 38) := Lib.hid (K1.out.set5 (.int .i64 0) (.string ⟨#[]⟩) (.string ⟨#[]⟩) (.int .i64 0) (.int .i64 0))
 replace B := Lib.hid (below_set5 B.out (Nat.le_refl _) (.int .i64 0) (.string ⟨#[]⟩) (.string ⟨#[]⟩) (.int .i64 0) (.int .i64 0))
 have e0 := K2.out.at_ 0 _ rfl
 have e1 := K2.out.at_ 1 _ rfl
 have e2 := K2.out.at_ 2 _ rfl
 have e3 := K2.out.at_ 3 _ rfl
 have e4 := K2.out.at_ 4 _ rfl
 exact bodyPost_ret (v := .tuple #[tokV Tok.zero, .bool false]) (by simp [results, Tryz.results38, go_sem, e0, e1, e2, e3, e4, tokV, Tok.cells, Tok.zero]) rfl ⟨rfl, B.out⟩

set_option maxRecDepth 100000 in
set_option maxHeartbeats 4000000 in
theorem take_yes_t (b n : Nat) (s : Value) (ts : List Tok) (t : Tok) (q : Nat) (k : Int) (w : World) (h : Rd w b s n ts) (hn : ts[n]? = some t) (hql : q < w.heap.size) (hqc : w.cell? ⟨q, 0, none⟩ = some (.int .i64 k)) (hv : (t.kind == k) = true) :
  Calls Tryz.prog 38 #[ptrV b, .func (.func 40) #[] #[.pointer (some ⟨q, 0, none⟩)]] w fun e w' => (e = .returned (.tuple #[tokV t, .bool true]) ∧ Rdr w' b s (n + 1)) ∧ w.grownBy w' (some b) := by
 have pk : ∀ W, Below w.heap.size w W → Calls Tryz.prog 18 #[ptrV b] W fun e w' => e = .returned (.tuple #[tokV t, .bool true]) ∧ Below W.heap.size W w' := fun W hW => peek_tok b s n ts t W (h.below hW) hn
 have PK : Hid (∀ W, Below w.heap.size w W → Calls Tryz.prog 18 #[.pointer (some ⟨b, 0, none⟩)] W fun e w' => e = .returned (.tuple #[.agg #[.int .i64 t.kind, .string ⟨t.text.toArray⟩, .string ⟨t.value.toArray⟩, .int .i64 t.line, .int .i64 t.col], .bool true]) ∧ Below W.heap.size W w') := Lib.hid pk
 have FC : Hid (∀ W, Below w.heap.size w W → Calls Tryz.prog 40 #[.agg #[.int .i64 t.kind, .string ⟨t.text.toArray⟩, .string ⟨t.value.toArray⟩, .int .i64 t.line, .int .i64 t.col], .pointer (some ⟨q, 0, none⟩)] W fun e w' => e = .returned (.bool true) ∧ Below W.heap.size W w') := Lib.hid (fun W hW => by have h := takef_is t q k W (Nat.lt_of_lt_of_le hql hW.size) ((hW.cell (p := ⟨q, 0, none⟩) hql).trans hqc); rw [hv] at h; exact h)
 have RR := Lib.hid h.r
 have hbl := h.r.lt
 have hn5 := h.nle
 unfold ptrV
 clear pk h hn hqc hv
 have k0 := Blk.fresh w #[.int .i64 0, .string ⟨#[]⟩, .string ⟨#[]⟩, .int .i64 0, .int .i64 0] 38
 have b0 := (Below.refl w.heap.size w).alloc (Nat.le_refl _) (.cells #[.int .i64 0, .string ⟨#[]⟩, .string ⟨#[]⟩, .int .i64 0, .int .i64 0] 38)
 have K0 := Lib.hid k0
 have B := Lib.hid b0
 clear k0 b0
 go_enter Tryz.func38, Tryz.ntmps38
 go_upto_region 1 with (fail)
 generalize (w.alloc (Obj.cells #[.int .i64 0, .string ⟨#[]⟩, .string ⟨#[]⟩, .int .i64 0, .int .i64 0] 38)) = W0 at *
 go_upto_region 2 with (first
  | (go_at_call 18; with_reducible refine (PK.out _ (baseI B.out)).mono ?_; rintro e wx ⟨rfl, q⟩; replace K0 := Lib.hid (K0.out.near (by first | exact Near.same _ | exact Near.one _) q); replace B := Lib.hid (goI B.out q); clear q; have c0 := K0.out.at_ 0 _ rfl; have c1 := K0.out.at_ 1 _ rfl; have c2 := K0.out.at_ 2 _ rfl; have c3 := K0.out.at_ 3 _ rfl; have c4 := K0.out.at_ 4 _ rfl; have z0 := K0.out.free 0; have z1 := K0.out.free 1; have z2 := K0.out.free 2; have z3 := K0.out.free 3; have z4 := K0.out.free 4)
  | fail "arm")
 have K1 : Hid (Blk _ w.heap.size #[.int .i64 t.kind, .string ⟨t.text.toArray⟩, .string ⟨t.value.toArray⟩, .int .i64 t.line, .int .i64 t.col] 38) := Lib.hid (K0.out.set5 (.int .i64 t.kind) (.string ⟨t.text.toArray⟩) (.string ⟨t.value.toArray⟩) (.int .i64 t.line) (.int .i64 t.col))
 replace B := Lib.hid (below_set5 B.out (Nat.le_refl _) (.int .i64 t.kind) (.string ⟨t.text.toArray⟩) (.string ⟨t.value.toArray⟩) (.int .i64 t.line) (.int .i64 t.col))
 clear c0 c1 c2 c3 c4 z0 z1 z2 z3 z4
 clear K0
 generalize (World.setCell (World.setCell (World.setCell (World.setCell (World.setCell wx ⟨w.heap.size, 0, none⟩ (.int .i64 t.kind)) ⟨w.heap.size, 1, none⟩ (.string ⟨t.text.toArray⟩)) ⟨w.heap.size, 2, none⟩ (.string ⟨t.value.toArray⟩)) ⟨w.heap.size, 3, none⟩ (.int .i64 t.line)) ⟨w.heap.size, 4, none⟩ (.int .i64 t.col)) = W1 at *
 have x0 := K1.out.at_ 0 _ rfl
 have x1 := K1.out.at_ 1 _ rfl
 have x2 := K1.out.at_ 2 _ rfl
 have x3 := K1.out.at_ 3 _ rfl
 have x4 := K1.out.at_ 4 _ rfl
 go_upto_region 4 with (first
  | (go_at_call 40; with_reducible refine (FC.out _ (baseI B.out)).mono ?_; rintro e wx ⟨rfl, q⟩; replace K1 := Lib.hid (K1.out.near (by first | exact Near.same _ | exact Near.one _) q); replace B := Lib.hid (goI B.out q); clear q)
  | fail "arm")
 clear x0 x1 x2 x3 x4
 have hrr := RR.out.below B.out
 have p1 := hrr.pos
 have pz := hrr.free 1
 have S2 : Hid (Rdr (wx.setCell ⟨b, 1, none⟩ (.int .i64 ((n : Int) + 1))) b s (n + 1)) := Lib.hid (by have h := Blk.set (cs := #[s, .int .i64 n]) hrr 1 (.int .i64 ((n : Int) + 1)); exact h)
 have G2 := Lib.hid (grown_set (b := b) B.out 1 (.int .i64 ((n : Int) + 1)))
 have K2 := Lib.hid (K1.out.else1 ⟨b, 1, none⟩ (by show b ≠ w.heap.size; omega) (.int .i64 ((n : Int) + 1)))
 clear hrr K1 RR B
 go_upto_region 5 with (fail)
 clear p1 pz
 generalize (wx.setCell ⟨b, 1, none⟩ (.int .i64 ((n : Int) + 1))) = W2 at *
 have c0 := K2.out.at_ 0 _ rfl
 have c1 := K2.out.at_ 1 _ rfl
 have c2 := K2.out.at_ 2 _ rfl
 have c3 := K2.out.at_ 3 _ rfl
 have c4 := K2.out.at_ 4 _ rfl
 have z0 := K2.out.free 0
 have z1 := K2.out.free 1
 have z2 := K2.out.free 2
 have z3 := K2.out.free 3
 have z4 := K2.out.free 4
 go_wp2
 have K3 : Hid (Blk _ w.heap.size #[.int .i64 t.kind, .string ⟨t.text.toArray⟩, .string ⟨t.value.toArray⟩, .int .i64 t.line, .int .i64 t.col] 38) := Lib.hid (K2.out.set5 (.int .i64 t.kind) (.string ⟨t.text.toArray⟩) (.string ⟨t.value.toArray⟩) (.int .i64 t.line) (.int .i64 t.col))
 have B3 := below_set5 (Below.refl w.heap.size W2) (Nat.le_refl w.heap.size) (.int .i64 t.kind) (.string ⟨t.text.toArray⟩) (.string ⟨t.value.toArray⟩) (.int .i64 t.line) (.int .i64 t.col)
 have e0 := K3.out.at_ 0 _ rfl
 have e1 := K3.out.at_ 1 _ rfl
 have e2 := K3.out.at_ 2 _ rfl
 have e3 := K3.out.at_ 3 _ rfl
 have e4 := K3.out.at_ 4 _ rfl
 exact bodyPost_ret (v := .tuple #[tokV t, .bool true]) (by simp [results, Tryz.results38, go_sem, e0, e1, e2, e3, e4, tokV, Tok.cells, Tok.zero]) rfl ⟨⟨rfl, Blk.kept S2.out hbl B3⟩, grown_more G2.out B3⟩

set_option maxRecDepth 100000 in
set_option maxHeartbeats 4000000 in
theorem take_end_a (p : Value) (q : Nat) (w : World)
  (hp : ∀ W, Below w.heap.size w W → Calls Tryz.prog 18 #[p] W fun e w' => e = .returned (.tuple #[tokV Tok.zero, .bool false]) ∧ Below W.heap.size W w') :
  Calls Tryz.prog 38 #[p, .func (.func 41) #[] #[.pointer (some ⟨q, 0, none⟩)]] w fun e w' => e = .returned (.tuple #[tokV Tok.zero, .bool false]) ∧ Below w.heap.size w w' := by
 have PK : Hid (∀ W, Below w.heap.size w W → Calls Tryz.prog 18 #[p] W fun e w' => e = .returned (.tuple #[.agg #[.int .i64 0, .string ⟨#[]⟩, .string ⟨#[]⟩, .int .i64 0, .int .i64 0], .bool false]) ∧ Below W.heap.size W w') := Lib.hid hp
 clear hp
 have k0 := Blk.fresh w #[.int .i64 0, .string ⟨#[]⟩, .string ⟨#[]⟩, .int .i64 0, .int .i64 0] 38
 have b0 := (Below.refl w.heap.size w).alloc (Nat.le_refl _) (.cells #[.int .i64 0, .string ⟨#[]⟩, .string ⟨#[]⟩, .int .i64 0, .int .i64 0] 38)
 have K0 := Lib.hid k0
 have B := Lib.hid b0
 clear k0 b0
 go_enter Tryz.func38, Tryz.ntmps38
 go_upto_region 1 with (fail)
 generalize (w.alloc (Obj.cells #[.int .i64 0, .string ⟨#[]⟩, .string ⟨#[]⟩, .int .i64 0, .int .i64 0] 38)) = W0 at *
 go_upto_region 2 with (first
  | (go_at_call 18; with_reducible refine (PK.out _ (baseI B.out)).mono ?_; rintro e wx ⟨rfl, q⟩; replace K0 := Lib.hid (K0.out.near (by first | exact Near.same _ | exact Near.one _) q); replace B := Lib.hid (goI B.out q); clear q; have c0 := K0.out.at_ 0 _ rfl; have c1 := K0.out.at_ 1 _ rfl; have c2 := K0.out.at_ 2 _ rfl; have c3 := K0.out.at_ 3 _ rfl; have c4 := K0.out.at_ 4 _ rfl; have z0 := K0.out.free 0; have z1 := K0.out.free 1; have z2 := K0.out.free 2; have z3 := K0.out.free 3; have z4 := K0.out.free 4)
  | fail "arm")
 have K1 : Hid (Blk _ w.heap.size #[.int .i64 0, .string ⟨#[]⟩, .string ⟨#[]⟩, .int .i64 0, .int .i64 0] 38) := Lib.hid (K0.out.set5 (.int .i64 0) (.string ⟨#[]⟩) (.string ⟨#[]⟩) (.int .i64 0) (.int .i64 0))
 replace B := Lib.hid (below_set5 B.out (Nat.le_refl _) (.int .i64 0) (.string ⟨#[]⟩) (.string ⟨#[]⟩) (.int .i64 0) (.int .i64 0))
 clear c0 c1 c2 c3 c4 z0 z1 z2 z3 z4
 clear K0
 generalize (World.setCell (World.setCell (World.setCell (World.setCell (World.setCell wx ⟨w.heap.size, 0, none⟩ (.int .i64 0)) ⟨w.heap.size, 1, none⟩ (.string ⟨#[]⟩)) ⟨w.heap.size, 2, none⟩ (.string ⟨#[]⟩)) ⟨w.heap.size, 3, none⟩ (.int .i64 0)) ⟨w.heap.size, 4, none⟩ (.int .i64 0)) = W1 at *
 go_upto_region 3 with (fail)
 have c0 := K1.out.at_ 0 _ rfl
 have c1 := K1.out.at_ 1 _ rfl
 have c2 := K1.out.at_ 2 _ rfl
 have c3 := K1.out.at_ 3 _ rfl
 have c4 := K1.out.at_ 4 _ rfl
 have z0 := K1.out.free 0
 have z1 := K1.out.free 1
 have z2 := K1.out.free 2
 have z3 := K1.out.free 3
 have z4 := K1.out.free 4
 go_wp2
 have K2 : Hid (Blk _ w.heap.size #[.int .i64 0, .string ⟨#[]⟩, .string ⟨#[]⟩, .int .i64 0, .int .i64 0] 38) := Lib.hid (K1.out.set5 (.int .i64 0) (.string ⟨#[]⟩) (.string ⟨#[]⟩) (.int .i64 0) (.int .i64 0))
 replace B := Lib.hid (below_set5 B.out (Nat.le_refl _) (.int .i64 0) (.string ⟨#[]⟩) (.string ⟨#[]⟩) (.int .i64 0) (.int .i64 0))
 have e0 := K2.out.at_ 0 _ rfl
 have e1 := K2.out.at_ 1 _ rfl
 have e2 := K2.out.at_ 2 _ rfl
 have e3 := K2.out.at_ 3 _ rfl
 have e4 := K2.out.at_ 4 _ rfl
 exact bodyPost_ret (v := .tuple #[tokV Tok.zero, .bool false]) (by simp [results, Tryz.results38, go_sem, e0, e1, e2, e3, e4, tokV, Tok.cells, Tok.zero]) rfl ⟨rfl, B.out⟩

set_option maxRecDepth 100000 in
set_option maxHeartbeats 4000000 in
theorem take_no_a (b n : Nat) (s : Value) (ts : List Tok) (t : Tok) (q : Nat) (S : ByteArray) (w : World) (h : Rd w b s n ts) (hn : ts[n]? = some t) (hql : q < w.heap.size) (hqc : w.cell? ⟨q, 0, none⟩ = some (.string S)) (hv : ((t.kind == 1 || t.kind == 4) && (ByteArray.toList ⟨t.text.toArray⟩ == S.toList)) = false) :
  Calls Tryz.prog 38 #[ptrV b, .func (.func 41) #[] #[.pointer (some ⟨q, 0, none⟩)]] w fun e w' => e = .returned (.tuple #[tokV Tok.zero, .bool false]) ∧ Below w.heap.size w w' := by
 have pk : ∀ W, Below w.heap.size w W → Calls Tryz.prog 18 #[ptrV b] W fun e w' => e = .returned (.tuple #[tokV t, .bool true]) ∧ Below W.heap.size W w' := fun W hW => peek_tok b s n ts t W (h.below hW) hn
 have PK : Hid (∀ W, Below w.heap.size w W → Calls Tryz.prog 18 #[.pointer (some ⟨b, 0, none⟩)] W fun e w' => e = .returned (.tuple #[.agg #[.int .i64 t.kind, .string ⟨t.text.toArray⟩, .string ⟨t.value.toArray⟩, .int .i64 t.line, .int .i64 t.col], .bool true]) ∧ Below W.heap.size W w') := Lib.hid pk
 have FC : Hid (∀ W, Below w.heap.size w W → Calls Tryz.prog 41 #[.agg #[.int .i64 t.kind, .string ⟨t.text.toArray⟩, .string ⟨t.value.toArray⟩, .int .i64 t.line, .int .i64 t.col], .pointer (some ⟨q, 0, none⟩)] W fun e w' => e = .returned (.bool false) ∧ Below W.heap.size W w') := Lib.hid (fun W hW => by have h := acceptf_is t q S W (Nat.lt_of_lt_of_le hql hW.size) ((hW.cell (p := ⟨q, 0, none⟩) hql).trans hqc); rw [hv] at h; exact h)
 have RR := Lib.hid h.r
 have hbl := h.r.lt
 have hn5 := h.nle
 unfold ptrV
 clear pk h hn hqc hv
 have k0 := Blk.fresh w #[.int .i64 0, .string ⟨#[]⟩, .string ⟨#[]⟩, .int .i64 0, .int .i64 0] 38
 have b0 := (Below.refl w.heap.size w).alloc (Nat.le_refl _) (.cells #[.int .i64 0, .string ⟨#[]⟩, .string ⟨#[]⟩, .int .i64 0, .int .i64 0] 38)
 have K0 := Lib.hid k0
 have B := Lib.hid b0
 clear k0 b0
 go_enter Tryz.func38, Tryz.ntmps38
 go_upto_region 1 with (fail)
 generalize (w.alloc (Obj.cells #[.int .i64 0, .string ⟨#[]⟩, .string ⟨#[]⟩, .int .i64 0, .int .i64 0] 38)) = W0 at *
 go_upto_region 2 with (first
  | (go_at_call 18; with_reducible refine (PK.out _ (baseI B.out)).mono ?_; rintro e wx ⟨rfl, q⟩; replace K0 := Lib.hid (K0.out.near (by first | exact Near.same _ | exact Near.one _) q); replace B := Lib.hid (goI B.out q); clear q; have c0 := K0.out.at_ 0 _ rfl; have c1 := K0.out.at_ 1 _ rfl; have c2 := K0.out.at_ 2 _ rfl; have c3 := K0.out.at_ 3 _ rfl; have c4 := K0.out.at_ 4 _ rfl; have z0 := K0.out.free 0; have z1 := K0.out.free 1; have z2 := K0.out.free 2; have z3 := K0.out.free 3; have z4 := K0.out.free 4)
  | fail "arm")
 have K1 : Hid (Blk _ w.heap.size #[.int .i64 t.kind, .string ⟨t.text.toArray⟩, .string ⟨t.value.toArray⟩, .int .i64 t.line, .int .i64 t.col] 38) := Lib.hid (K0.out.set5 (.int .i64 t.kind) (.string ⟨t.text.toArray⟩) (.string ⟨t.value.toArray⟩) (.int .i64 t.line) (.int .i64 t.col))
 replace B := Lib.hid (below_set5 B.out (Nat.le_refl _) (.int .i64 t.kind) (.string ⟨t.text.toArray⟩) (.string ⟨t.value.toArray⟩) (.int .i64 t.line) (.int .i64 t.col))
 clear c0 c1 c2 c3 c4 z0 z1 z2 z3 z4
 clear K0
 generalize (World.setCell (World.setCell (World.setCell (World.setCell (World.setCell wx ⟨w.heap.size, 0, none⟩ (.int .i64 t.kind)) ⟨w.heap.size, 1, none⟩ (.string ⟨t.text.toArray⟩)) ⟨w.heap.size, 2, none⟩ (.string ⟨t.value.toArray⟩)) ⟨w.heap.size, 3, none⟩ (.int .i64 t.line)) ⟨w.heap.size, 4, none⟩ (.int .i64 t.col)) = W1 at *
 have x0 := K1.out.at_ 0 _ rfl
 have x1 := K1.out.at_ 1 _ rfl
 have x2 := K1.out.at_ 2 _ rfl
 have x3 := K1.out.at_ 3 _ rfl
 have x4 := K1.out.at_ 4 _ rfl
 go_upto_region 3 with (first
  | (go_at_call 41; with_reducible refine (FC.out _ (baseI B.out)).mono ?_; rintro e wx ⟨rfl, q⟩; replace K1 := Lib.hid (K1.out.near (by first | exact Near.same _ | exact Near.one _) q); replace B := Lib.hid (goI B.out q); clear q)
  | fail "arm")
 clear x0 x1 x2 x3 x4
 have c0 := K1.out.at_ 0 _ rfl
 have c1 := K1.out.at_ 1 _ rfl
 have c2 := K1.out.at_ 2 _ rfl
 have c3 := K1.out.at_ 3 _ rfl
 have c4 := K1.out.at_ 4 _ rfl
 have z0 := K1.out.free 0
 have z1 := K1.out.free 1
 have z2 := K1.out.free 2
 have z3 := K1.out.free 3
 have z4 := K1.out.free 4
 go_wp2
 have K2 : Hid (Blk _ w.heap.size #[.int .i64 0, .string ⟨#[]⟩, .string ⟨#[]⟩, .int .i64 0, .int .i64 0] 38) := Lib.hid (K1.out.set5 (.int .i64 0) (.string ⟨#[]⟩) (.string ⟨#[]⟩) (.int .i64 0) (.int .i64 0))
 replace B := Lib.hid (below_set5 B.out (Nat.le_refl _) (.int .i64 0) (.string ⟨#[]⟩) (.string ⟨#[]⟩) (.int .i64 0) (.int .i64 0))
 have e0 := K2.out.at_ 0 _ rfl
 have e1 := K2.out.at_ 1 _ rfl
 have e2 := K2.out.at_ 2 _ rfl
 have e3 := K2.out.at_ 3 _ rfl
 have e4 := K2.out.at_ 4 _ rfl
 exact bodyPost_ret (v := .tuple #[tokV Tok.zero, .bool false]) (by simp [results, Tryz.results38, go_sem, e0, e1, e2, e3, e4, tokV, Tok.cells, Tok.zero]) rfl ⟨rfl, B.out⟩

set_option maxRecDepth 100000 in
set_option maxHeartbeats 4000000 in
theorem take_yes_a (b n : Nat) (s : Value) (ts : List Tok) (t : Tok) (q : Nat) (S : ByteArray) (w : World) (h : Rd w b s n ts) (hn : ts[n]? = some t) (hql : q < w.heap.size) (hqc : w.cell? ⟨q, 0, none⟩ = some (.string S)) (hv : ((t.kind == 1 || t.kind == 4) && (ByteArray.toList ⟨t.text.toArray⟩ == S.toList)) = true) :
  Calls Tryz.prog 38 #[ptrV b, .func (.func 41) #[] #[.pointer (some ⟨q, 0, none⟩)]] w fun e w' => (e = .returned (.tuple #[tokV t, .bool true]) ∧ Rdr w' b s (n + 1)) ∧ w.grownBy w' (some b) := by
 have pk : ∀ W, Below w.heap.size w W → Calls Tryz.prog 18 #[ptrV b] W fun e w' => e = .returned (.tuple #[tokV t, .bool true]) ∧ Below W.heap.size W w' := fun W hW => peek_tok b s n ts t W (h.below hW) hn
 have PK : Hid (∀ W, Below w.heap.size w W → Calls Tryz.prog 18 #[.pointer (some ⟨b, 0, none⟩)] W fun e w' => e = .returned (.tuple #[.agg #[.int .i64 t.kind, .string ⟨t.text.toArray⟩, .string ⟨t.value.toArray⟩, .int .i64 t.line, .int .i64 t.col], .bool true]) ∧ Below W.heap.size W w') := Lib.hid pk
 have FC : Hid (∀ W, Below w.heap.size w W → Calls Tryz.prog 41 #[.agg #[.int .i64 t.kind, .string ⟨t.text.toArray⟩, .string ⟨t.value.toArray⟩, .int .i64 t.line, .int .i64 t.col], .pointer (some ⟨q, 0, none⟩)] W fun e w' => e = .returned (.bool true) ∧ Below W.heap.size W w') := Lib.hid (fun W hW => by have h := acceptf_is t q S W (Nat.lt_of_lt_of_le hql hW.size) ((hW.cell (p := ⟨q, 0, none⟩) hql).trans hqc); rw [hv] at h; exact h)
 have RR := Lib.hid h.r
 have hbl := h.r.lt
 have hn5 := h.nle
 unfold ptrV
 clear pk h hn hqc hv
 have k0 := Blk.fresh w #[.int .i64 0, .string ⟨#[]⟩, .string ⟨#[]⟩, .int .i64 0, .int .i64 0] 38
 have b0 := (Below.refl w.heap.size w).alloc (Nat.le_refl _) (.cells #[.int .i64 0, .string ⟨#[]⟩, .string ⟨#[]⟩, .int .i64 0, .int .i64 0] 38)
 have K0 := Lib.hid k0
 have B := Lib.hid b0
 clear k0 b0
 go_enter Tryz.func38, Tryz.ntmps38
 go_upto_region 1 with (fail)
 generalize (w.alloc (Obj.cells #[.int .i64 0, .string ⟨#[]⟩, .string ⟨#[]⟩, .int .i64 0, .int .i64 0] 38)) = W0 at *
 go_upto_region 2 with (first
  | (go_at_call 18; with_reducible refine (PK.out _ (baseI B.out)).mono ?_; rintro e wx ⟨rfl, q⟩; replace K0 := Lib.hid (K0.out.near (by first | exact Near.same _ | exact Near.one _) q); replace B := Lib.hid (goI B.out q); clear q; have c0 := K0.out.at_ 0 _ rfl; have c1 := K0.out.at_ 1 _ rfl; have c2 := K0.out.at_ 2 _ rfl; have c3 := K0.out.at_ 3 _ rfl; have c4 := K0.out.at_ 4 _ rfl; have z0 := K0.out.free 0; have z1 := K0.out.free 1; have z2 := K0.out.free 2; have z3 := K0.out.free 3; have z4 := K0.out.free 4)
  | fail "arm")
 have K1 : Hid (Blk _ w.heap.size #[.int .i64 t.kind, .string ⟨t.text.toArray⟩, .string ⟨t.value.toArray⟩, .int .i64 t.line, .int .i64 t.col] 38) := Lib.hid (K0.out.set5 (.int .i64 t.kind) (.string ⟨t.text.toArray⟩) (.string ⟨t.value.toArray⟩) (.int .i64 t.line) (.int .i64 t.col))
 replace B := Lib.hid (below_set5 B.out (Nat.le_refl _) (.int .i64 t.kind) (.string ⟨t.text.toArray⟩) (.string ⟨t.value.toArray⟩) (.int .i64 t.line) (.int .i64 t.col))
 clear c0 c1 c2 c3 c4 z0 z1 z2 z3 z4
 clear K0
 generalize (World.setCell (World.setCell (World.setCell (World.setCell (World.setCell wx ⟨w.heap.size, 0, none⟩ (.int .i64 t.kind)) ⟨w.heap.size, 1, none⟩ (.string ⟨t.text.toArray⟩)) ⟨w.heap.size, 2, none⟩ (.string ⟨t.value.toArray⟩)) ⟨w.heap.size, 3, none⟩ (.int .i64 t.line)) ⟨w.heap.size, 4, none⟩ (.int .i64 t.col)) = W1 at *
 have x0 := K1.out.at_ 0 _ rfl
 have x1 := K1.out.at_ 1 _ rfl
 have x2 := K1.out.at_ 2 _ rfl
 have x3 := K1.out.at_ 3 _ rfl
 have x4 := K1.out.at_ 4 _ rfl
 go_upto_region 4 with (first
  | (go_at_call 41; with_reducible refine (FC.out _ (baseI B.out)).mono ?_; rintro e wx ⟨rfl, q⟩; replace K1 := Lib.hid (K1.out.near (by first | exact Near.same _ | exact Near.one _) q); replace B := Lib.hid (goI B.out q); clear q)
  | fail "arm")
 clear x0 x1 x2 x3 x4
 have hrr := RR.out.below B.out
 have p1 := hrr.pos
 have pz := hrr.free 1
 have S2 : Hid (Rdr (wx.setCell ⟨b, 1, none⟩ (.int .i64 ((n : Int) + 1))) b s (n + 1)) := Lib.hid (by have h := Blk.set (cs := #[s, .int .i64 n]) hrr 1 (.int .i64 ((n : Int) + 1)); exact h)
 have G2 := Lib.hid (grown_set (b := b) B.out 1 (.int .i64 ((n : Int) + 1)))
 have K2 := Lib.hid (K1.out.else1 ⟨b, 1, none⟩ (by show b ≠ w.heap.size; omega) (.int .i64 ((n : Int) + 1)))
 clear hrr K1 RR B
 go_upto_region 5 with (fail)
 clear p1 pz
 generalize (wx.setCell ⟨b, 1, none⟩ (.int .i64 ((n : Int) + 1))) = W2 at *
 have c0 := K2.out.at_ 0 _ rfl
 have c1 := K2.out.at_ 1 _ rfl
 have c2 := K2.out.at_ 2 _ rfl
 have c3 := K2.out.at_ 3 _ rfl
 have c4 := K2.out.at_ 4 _ rfl
 have z0 := K2.out.free 0
 have z1 := K2.out.free 1
 have z2 := K2.out.free 2
 have z3 := K2.out.free 3
 have z4 := K2.out.free 4
 go_wp2
 have K3 : Hid (Blk _ w.heap.size #[.int .i64 t.kind, .string ⟨t.text.toArray⟩, .string ⟨t.value.toArray⟩, .int .i64 t.line, .int .i64 t.col] 38) := Lib.hid (K2.out.set5 (.int .i64 t.kind) (.string ⟨t.text.toArray⟩) (.string ⟨t.value.toArray⟩) (.int .i64 t.line) (.int .i64 t.col))
 have B3 := below_set5 (Below.refl w.heap.size W2) (Nat.le_refl w.heap.size) (.int .i64 t.kind) (.string ⟨t.text.toArray⟩) (.string ⟨t.value.toArray⟩) (.int .i64 t.line) (.int .i64 t.col)
 have e0 := K3.out.at_ 0 _ rfl
 have e1 := K3.out.at_ 1 _ rfl
 have e2 := K3.out.at_ 2 _ rfl
 have e3 := K3.out.at_ 3 _ rfl
 have e4 := K3.out.at_ 4 _ rfl
 exact bodyPost_ret (v := .tuple #[tokV t, .bool true]) (by simp [results, Tryz.results38, go_sem, e0, e1, e2, e3, e4, tokV, Tok.cells, Tok.zero]) rfl ⟨⟨rfl, Blk.kept S2.out hbl B3⟩, grown_more G2.out B3⟩

end Go.Proofs.YtfhmgkicccfghaaGreatDoor

/- The reader of tokens: Next, Take, Accept. -/
namespace Go.Proofs.YtfhmgkicccfghaaGreatDoor
set_option linter.all false
open Go.RowKit

theorem below_grown {w W V : World} {r : Option Nat} (h : Below w.heap.size w W) (q : W.grownBy V r) : w.grownBy V r :=
 ⟨q.os.trans h.os, q.tape.trans h.tape, q.output.trans h.output, Nat.le_trans h.size q.size, fun k hk hne => (q.block k (Nat.lt_of_lt_of_le hk h.size) hne).trans (h.block k hk)⟩
theorem near_grown {w w1 w' : World} {r : Option Nat} (e : Near w w1) (q : w1.grownBy w' r) : w.grownBy w' r := by
 rcases e with rfl | rfl
 ·exact q
 ·exact ⟨q.os, q.tape, q.output, q.size, q.block⟩
theorem ne_blk {b n : Nat} (h : b < n) : some b ≠ some n := fun e => by injection e with e; omega

set_option maxRecDepth 100000 in
set_option maxHeartbeats 4000000 in
theorem rnext_end (p : Value) (w : World) (hp : ∀ W, Below w.heap.size w W → Calls Tryz.prog 18 #[p] W fun e w' => e = .returned (.tuple #[tokV Tok.zero, .bool false]) ∧ Below W.heap.size W w') :
  Calls Tryz.prog 22 #[p] w fun e w' => e = .returned (.tuple #[tokV Tok.zero, .bool false]) ∧ Below w.heap.size w w' := by
 have k0 := Blk.fresh w #[.int .i64 0, .string ⟨#[]⟩, .string ⟨#[]⟩, .int .i64 0, .int .i64 0] 38
 have b0 := (Below.refl w.heap.size w).alloc (Nat.le_refl _) (.cells #[.int .i64 0, .string ⟨#[]⟩, .string ⟨#[]⟩, .int .i64 0, .int .i64 0] 38)
 have K0 := Lib.hid k0
 have B := Lib.hid b0
 have tk : ∀ W, Below w.heap.size w W → Calls Tryz.prog 38 #[p, .func (.func 39) #[] #[]] W fun e w' => e = .returned (.tuple #[.agg #[.int .i64 0, .string ⟨#[]⟩, .string ⟨#[]⟩, .int .i64 0, .int .i64 0], .bool false]) ∧ Below W.heap.size W w' := fun W hW => take_end_n p W (fun V hV => hp V (hW.trans (hV.mono hW.size)))
 have TK := Lib.hid tk
 clear tk b0 k0 hp
 go_enter Tryz.func22, Tryz.ntmps22
 go_upto_region 1 with (fail)
 generalize (w.alloc (Obj.cells #[.int .i64 0, .string ⟨#[]⟩, .string ⟨#[]⟩, .int .i64 0, .int .i64 0] 38)) = W0 at *
 go_wp2_with (first
  | (go_at_call 38; with_reducible refine (TK.out _ (baseI B.out)).mono ?_; rintro e wx ⟨rfl, q⟩; replace K0 := Lib.hid (K0.out.near (by first | exact Near.same _ | exact Near.one _) q); replace B := Lib.hid (goI B.out q); clear q; have c0 := K0.out.at_ 0 _ rfl; have c1 := K0.out.at_ 1 _ rfl; have c2 := K0.out.at_ 2 _ rfl; have c3 := K0.out.at_ 3 _ rfl; have c4 := K0.out.at_ 4 _ rfl; have z0 := K0.out.free 0; have z1 := K0.out.free 1; have z2 := K0.out.free 2; have z3 := K0.out.free 3; have z4 := K0.out.free 4)
  | fail "arm")
 have K1 : Hid (Blk _ (w.heap.size) #[.int .i64 0, .string ⟨#[]⟩, .string ⟨#[]⟩, .int .i64 0, .int .i64 0] 38) := Lib.hid (K0.out.set5 (.int .i64 0) (.string ⟨#[]⟩) (.string ⟨#[]⟩) (.int .i64 0) (.int .i64 0))
 have B3 := below_set5 B.out (Nat.le_refl _) (.int .i64 0) (.string ⟨#[]⟩) (.string ⟨#[]⟩) (.int .i64 0) (.int .i64 0)
 have e0 := K1.out.at_ 0 _ rfl
 have e1 := K1.out.at_ 1 _ rfl
 have e2 := K1.out.at_ 2 _ rfl
 have e3 := K1.out.at_ 3 _ rfl
 have e4 := K1.out.at_ 4 _ rfl
 exact bodyPost_ret (v := .tuple #[tokV Tok.zero, .bool false]) (by simp [results, Tryz.results22, go_sem, e0, e1, e2, e3, e4, tokV, Tok.cells, Tok.zero]) rfl ⟨rfl, B3⟩

set_option maxRecDepth 100000 in
set_option maxHeartbeats 4000000 in
theorem rnext_yes (b n : Nat) (s : Value) (ts : List Tok) (t : Tok) (w : World) (h : Rd w b s n ts) (hn : ts[n]? = some t) :
  Calls Tryz.prog 22 #[ptrV b] w fun e w' => (e = .returned (.tuple #[tokV t, .bool true]) ∧ Rdr w' b s (n + 1)) ∧ w.grownBy w' (some b) := by
 have k0 := Blk.fresh w #[.int .i64 0, .string ⟨#[]⟩, .string ⟨#[]⟩, .int .i64 0, .int .i64 0] 38
 have b0 := (Below.refl w.heap.size w).alloc (Nat.le_refl _) (.cells #[.int .i64 0, .string ⟨#[]⟩, .string ⟨#[]⟩, .int .i64 0, .int .i64 0] 38)
 have K0 := Lib.hid k0
 have B := Lib.hid b0
 have tk : ∀ W, Below w.heap.size w W → Calls Tryz.prog 38 #[.pointer (some ⟨b, 0, none⟩), .func (.func 39) #[] #[]] W fun e w' => (e = .returned (.tuple #[.agg #[.int .i64 t.kind, .string ⟨t.text.toArray⟩, .string ⟨t.value.toArray⟩, .int .i64 t.line, .int .i64 t.col], .bool true]) ∧ Rdr w' b s (n + 1)) ∧ W.grownBy w' (some b) := fun W hW => take_yes_n b n s ts t W (h.below hW) hn
 have TK := Lib.hid tk
 have hbl := h.r.lt
 clear tk b0 k0 h hn
 unfold ptrV
 go_enter Tryz.func22, Tryz.ntmps22
 go_upto_region 1 with (fail)
 generalize (w.alloc (Obj.cells #[.int .i64 0, .string ⟨#[]⟩, .string ⟨#[]⟩, .int .i64 0, .int .i64 0] 38)) = W0 at *
 go_wp2_with (first
  | (go_at_call 38; with_reducible refine (TK.out _ (baseI B.out)).mono ?_; rintro e wx ⟨⟨rfl, hr2⟩, q⟩; replace K0 := Lib.hid (Blk.grown (K0.out) (near_grown (by first | exact Near.same _ | exact Near.one _) q) (ne_blk (by omega))); have G := Lib.hid (below_grown B.out (near_grown (by first | exact Near.same _ | exact Near.one _) q)); have HR2 := Lib.hid hr2; clear q hr2 B; have c0 := K0.out.at_ 0 _ rfl; have c1 := K0.out.at_ 1 _ rfl; have c2 := K0.out.at_ 2 _ rfl; have c3 := K0.out.at_ 3 _ rfl; have c4 := K0.out.at_ 4 _ rfl; have z0 := K0.out.free 0; have z1 := K0.out.free 1; have z2 := K0.out.free 2; have z3 := K0.out.free 3; have z4 := K0.out.free 4)
  | fail "arm")
 have K1 : Hid (Blk _ (w.heap.size) #[.int .i64 t.kind, .string ⟨t.text.toArray⟩, .string ⟨t.value.toArray⟩, .int .i64 t.line, .int .i64 t.col] 38) := Lib.hid (K0.out.set5 (.int .i64 t.kind) (.string ⟨t.text.toArray⟩) (.string ⟨t.value.toArray⟩) (.int .i64 t.line) (.int .i64 t.col))
 have B3 := below_set5 (Below.refl w.heap.size wx) (Nat.le_refl _) (.int .i64 t.kind) (.string ⟨t.text.toArray⟩) (.string ⟨t.value.toArray⟩) (.int .i64 t.line) (.int .i64 t.col)
 have e0 := K1.out.at_ 0 _ rfl
 have e1 := K1.out.at_ 1 _ rfl
 have e2 := K1.out.at_ 2 _ rfl
 have e3 := K1.out.at_ 3 _ rfl
 have e4 := K1.out.at_ 4 _ rfl
 exact bodyPost_ret (v := .tuple #[tokV t, .bool true]) (by simp [results, Tryz.results22, go_sem, e0, e1, e2, e3, e4, tokV, Tok.cells, Tok.zero]) rfl ⟨⟨rfl, Blk.kept HR2.out hbl B3⟩, grown_more G.out B3⟩

set_option maxRecDepth 100000 in
set_option maxHeartbeats 4000000 in
theorem rtake_end (p : Value) (k : Int) (w : World) (hp : ∀ W, Below w.heap.size w W → Calls Tryz.prog 18 #[p] W fun e w' => e = .returned (.tuple #[tokV Tok.zero, .bool false]) ∧ Below W.heap.size W w') :
  Calls Tryz.prog 23 #[p, .int .i64 k] w fun e w' => e = .returned (.tuple #[tokV Tok.zero, .bool false]) ∧ Below w.heap.size w w' := by
 have hmf : ∀ (fn : Fn) (first cap : Array Value) (w : World), (Instr.makeFunc fn first cap).run Tryz.prog w = .ok (.func fn first cap) w := fun _ _ _ _ => rfl
 have q0 := Blk.fresh w #[.int .i64 k] 3
 have b0 := (Below.refl w.heap.size w).alloc (Nat.le_refl _) (.cells #[.int .i64 k] 3)
 have hz : (w.alloc (.cells #[.int .i64 k] 3)).heap.size = w.heap.size + 1 := by simp
 have k0 := Blk.fresh (w.alloc (.cells #[.int .i64 k] 3)) #[.int .i64 0, .string ⟨#[]⟩, .string ⟨#[]⟩, .int .i64 0, .int .i64 0] 38
 rw [hz] at k0
 replace q0 := q0.alloc (.cells #[.int .i64 0, .string ⟨#[]⟩, .string ⟨#[]⟩, .int .i64 0, .int .i64 0] 38)
 have b1 := b0.alloc b0.size (.cells #[.int .i64 0, .string ⟨#[]⟩, .string ⟨#[]⟩, .int .i64 0, .int .i64 0] 38)
 have K0 := Lib.hid k0
 have B := Lib.hid b1
 have tk : ∀ W, Below w.heap.size w W → Calls Tryz.prog 38 #[p, .func (.func 40) #[] #[.pointer (some ⟨w.heap.size, 0, none⟩)]] W fun e w' => e = .returned (.tuple #[.agg #[.int .i64 0, .string ⟨#[]⟩, .string ⟨#[]⟩, .int .i64 0, .int .i64 0], .bool false]) ∧ Below W.heap.size W w' := fun W hW => take_end_t p w.heap.size W (fun V hV => hp V (hW.trans (hV.mono hW.size)))
 have TK := Lib.hid tk
 clear tk b0 k0 hp q0 b1 hz
 go_enter Tryz.func23, Tryz.ntmps23
 go_upto_region 1 with (fail)
 generalize ((w.alloc (Obj.cells #[.int .i64 k] 3)).alloc (Obj.cells #[.int .i64 0, .string ⟨#[]⟩, .string ⟨#[]⟩, .int .i64 0, .int .i64 0] 38)) = W0 at *
 go_wp2_with (first
  | (go_at_call 38; with_reducible refine (TK.out _ (baseI B.out)).mono ?_; rintro e wx ⟨rfl, q⟩; replace K0 := Lib.hid (K0.out.near (by first | exact Near.same _ | exact Near.one _) q); replace B := Lib.hid (goI B.out q); clear q; have c0 := K0.out.at_ 0 _ rfl; have c1 := K0.out.at_ 1 _ rfl; have c2 := K0.out.at_ 2 _ rfl; have c3 := K0.out.at_ 3 _ rfl; have c4 := K0.out.at_ 4 _ rfl; have z0 := K0.out.free 0; have z1 := K0.out.free 1; have z2 := K0.out.free 2; have z3 := K0.out.free 3; have z4 := K0.out.free 4)
  | fail "arm")
 have K1 : Hid (Blk _ (w.heap.size + 1) #[.int .i64 0, .string ⟨#[]⟩, .string ⟨#[]⟩, .int .i64 0, .int .i64 0] 38) := Lib.hid (K0.out.set5 (.int .i64 0) (.string ⟨#[]⟩) (.string ⟨#[]⟩) (.int .i64 0) (.int .i64 0))
 have B3 := below_set5 B.out (Nat.le_succ _) (.int .i64 0) (.string ⟨#[]⟩) (.string ⟨#[]⟩) (.int .i64 0) (.int .i64 0)
 have e0 := K1.out.at_ 0 _ rfl
 have e1 := K1.out.at_ 1 _ rfl
 have e2 := K1.out.at_ 2 _ rfl
 have e3 := K1.out.at_ 3 _ rfl
 have e4 := K1.out.at_ 4 _ rfl
 exact bodyPost_ret (v := .tuple #[tokV Tok.zero, .bool false]) (by simp [results, Tryz.results23, go_sem, e0, e1, e2, e3, e4, tokV, Tok.cells, Tok.zero]) rfl ⟨rfl, B3⟩

set_option maxRecDepth 100000 in
set_option maxHeartbeats 4000000 in
theorem rtake_no (b n : Nat) (s : Value) (ts : List Tok) (t : Tok) (k : Int) (w : World) (h : Rd w b s n ts) (hn : ts[n]? = some t) (hv : (t.kind == k) = false) :
  Calls Tryz.prog 23 #[ptrV b, .int .i64 k] w fun e w' => e = .returned (.tuple #[tokV Tok.zero, .bool false]) ∧ Below w.heap.size w w' := by
 have hmf : ∀ (fn : Fn) (first cap : Array Value) (w : World), (Instr.makeFunc fn first cap).run Tryz.prog w = .ok (.func fn first cap) w := fun _ _ _ _ => rfl
 have q0 := Blk.fresh w #[.int .i64 k] 3
 have b0 := (Below.refl w.heap.size w).alloc (Nat.le_refl _) (.cells #[.int .i64 k] 3)
 have hz : (w.alloc (.cells #[.int .i64 k] 3)).heap.size = w.heap.size + 1 := by simp
 have k0 := Blk.fresh (w.alloc (.cells #[.int .i64 k] 3)) #[.int .i64 0, .string ⟨#[]⟩, .string ⟨#[]⟩, .int .i64 0, .int .i64 0] 38
 rw [hz] at k0
 replace q0 := q0.alloc (.cells #[.int .i64 0, .string ⟨#[]⟩, .string ⟨#[]⟩, .int .i64 0, .int .i64 0] 38)
 have b1 := b0.alloc b0.size (.cells #[.int .i64 0, .string ⟨#[]⟩, .string ⟨#[]⟩, .int .i64 0, .int .i64 0] 38)
 have K0 := Lib.hid k0
 have B := Lib.hid b1
 have hQ : ∀ W, Below ((w.alloc (.cells #[.int .i64 k] 3)).alloc (.cells #[.int .i64 0, .string ⟨#[]⟩, .string ⟨#[]⟩, .int .i64 0, .int .i64 0] 38)).heap.size ((w.alloc (.cells #[.int .i64 k] 3)).alloc (.cells #[.int .i64 0, .string ⟨#[]⟩, .string ⟨#[]⟩, .int .i64 0, .int .i64 0] 38)) W → w.heap.size < W.heap.size ∧ W.cell? ⟨w.heap.size, 0, none⟩ = some (.int .i64 k) := fun W hW => ⟨Nat.lt_of_lt_of_le q0.lt hW.size, (hW.cell (p := ⟨w.heap.size, 0, none⟩) q0.lt).trans (q0.at_ 0 _ rfl)⟩
 have tk : ∀ W, Below w.heap.size w W → Below ((w.alloc (.cells #[.int .i64 k] 3)).alloc (.cells #[.int .i64 0, .string ⟨#[]⟩, .string ⟨#[]⟩, .int .i64 0, .int .i64 0] 38)).heap.size ((w.alloc (.cells #[.int .i64 k] 3)).alloc (.cells #[.int .i64 0, .string ⟨#[]⟩, .string ⟨#[]⟩, .int .i64 0, .int .i64 0] 38)) W → Calls Tryz.prog 38 #[.pointer (some ⟨b, 0, none⟩), .func (.func 40) #[] #[.pointer (some ⟨w.heap.size, 0, none⟩)]] W fun e w' => e = .returned (.tuple #[.agg #[.int .i64 0, .string ⟨#[]⟩, .string ⟨#[]⟩, .int .i64 0, .int .i64 0], .bool false]) ∧ Below W.heap.size W w' := fun W hW hQW => take_no_t b n s ts t w.heap.size k W (h.below hW) hn (hQ W hQW).1 (hQ W hQW).2 hv
 have B0 := Lib.hid (Below.refl ((w.alloc (.cells #[.int .i64 k] 3)).alloc (.cells #[.int .i64 0, .string ⟨#[]⟩, .string ⟨#[]⟩, .int .i64 0, .int .i64 0] 38)).heap.size ((w.alloc (.cells #[.int .i64 k] 3)).alloc (.cells #[.int .i64 0, .string ⟨#[]⟩, .string ⟨#[]⟩, .int .i64 0, .int .i64 0] 38)))
 have TK := Lib.hid tk
 have hbl := h.r.lt
 clear tk b0 k0 h hn q0 b1 hz hQ hv
 unfold ptrV
 go_enter Tryz.func23, Tryz.ntmps23
 go_upto_region 1 with (fail)
 generalize ((w.alloc (Obj.cells #[.int .i64 k] 3)).alloc (Obj.cells #[.int .i64 0, .string ⟨#[]⟩, .string ⟨#[]⟩, .int .i64 0, .int .i64 0] 38)) = W0 at *
 go_wp2_with (first
  | (go_at_call 38; with_reducible refine (TK.out _ (baseI B.out) (baseI B0.out)).mono ?_; rintro e wx ⟨rfl, q⟩; replace K0 := Lib.hid (K0.out.near (by first | exact Near.same _ | exact Near.one _) q); replace B := Lib.hid (goI B.out q); clear q; have c0 := K0.out.at_ 0 _ rfl; have c1 := K0.out.at_ 1 _ rfl; have c2 := K0.out.at_ 2 _ rfl; have c3 := K0.out.at_ 3 _ rfl; have c4 := K0.out.at_ 4 _ rfl; have z0 := K0.out.free 0; have z1 := K0.out.free 1; have z2 := K0.out.free 2; have z3 := K0.out.free 3; have z4 := K0.out.free 4)
  | fail "arm")
 have K1 : Hid (Blk _ (w.heap.size + 1) #[.int .i64 0, .string ⟨#[]⟩, .string ⟨#[]⟩, .int .i64 0, .int .i64 0] 38) := Lib.hid (K0.out.set5 (.int .i64 0) (.string ⟨#[]⟩) (.string ⟨#[]⟩) (.int .i64 0) (.int .i64 0))
 have B3 := below_set5 B.out (Nat.le_succ _) (.int .i64 0) (.string ⟨#[]⟩) (.string ⟨#[]⟩) (.int .i64 0) (.int .i64 0)
 have e0 := K1.out.at_ 0 _ rfl
 have e1 := K1.out.at_ 1 _ rfl
 have e2 := K1.out.at_ 2 _ rfl
 have e3 := K1.out.at_ 3 _ rfl
 have e4 := K1.out.at_ 4 _ rfl
 exact bodyPost_ret (v := .tuple #[tokV Tok.zero, .bool false]) (by simp [results, Tryz.results23, go_sem, e0, e1, e2, e3, e4, tokV, Tok.cells, Tok.zero]) rfl ⟨rfl, B3⟩

set_option maxRecDepth 100000 in
set_option maxHeartbeats 4000000 in
theorem rtake_yes (b n : Nat) (s : Value) (ts : List Tok) (t : Tok) (k : Int) (w : World) (h : Rd w b s n ts) (hn : ts[n]? = some t) (hv : (t.kind == k) = true) :
  Calls Tryz.prog 23 #[ptrV b, .int .i64 k] w fun e w' => (e = .returned (.tuple #[tokV t, .bool true]) ∧ Rdr w' b s (n + 1)) ∧ w.grownBy w' (some b) := by
 have hmf : ∀ (fn : Fn) (first cap : Array Value) (w : World), (Instr.makeFunc fn first cap).run Tryz.prog w = .ok (.func fn first cap) w := fun _ _ _ _ => rfl
 have q0 := Blk.fresh w #[.int .i64 k] 3
 have b0 := (Below.refl w.heap.size w).alloc (Nat.le_refl _) (.cells #[.int .i64 k] 3)
 have hz : (w.alloc (.cells #[.int .i64 k] 3)).heap.size = w.heap.size + 1 := by simp
 have k0 := Blk.fresh (w.alloc (.cells #[.int .i64 k] 3)) #[.int .i64 0, .string ⟨#[]⟩, .string ⟨#[]⟩, .int .i64 0, .int .i64 0] 38
 rw [hz] at k0
 replace q0 := q0.alloc (.cells #[.int .i64 0, .string ⟨#[]⟩, .string ⟨#[]⟩, .int .i64 0, .int .i64 0] 38)
 have b1 := b0.alloc b0.size (.cells #[.int .i64 0, .string ⟨#[]⟩, .string ⟨#[]⟩, .int .i64 0, .int .i64 0] 38)
 have K0 := Lib.hid k0
 have B := Lib.hid b1
 have hQ : ∀ W, Below ((w.alloc (.cells #[.int .i64 k] 3)).alloc (.cells #[.int .i64 0, .string ⟨#[]⟩, .string ⟨#[]⟩, .int .i64 0, .int .i64 0] 38)).heap.size ((w.alloc (.cells #[.int .i64 k] 3)).alloc (.cells #[.int .i64 0, .string ⟨#[]⟩, .string ⟨#[]⟩, .int .i64 0, .int .i64 0] 38)) W → w.heap.size < W.heap.size ∧ W.cell? ⟨w.heap.size, 0, none⟩ = some (.int .i64 k) := fun W hW => ⟨Nat.lt_of_lt_of_le q0.lt hW.size, (hW.cell (p := ⟨w.heap.size, 0, none⟩) q0.lt).trans (q0.at_ 0 _ rfl)⟩
 have tk : ∀ W, Below w.heap.size w W → Below ((w.alloc (.cells #[.int .i64 k] 3)).alloc (.cells #[.int .i64 0, .string ⟨#[]⟩, .string ⟨#[]⟩, .int .i64 0, .int .i64 0] 38)).heap.size ((w.alloc (.cells #[.int .i64 k] 3)).alloc (.cells #[.int .i64 0, .string ⟨#[]⟩, .string ⟨#[]⟩, .int .i64 0, .int .i64 0] 38)) W → Calls Tryz.prog 38 #[.pointer (some ⟨b, 0, none⟩), .func (.func 40) #[] #[.pointer (some ⟨w.heap.size, 0, none⟩)]] W fun e w' => (e = .returned (.tuple #[.agg #[.int .i64 t.kind, .string ⟨t.text.toArray⟩, .string ⟨t.value.toArray⟩, .int .i64 t.line, .int .i64 t.col], .bool true]) ∧ Rdr w' b s (n + 1)) ∧ W.grownBy w' (some b) := fun W hW hQW => take_yes_t b n s ts t w.heap.size k W (h.below hW) hn (hQ W hQW).1 (hQ W hQW).2 hv
 have B0 := Lib.hid (Below.refl ((w.alloc (.cells #[.int .i64 k] 3)).alloc (.cells #[.int .i64 0, .string ⟨#[]⟩, .string ⟨#[]⟩, .int .i64 0, .int .i64 0] 38)).heap.size ((w.alloc (.cells #[.int .i64 k] 3)).alloc (.cells #[.int .i64 0, .string ⟨#[]⟩, .string ⟨#[]⟩, .int .i64 0, .int .i64 0] 38)))
 have TK := Lib.hid tk
 have hbl := h.r.lt
 clear tk b0 k0 h hn q0 b1 hz hQ hv
 unfold ptrV
 go_enter Tryz.func23, Tryz.ntmps23
 go_upto_region 1 with (fail)
 generalize ((w.alloc (Obj.cells #[.int .i64 k] 3)).alloc (Obj.cells #[.int .i64 0, .string ⟨#[]⟩, .string ⟨#[]⟩, .int .i64 0, .int .i64 0] 38)) = W0 at *
 go_wp2_with (first
  | (go_at_call 38; with_reducible refine (TK.out _ (baseI B.out) (baseI B0.out)).mono ?_; rintro e wx ⟨⟨rfl, hr2⟩, q⟩; replace K0 := Lib.hid (Blk.grown (K0.out) (near_grown (by first | exact Near.same _ | exact Near.one _) q) (ne_blk (by omega))); have G := Lib.hid (below_grown B.out (near_grown (by first | exact Near.same _ | exact Near.one _) q)); have HR2 := Lib.hid hr2; clear q hr2 B; have c0 := K0.out.at_ 0 _ rfl; have c1 := K0.out.at_ 1 _ rfl; have c2 := K0.out.at_ 2 _ rfl; have c3 := K0.out.at_ 3 _ rfl; have c4 := K0.out.at_ 4 _ rfl; have z0 := K0.out.free 0; have z1 := K0.out.free 1; have z2 := K0.out.free 2; have z3 := K0.out.free 3; have z4 := K0.out.free 4)
  | fail "arm")
 have K1 : Hid (Blk _ (w.heap.size + 1) #[.int .i64 t.kind, .string ⟨t.text.toArray⟩, .string ⟨t.value.toArray⟩, .int .i64 t.line, .int .i64 t.col] 38) := Lib.hid (K0.out.set5 (.int .i64 t.kind) (.string ⟨t.text.toArray⟩) (.string ⟨t.value.toArray⟩) (.int .i64 t.line) (.int .i64 t.col))
 have B3 := below_set5 (Below.refl w.heap.size wx) (Nat.le_succ _) (.int .i64 t.kind) (.string ⟨t.text.toArray⟩) (.string ⟨t.value.toArray⟩) (.int .i64 t.line) (.int .i64 t.col)
 have e0 := K1.out.at_ 0 _ rfl
 have e1 := K1.out.at_ 1 _ rfl
 have e2 := K1.out.at_ 2 _ rfl
 have e3 := K1.out.at_ 3 _ rfl
 have e4 := K1.out.at_ 4 _ rfl
 exact bodyPost_ret (v := .tuple #[tokV t, .bool true]) (by simp [results, Tryz.results23, go_sem, e0, e1, e2, e3, e4, tokV, Tok.cells, Tok.zero]) rfl ⟨⟨rfl, Blk.kept HR2.out hbl B3⟩, grown_more G.out B3⟩

set_option maxRecDepth 100000 in
set_option maxHeartbeats 4000000 in
theorem raccept_end (p : Value) (S : ByteArray) (w : World) (hp : ∀ W, Below w.heap.size w W → Calls Tryz.prog 18 #[p] W fun e w' => e = .returned (.tuple #[tokV Tok.zero, .bool false]) ∧ Below W.heap.size W w') :
  Calls Tryz.prog 25 #[p, .string S] w fun e w' => e = .returned (.bool false) ∧ Below w.heap.size w w' := by
 have hmf : ∀ (fn : Fn) (first cap : Array Value) (w : World), (Instr.makeFunc fn first cap).run Tryz.prog w = .ok (.func fn first cap) w := fun _ _ _ _ => rfl
 have q0 := Blk.fresh w #[.string S] 9
 have b0 := (Below.refl w.heap.size w).alloc (Nat.le_refl _) (.cells #[.string S] 9)
 have B := Lib.hid b0
 have tk : ∀ W, Below w.heap.size w W → Calls Tryz.prog 38 #[p, .func (.func 41) #[] #[.pointer (some ⟨w.heap.size, 0, none⟩)]] W fun e w' => e = .returned (.tuple #[.agg #[.int .i64 0, .string ⟨#[]⟩, .string ⟨#[]⟩, .int .i64 0, .int .i64 0], .bool false]) ∧ Below W.heap.size W w' := fun W hW => take_end_a p w.heap.size W (fun V hV => hp V (hW.trans (hV.mono hW.size)))
 have TK := Lib.hid tk
 clear tk b0 hp q0
 go_enter Tryz.func25, Tryz.ntmps25
 go_upto_region 1 with (fail)
 generalize (w.alloc (Obj.cells #[.string S] 9)) = W0 at *
 go_wp2_with (first
  | (go_at_call 38; with_reducible refine (TK.out _ (baseI B.out)).mono ?_; rintro e wx ⟨rfl, q⟩; replace B := Lib.hid (goI B.out q); clear q)
  | fail "arm")
 go_ret
 exact ⟨rfl, B.out.alloc B.out.size _⟩

set_option maxRecDepth 100000 in
set_option maxHeartbeats 4000000 in
theorem raccept_no (b n : Nat) (s : Value) (ts : List Tok) (t : Tok) (S : ByteArray) (w : World) (h : Rd w b s n ts) (hn : ts[n]? = some t) (hv : ((t.kind == 1 || t.kind == 4) && (ByteArray.toList ⟨t.text.toArray⟩ == S.toList)) = false) :
  Calls Tryz.prog 25 #[ptrV b, .string S] w fun e w' => e = .returned (.bool false) ∧ Below w.heap.size w w' := by
 have hmf : ∀ (fn : Fn) (first cap : Array Value) (w : World), (Instr.makeFunc fn first cap).run Tryz.prog w = .ok (.func fn first cap) w := fun _ _ _ _ => rfl
 have q0 := Blk.fresh w #[.string S] 9
 have b0 := (Below.refl w.heap.size w).alloc (Nat.le_refl _) (.cells #[.string S] 9)
 have B := Lib.hid b0
 have hQ : ∀ W, Below (w.alloc (.cells #[.string S] 9)).heap.size (w.alloc (.cells #[.string S] 9)) W → w.heap.size < W.heap.size ∧ W.cell? ⟨w.heap.size, 0, none⟩ = some (.string S) := fun W hW => ⟨Nat.lt_of_lt_of_le q0.lt hW.size, (hW.cell (p := ⟨w.heap.size, 0, none⟩) q0.lt).trans (q0.at_ 0 _ rfl)⟩
 have tk : ∀ W, Below w.heap.size w W → Below (w.alloc (.cells #[.string S] 9)).heap.size (w.alloc (.cells #[.string S] 9)) W → Calls Tryz.prog 38 #[.pointer (some ⟨b, 0, none⟩), .func (.func 41) #[] #[.pointer (some ⟨w.heap.size, 0, none⟩)]] W fun e w' => e = .returned (.tuple #[.agg #[.int .i64 0, .string ⟨#[]⟩, .string ⟨#[]⟩, .int .i64 0, .int .i64 0], .bool false]) ∧ Below W.heap.size W w' := fun W hW hQW => take_no_a b n s ts t w.heap.size S W (h.below hW) hn (hQ W hQW).1 (hQ W hQW).2 hv
 have B0 := Lib.hid (Below.refl (w.alloc (.cells #[.string S] 9)).heap.size (w.alloc (.cells #[.string S] 9)))
 have TK := Lib.hid tk
 have hbl := h.r.lt
 clear tk b0 h hn q0 hQ hv
 unfold ptrV
 go_enter Tryz.func25, Tryz.ntmps25
 go_upto_region 1 with (fail)
 generalize (w.alloc (Obj.cells #[.string S] 9)) = W0 at *
 go_wp2_with (first
  | (go_at_call 38; with_reducible refine (TK.out _ (baseI B.out) (baseI B0.out)).mono ?_; rintro e wx ⟨rfl, q⟩; replace B := Lib.hid (goI B.out q); clear q)
  | fail "arm")
 go_ret
 exact ⟨rfl, B.out.alloc B.out.size _⟩

set_option maxRecDepth 100000 in
set_option maxHeartbeats 4000000 in
theorem raccept_yes (b n : Nat) (s : Value) (ts : List Tok) (t : Tok) (S : ByteArray) (w : World) (h : Rd w b s n ts) (hn : ts[n]? = some t) (hv : ((t.kind == 1 || t.kind == 4) && (ByteArray.toList ⟨t.text.toArray⟩ == S.toList)) = true) :
  Calls Tryz.prog 25 #[ptrV b, .string S] w fun e w' => (e = .returned (.bool true) ∧ Rdr w' b s (n + 1)) ∧ w.grownBy w' (some b) := by
 have hmf : ∀ (fn : Fn) (first cap : Array Value) (w : World), (Instr.makeFunc fn first cap).run Tryz.prog w = .ok (.func fn first cap) w := fun _ _ _ _ => rfl
 have q0 := Blk.fresh w #[.string S] 9
 have b0 := (Below.refl w.heap.size w).alloc (Nat.le_refl _) (.cells #[.string S] 9)
 have B := Lib.hid b0
 have hQ : ∀ W, Below (w.alloc (.cells #[.string S] 9)).heap.size (w.alloc (.cells #[.string S] 9)) W → w.heap.size < W.heap.size ∧ W.cell? ⟨w.heap.size, 0, none⟩ = some (.string S) := fun W hW => ⟨Nat.lt_of_lt_of_le q0.lt hW.size, (hW.cell (p := ⟨w.heap.size, 0, none⟩) q0.lt).trans (q0.at_ 0 _ rfl)⟩
 have tk : ∀ W, Below w.heap.size w W → Below (w.alloc (.cells #[.string S] 9)).heap.size (w.alloc (.cells #[.string S] 9)) W → Calls Tryz.prog 38 #[.pointer (some ⟨b, 0, none⟩), .func (.func 41) #[] #[.pointer (some ⟨w.heap.size, 0, none⟩)]] W fun e w' => (e = .returned (.tuple #[.agg #[.int .i64 t.kind, .string ⟨t.text.toArray⟩, .string ⟨t.value.toArray⟩, .int .i64 t.line, .int .i64 t.col], .bool true]) ∧ Rdr w' b s (n + 1)) ∧ W.grownBy w' (some b) := fun W hW hQW => take_yes_a b n s ts t w.heap.size S W (h.below hW) hn (hQ W hQW).1 (hQ W hQW).2 hv
 have B0 := Lib.hid (Below.refl (w.alloc (.cells #[.string S] 9)).heap.size (w.alloc (.cells #[.string S] 9)))
 have TK := Lib.hid tk
 have hbl := h.r.lt
 clear tk b0 h hn q0 hQ hv
 unfold ptrV
 go_enter Tryz.func25, Tryz.ntmps25
 go_upto_region 1 with (fail)
 generalize (w.alloc (Obj.cells #[.string S] 9)) = W0 at *
 go_wp2_with (first
  | (go_at_call 38; with_reducible refine (TK.out _ (baseI B.out) (baseI B0.out)).mono ?_; rintro e wx ⟨⟨rfl, hr2⟩, q⟩; have G := Lib.hid (below_grown B.out (near_grown (by first | exact Near.same _ | exact Near.one _) q)); have HR2 := Lib.hid hr2; clear q hr2 B)
  | fail "arm")
 go_ret
 exact ⟨⟨rfl, Blk.below HR2.out (below_new wx _)⟩, grown_more G.out ((below_new wx _).mono G.out.size)⟩

end Go.Proofs.YtfhmgkicccfghaaGreatDoor

/- The reader's At, and place. -/
namespace Go.Proofs.YtfhmgkicccfghaaGreatDoor
set_option linter.all false
open Go.RowKit

def placeV (l c : Int) : Value := .agg #[.int .i64 l, .int .i64 c]
def placeS (ts : List Tok) (n : Nat) : Nat × Nat := match ts[min n (ts.length - 1)]? with
 | some t => (t.line, t.col)
 | none => (0, 0)

set_option maxRecDepth 100000 in
set_option maxHeartbeats 4000000 in
theorem place_none (v : Value) (n : Int) (w : World) (h : TokAt w v []) :
  Calls Tryz.prog 21 #[v, .int .i64 n] w fun e w' => e = .returned (placeV 0 0) ∧ Below w.heap.size w w' := by
 obtain ⟨a, c, rfl, _⟩ := h
 have k0 := Blk.fresh w #[.int .i64 0, .int .i64 0] 27
 have b0 := (Below.refl w.heap.size w).alloc (Nat.le_refl _) (.cells #[.int .i64 0, .int .i64 0] 27)
 have K0 := Lib.hid k0
 have B := Lib.hid b0
 clear k0 b0
 go_enter Tryz.func21, Tryz.ntmps21
 go_upto_region 1 with (fail)
 generalize (w.alloc (Obj.cells #[.int .i64 0, .int .i64 0] 27)) = W0 at *
 have c0 := K0.out.at_ 0 _ rfl
 have c1 := K0.out.at_ 1 _ rfl
 have z0 := K0.out.free 0
 have z1 := K0.out.free 1
 go_wp2
 have K1 : Blk _ w.heap.size #[.int .i64 0, .int .i64 0] 27 := (K0.out.set 0 (.int .i64 0)).set 1 (.int .i64 0)
 have B1 := (B.out.setCell (p := ⟨w.heap.size, 0, none⟩) (Nat.le_refl _) (.int .i64 0)).setCell (p := ⟨w.heap.size, 1, none⟩) (Nat.le_refl _) (.int .i64 0)
 have e0 := K1.at_ 0 _ rfl
 have e1 := K1.at_ 1 _ rfl
 exact bodyPost_ret (v := placeV 0 0) (by simp [results, Tryz.results21, go_sem, e0, e1, placeV]) rfl ⟨rfl, B1⟩

set_option maxRecDepth 100000 in
set_option maxHeartbeats 4000000 in
theorem place_some (v : Value) (ts : List Tok) (n m : Nat) (t : Tok) (w : World) (h : TokAt w v ts) (hm : m = min n (ts.length - 1)) (ht : ts[m]? = some t) (hl : ts.length ≤ 5000) (hn : n ≤ 5000) :
  Calls Tryz.prog 21 #[v, .int .i64 n] w fun e w' => e = .returned (placeV t.line t.col) ∧ Below w.heap.size w w' := by
 obtain ⟨a, c, rfl, hrow⟩ := h
 obtain ⟨d, o, rfl, hd, hc⟩ := hrow m t ht
 have hlt : m < ts.length := (List.getElem?_eq_some_iff.1 ht).1
 have hmt : (min (n : Int) ((ts.length : Int) - 1)).toNat = m := by omega
 have k0 := Blk.fresh w #[.int .i64 0, .int .i64 0] 27
 have b0 := (Below.refl w.heap.size w).alloc (Nat.le_refl _) (.cells #[.int .i64 0, .int .i64 0] 27)
 have q3 := (b0.cell (p := ⟨d, o + m * 5 + 3, none⟩) hd).trans (hc 3 _ rfl)
 have q4 := (b0.cell (p := ⟨d, o + m * 5 + 3 + 1, none⟩) hd).trans (hc 4 _ rfl)
 have K0 := Lib.hid k0
 have B := Lib.hid b0
 have e5 : ((ts.length : Int) == 0) = false := by rw [beq_eq_false_iff_ne]; omega
 rw [← hmt] at q3 q4
 have mi : (min (n : Int) ((ts.length : Int) - 1)) < (ts.length : Int) := by omega
 have mz : 0 ≤ (min (n : Int) ((ts.length : Int) - 1)) := by omega
 clear k0 b0 hc ht hrow hm hmt
 go_enter Tryz.func21, Tryz.ntmps21
 go_upto_region 1 with (fail)
 generalize (w.alloc (Obj.cells #[.int .i64 0, .int .i64 0] 27)) = W0 at *
 have c0 := K0.out.at_ 0 _ rfl
 have c1 := K0.out.at_ 1 _ rfl
 have z0 := K0.out.free 0
 have z1 := K0.out.free 1
 go_wp2
 have K1 : Blk _ w.heap.size #[.int .i64 t.line, .int .i64 t.col] 27 := (K0.out.set 0 (.int .i64 t.line)).set 1 (.int .i64 t.col)
 have B1 := (B.out.setCell (p := ⟨w.heap.size, 0, none⟩) (Nat.le_refl _) (.int .i64 t.line)).setCell (p := ⟨w.heap.size, 1, none⟩) (Nat.le_refl _) (.int .i64 t.col)
 have e0 := K1.at_ 0 _ rfl
 have e1 := K1.at_ 1 _ rfl
 exact bodyPost_ret (v := placeV t.line t.col) (by simp [results, Tryz.results21, go_sem, e0, e1, placeV]) rfl ⟨rfl, B1⟩

set_option maxRecDepth 100000 in
set_option maxHeartbeats 4000000 in
theorem at_none (b n : Nat) (s : Value) (w : World) (h : Rd w b s n []) :
  Calls Tryz.prog 20 #[ptrV b] w fun e w' => e = .returned (placeV 0 0) ∧ Below w.heap.size w w' := by
 obtain ⟨hr, ⟨a, c, rfl, _⟩, _, _⟩ := h
 have k0 := Blk.fresh w #[.int .i64 0, .int .i64 0] 27
 have b0 := (Below.refl w.heap.size w).alloc (Nat.le_refl _) (.cells #[.int .i64 0, .int .i64 0] 27)
 replace hr := hr.below b0
 have K0 := Lib.hid k0
 have B := Lib.hid b0
 have r0 := hr.row
 clear k0 b0 hr
 unfold ptrV
 go_enter Tryz.func20, Tryz.ntmps20
 go_upto_region 1 with (fail)
 generalize (w.alloc (Obj.cells #[.int .i64 0, .int .i64 0] 27)) = W0 at *
 have c0 := K0.out.at_ 0 _ rfl
 have c1 := K0.out.at_ 1 _ rfl
 have z0 := K0.out.free 0
 have z1 := K0.out.free 1
 go_wp2
 have K1 : Blk _ w.heap.size #[.int .i64 0, .int .i64 0] 27 := (K0.out.set 0 (.int .i64 0)).set 1 (.int .i64 0)
 have B1 := (B.out.setCell (p := ⟨w.heap.size, 0, none⟩) (Nat.le_refl _) (.int .i64 0)).setCell (p := ⟨w.heap.size, 1, none⟩) (Nat.le_refl _) (.int .i64 0)
 have e0 := K1.at_ 0 _ rfl
 have e1 := K1.at_ 1 _ rfl
 exact bodyPost_ret (v := placeV 0 0) (by simp [results, Tryz.results20, go_sem, e0, e1, placeV]) rfl ⟨rfl, B1⟩

set_option maxRecDepth 100000 in
set_option maxHeartbeats 4000000 in
theorem at_some (b n m : Nat) (s : Value) (ts : List Tok) (t : Tok) (w : World) (h : Rd w b s n ts) (hm : m = min n (ts.length - 1)) (ht : ts[m]? = some t) :
  Calls Tryz.prog 20 #[ptrV b] w fun e w' => e = .returned (placeV t.line t.col) ∧ Below w.heap.size w w' := by
 obtain ⟨hr, ⟨a, c, rfl, hrow⟩, hl, hn⟩ := h
 obtain ⟨d, o, rfl, hd, hc⟩ := hrow m t ht
 have hlt : m < ts.length := (List.getElem?_eq_some_iff.1 ht).1
 have hmt : (min (n : Int) ((ts.length : Int) - 1)).toNat = m := by omega
 have k0 := Blk.fresh w #[.int .i64 0, .int .i64 0] 27
 have b0 := (Below.refl w.heap.size w).alloc (Nat.le_refl _) (.cells #[.int .i64 0, .int .i64 0] 27)
 have q3 := (b0.cell (p := ⟨d, o + m * 5 + 3, none⟩) hd).trans (hc 3 _ rfl)
 have q4 := (b0.cell (p := ⟨d, o + m * 5 + 3 + 1, none⟩) hd).trans (hc 4 _ rfl)
 replace hr := hr.below b0
 have K0 := Lib.hid k0
 have B := Lib.hid b0
 have r0 := hr.row
 have r1 := hr.pos
 have e5 : ((ts.length : Int) == 0) = false := by rw [beq_eq_false_iff_ne]; omega
 rw [← hmt] at q3 q4
 have mi : (min (n : Int) ((ts.length : Int) - 1)) < (ts.length : Int) := by omega
 have mz : 0 ≤ (min (n : Int) ((ts.length : Int) - 1)) := by omega
 have w1 : IntKind.i64.wrap ((ts.length : Int) - 1) = (ts.length : Int) - 1 := IntWalk.i64_in _ (by omega)
 clear k0 b0 hc ht hrow hm hmt hr
 unfold ptrV
 go_enter Tryz.func20, Tryz.ntmps20
 go_upto_region 1 with (fail)
 generalize (w.alloc (Obj.cells #[.int .i64 0, .int .i64 0] 27)) = W0 at *
 go_upto_region 3 with (fail)
 go_still_tail 18, (by kernel_rfl)
 change wpList _ _ _ _ _ W0.drew
 replace K0 : Hid (Blk W0.drew w.heap.size #[.int .i64 0, .int .i64 0] 27) := Lib.hid K0.out
 replace B : Hid (Below w.heap.size w W0.drew) := Lib.hid (B.out.drew)
 clear r0 r1 q3 q4
 generalize W0.drew = W2 at *
 have c0 := K0.out.at_ 0 _ rfl
 have c1 := K0.out.at_ 1 _ rfl
 have z0 := K0.out.free 0
 have z1 := K0.out.free 1
 go_wp2
 have K1 : Blk _ w.heap.size #[.int .i64 t.line, .int .i64 t.col] 27 := (K0.out.set 0 (.int .i64 t.line)).set 1 (.int .i64 t.col)
 have B1 := (B.out.setCell (p := ⟨w.heap.size, 0, none⟩) (Nat.le_refl _) (.int .i64 t.line)).setCell (p := ⟨w.heap.size, 1, none⟩) (Nat.le_refl _) (.int .i64 t.col)
 have e0 := K1.at_ 0 _ rfl
 have e1 := K1.at_ 1 _ rfl
 exact bodyPost_ret (v := placeV t.line t.col) (by simp [results, Tryz.results20, go_sem, e0, e1, placeV]) rfl ⟨rfl, B1⟩

end Go.Proofs.YtfhmgkicccfghaaGreatDoor

/- The reader's Rest. -/
namespace Go.Proofs.YtfhmgkicccfghaaGreatDoor
set_option linter.all false
open Go.RowKit

theorem grown_refl (w : World) (r : Option Nat) : w.grownBy w r := ⟨rfl, rfl, rfl, Nat.le_refl _, fun _ _ _ => rfl⟩
theorem grown_trans {w W V : World} {r : Option Nat} (p : w.grownBy W r) (q : W.grownBy V r) : w.grownBy V r :=
 ⟨q.os.trans p.os, q.tape.trans p.tape, q.output.trans p.output, Nat.le_trans p.size q.size, fun k hk hne => (q.block k (Nat.lt_of_lt_of_le hk p.size) hne).trans (p.block k hk hne)⟩
theorem TokAt.apart {w : World} {b n : Nat} {v u : Value} {ts : List Tok} (h : TokAt w v ts) (k : Rdr w b u n) (hu : ∃ a l c, u = .slice a l c) : ∀ i t, ts[i]? = some t → ∃ d o, (∃ c, v = .slice (some ⟨d, o, none⟩) ts.length c) ∧ d < w.heap.size ∧ d ≠ b ∧ ∀ j u, t.cells[j]? = some u → w.cell? ⟨d, o + i * 5 + j, none⟩ = some u := by
 obtain ⟨a, c, rfl, h2⟩ := h
 intro i t ht
 obtain ⟨d, o, rfl, hd, hc⟩ := h2 i t ht
 refine ⟨d, o, ⟨c, rfl⟩, hd, fun e => ?_, hc⟩
 subst e
 have h1 := hc 1 _ rfl
 obtain ⟨a, l, c, rfl⟩ := hu
 rw [Lib.cell_of_heap k] at h1
 generalize o + i * 5 + 1 = x at h1
 rcases x with _ | _ | x
 ·simp at h1
 ·simp at h1
 ·simp at h1
theorem TokAt.grown {w W : World} {b n : Nat} {v u : Value} {ts : List Tok} (h : TokAt w v ts) (k : Rdr w b u n) (hu : ∃ a l c, u = .slice a l c) (q : w.grownBy W (some b)) : TokAt W v ts := by
 have ha := h.apart k hu
 obtain ⟨a, c, rfl, h2⟩ := h
 refine ⟨a, c, rfl, fun i t ht => ?_⟩
 obtain ⟨d, o, ⟨c', e⟩, hd, hne, hc⟩ := ha i t ht
 injection e with e1 e2 e3
 subst e1
 exact ⟨d, o, rfl, Nat.lt_of_lt_of_le hd q.size, fun j u hu => (World.cell?_of_block (w := w) (q.block d hd (fun e => hne (by injection e)))).trans (hc j u hu)⟩
theorem TokRow.grownR {W W' : World} {base b n : Nat} {v u : Value} {ts : List Tok} (h : TokRow W base v ts) (k : Rdr W b u n) (q : W.grownBy W' (some b)) : TokRow W' base v ts := h.grown (cs := #[u, .int .i64 n]) k (by decide) q
structure RestTo (ts : List Tok) (n m : Nat) : Prop where
 le : n ≤ m
 lt : m ≤ ts.length
 no : ∀ j t, n ≤ j → j < m → ts[j]? = some t → t.kind ≠ 5
 fin : ∀ t, ts[m]? = some t → t.kind = 5
theorem take_next (ts : List Tok) (n k : Nat) (t : Tok) (hk : n ≤ k) (ht : ts[k]? = some t) : (ts.drop n).take (k - n) ++ [t] = (ts.drop n).take (k + 1 - n) := by
 have hlt := (List.getElem?_eq_some_iff.1 ht).1
 have h1 : k - n < (ts.drop n).length := by rw [List.length_drop]; omega
 rw [show k + 1 - n = (k - n) + 1 by omega, List.take_succ_eq_append_getElem h1]
 congr 2
 rw [List.getElem_drop]
 have := (List.getElem?_eq_some_iff.1 ht).2
 rw [← this]
 congr 1
 omega

set_option maxRecDepth 100000 in
set_option maxHeartbeats 4000000 in
theorem rest_nil (p : Value) (w : World) (hp : ∀ W, Below w.heap.size w W → Calls Tryz.prog 18 #[p] W fun e w' => e = .returned (.tuple #[tokV Tok.zero, .bool false]) ∧ Below W.heap.size W w') :
  Calls Tryz.prog 26 #[p] w fun e w' => e = .returned (.slice none 0 0) ∧ Below w.heap.size w w' := by
 have nx := rnext_end p w hp
 have NX : Hid (Calls Tryz.prog 22 #[p] w fun e w' => e = .returned (.tuple #[.agg #[.int .i64 0, .string ⟨#[]⟩, .string ⟨#[]⟩, .int .i64 0, .int .i64 0], .bool false]) ∧ Below w.heap.size w w') := Lib.hid nx
 clear nx hp
 go_enter Tryz.func26, Tryz.ntmps26
 go_wp2
 go_loopw [3] (fun v wr => v = .slice none 0 0 ∧ wr = w) (fun v _ => lenOf v)
 case atStart => exact ⟨rfl, rfl⟩
 case round =>
  obtain ⟨rfl, rfl⟩ := hrel
  go_wp2_with (first
   | (go_at_call 22; with_reducible refine NX.out.mono ?_; rintro e wx ⟨rfl, q⟩; have B := Lib.hid q; clear q)
   | fail "arm")
  go_ret
  exact ⟨rfl, B.out.alloc B.out.size _⟩

set_option maxRecDepth 100000 in
set_option maxHeartbeats 4000000 in
theorem rest_any (b n : Nat) (s : Value) (ts : List Tok) (w : World) (h : Rd w b s n ts) (hs : ∃ a l c, s = .slice a l c) (hn : n ≤ ts.length) :
  Calls Tryz.prog 26 #[ptrV b] w fun e w' => (∃ v m, e = .returned v ∧ TokRow w' w.heap.size v ((ts.drop n).take (m - n)) ∧ RestTo ts n m ∧ Rdr w' b s (min (m + 1) ts.length)) ∧ w.grownBy w' (some b) := by
 have hbl := h.r.lt
 have hl := h.le
 have H := Lib.hid h
 clear h
 unfold ptrV
 go_enter Tryz.func26, Tryz.ntmps26
 go_wp2
 go_loopw [3] (fun v wr => ∃ k : Nat, n ≤ k ∧ k ≤ ts.length ∧ TokRow wr w.heap.size v ((ts.drop n).take (k - n)) ∧ (∀ j t, n ≤ j → j < k → ts[j]? = some t → t.kind ≠ 5) ∧ Rdr wr b s k ∧ w.grownBy wr (some b)) (fun v _ => ts.length + 1 - lenOf v)
 case atStart => exact ⟨n, Nat.le_refl _, hn, by rw [Nat.sub_self]; exact TokRow.nil _ _, (fun j t h1 h2 => by omega), H.out.r, grown_refl _ _⟩
 case round =>
  obtain ⟨k, hk1, hk, htr, hno, hr, hg⟩ := hrel
  have hR : Rd wr b s k ts := ⟨hr, H.out.t.grown H.out.r hs hg, hl, by omega⟩
  have hlen : ((ts.drop n).take (k - n)).length = k - n := by rw [List.length_take, List.length_drop]; omega
  by_cases hlt : k < ts.length
  ·have ht := List.getElem?_eq_getElem hlt
   generalize ts[k] = t at ht
   have nx := rnext_yes b k s ts t wr hR ht
   have hus := take_next ts n k t hk1 ht
   have htt := hno
   generalize hU : (ts.drop n).take (k - n) = us at *
   have HU := Lib.hid hU
   have HLEN := Lib.hid hlen
   clear hU hlen
   have NX : Hid (Calls Tryz.prog 22 #[.pointer (some ⟨b, 0, none⟩)] wr fun e w' => (e = .returned (.tuple #[.agg #[.int .i64 t.kind, .string ⟨t.text.toArray⟩, .string ⟨t.value.toArray⟩, .int .i64 t.line, .int .i64 t.col], .bool true]) ∧ Rdr w' b s (k + 1)) ∧ wr.grownBy w' (some b)) := Lib.hid nx
   have HT := Lib.hid ht
   have HNO := Lib.hid hno
   have TR := Lib.hid htr
   have HR := Lib.hid hr
   have G := Lib.hid hg
   have HUS := Lib.hid hus
   obtain ⟨va, vc, rfl⟩ := htr.len_eval
   clear nx hR ht hno htt htr hr hg hus
   go_upto_region 3 with (first
    | (go_at_call 22; with_reducible refine NX.out.mono ?_; rintro e wx ⟨⟨rfl, hr2⟩, q⟩; replace TR := Lib.hid (TR.out.grownR HR.out q); replace HR := Lib.hid hr2; replace G := Lib.hid (grown_trans G.out q); clear q hr2)
    | fail "arm")
   have T0 : Hid (Blk _ wx.heap.size #[.int .i64 t.kind, .string ⟨t.text.toArray⟩, .string ⟨t.value.toArray⟩, .int .i64 t.line, .int .i64 t.col] 38) := Lib.hid (Blk.fresh wx _ _)
   have Q := below_new wx (.cells #[.int .i64 t.kind, .string ⟨t.text.toArray⟩, .string ⟨t.value.toArray⟩, .int .i64 t.line, .int .i64 t.col] 38)
   replace HR : Hid (Rdr _ b s (k + 1)) := Lib.hid (HR.out.below Q)
   have hws := G.out.size
   replace G := Lib.hid (grown_more G.out (Q.mono hws))
   replace TR := Lib.hid (TR.out.below Q)
   have hwq := Q.size
   clear Q
   generalize (wx.alloc (Obj.cells #[.int .i64 t.kind, .string ⟨t.text.toArray⟩, .string ⟨t.value.toArray⟩, .int .i64 t.line, .int .i64 t.col] 38)) = W2 at *
   have y0 := T0.out.at_ 0 _ rfl
   have y1 := T0.out.at_ 1 _ rfl
   have y2 := T0.out.at_ 2 _ rfl
   have y3 := T0.out.at_ 3 _ rfl
   have y4 := T0.out.at_ 4 _ rfl
   by_cases h5 : t.kind = 5
   ·have e5 : (t.kind == 5) = true := by rw [h5]; rfl
    have H5 := Lib.hid h5
    clear h5
    go_wp2
    go_ret
    refine ⟨⟨_, k, rfl, by rw [HU.out]; exact TR.out, ⟨hk1, hk, HNO.out, fun u hu => ?_⟩, ?_⟩, G.out⟩
    ·rw [HT.out] at hu; injection hu with hu; rw [← hu]; exact H5.out
    ·rw [show min (k + 1) ts.length = k + 1 by omega]; exact HR.out
   ·have e5 : (t.kind == 5) = false := by rw [beq_eq_false_iff_ne]; exact h5
    go_wp2_with (at_builtin; refine app_tok rfl (.tmp 19) (.tmp 21) rfl W2 w.heap.size (by omega) _ us TR.out rfl (by have := HLEN.out; omega) t rfl ?_; intro v5 W5 r1 r2 r3)
    have HR5 : Rdr W5 b s (k + 1) := r2 _ _ _ hbl HR.out
    have G5 := grown_more G.out r3
    rw [HUS.out] at r1
    obtain ⟨va', vc', rfl⟩ := r1.len_eval
    have hl2 : ((ts.drop n).take (k + 1 - n)).length = k + 1 - n := by rw [List.length_take, List.length_drop]; omega
    refine ⟨⟨k + 1, by omega, hlt, r1, fun j u h1 h2 hu => ?_, HR5, G5⟩, by simp only [Array.getD, lenOf, hl2]; simp [HLEN.out, lenOf]; omega⟩
    by_cases hj : j = k
    ·subst hj; rw [HT.out] at hu; injection hu with hu; rw [← hu]; exact h5
    ·exact HNO.out j u h1 (by omega) hu
  ·obtain rfl : k = ts.length := by omega
   have nx := rnext_end (ptrV b) wr (fun V hV => peek_end b s ts.length ts V (hR.below hV) (Nat.le_refl _))
   have NX : Hid (Calls Tryz.prog 22 #[.pointer (some ⟨b, 0, none⟩)] wr fun e w' => e = .returned (.tuple #[.agg #[.int .i64 0, .string ⟨#[]⟩, .string ⟨#[]⟩, .int .i64 0, .int .i64 0], .bool false]) ∧ Below wr.heap.size wr w') := Lib.hid nx
   have HNO := Lib.hid hno
   have TR := Lib.hid htr
   have HR := Lib.hid hr
   have G := Lib.hid hg
   clear nx hR hno htr hr hg
   go_wp2_with (first
    | (go_at_call 22; with_reducible refine NX.out.mono ?_; rintro e wx ⟨rfl, q⟩; have Q := Lib.hid q; clear q)
    | fail "arm")
   go_ret
   have Q2 := Q.out.alloc Q.out.size (.cells #[.int .i64 0, .string ⟨#[]⟩, .string ⟨#[]⟩, .int .i64 0, .int .i64 0] 38)
   refine ⟨⟨_, ts.length, rfl, TR.out.below Q2, ⟨hk1, Nat.le_refl _, HNO.out, fun u hu => ?_⟩, ?_⟩, grown_more G.out (Q2.mono G.out.size)⟩
   ·rw [List.getElem?_eq_none (Nat.le_refl _)] at hu; cases hu
   ·rw [show min (ts.length + 1) ts.length = ts.length by omega]; exact HR.out.below Q2

end Go.Proofs.YtfhmgkicccfghaaGreatDoor
