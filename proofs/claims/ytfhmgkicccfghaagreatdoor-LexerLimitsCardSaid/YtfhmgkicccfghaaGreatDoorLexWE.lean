/- Rows of tokens, and lexer.Scan at texts that are too long. -/
import Derived.Test.YtfhmgkicccfghaaGreatDoorLexWD
import Derived.Test.YtfhmgkicccfghaaGreatDoorApp
namespace Go.Proofs.YtfhmgkicccfghaaGreatDoor
set_option linter.all false
open Go.RowKit

theorem tokElem : StrElem Tryz.prog 25 38 5 56 := ⟨by kernel_rfl, by kernel_rfl, by decide, by decide⟩
def Tok.cells (t : Tok) : List Value := [.int .i64 t.kind, .string ⟨t.text.toArray⟩, .string ⟨t.value.toArray⟩, .int .i64 t.line, .int .i64 t.col]
def tokCells (ts : List Tok) : List Value := ts.flatMap Tok.cells
theorem tokCells_snoc (ts : List Tok) (t : Tok) : tokCells (ts ++ [t]) = tokCells ts ++ t.cells := by simp [tokCells]
theorem tokCells_len : ∀ ts : List Tok, (tokCells ts).length = ts.length * 5
 | [] => rfl
 | t :: ts => by
  have h := tokCells_len ts
  unfold tokCells at h ⊢
  rw [List.flatMap_cons, List.length_append, h]
  simp [Tok.cells]
  omega
def TokRow (W : World) (base : Nat) (v : Value) (ts : List Tok) : Prop :=
 (ts = [] ∧ v = .slice none 0 0) ∨ ∃ d c r, v = .slice (some ⟨d, 0, none⟩) ts.length c ∧ base ≤ d ∧ ts ≠ [] ∧ Blk W d (tokCells ts ++ r).toArray 38 ∧ Room ts.length c 5 (tokCells ts) r
theorem TokRow.nil (W : World) (base : Nat) : TokRow W base (.slice none 0 0) [] := .inl ⟨rfl, rfl⟩
theorem TokRow.below {W W' : World} {base : Nat} {v : Value} {ts : List Tok} (h : TokRow W base v ts) (q : Below W.heap.size W W') : TokRow W' base v ts := by
 rcases h with h | ⟨d, c, r, h1, h2, h3, h4, h5⟩
 ·exact .inl h
 ·exact .inr ⟨d, c, r, h1, h2, h3, h4.below q, h5⟩
theorem TokRow.len_eval {W : World} {base : Nat} {v : Value} {ts : List Tok} (h : TokRow W base v ts) : ∃ a c, v = .slice a ts.length c := by
 rcases h with ⟨rfl, rfl⟩ | ⟨d, c, r, h1, _⟩
 ·exact ⟨none, 0, rfl⟩
 ·exact ⟨_, _, h1⟩
theorem Blk.else1 {w : World} {b : Nat} {cs : Array Value} {T : TypeId} (h : Blk w b cs T) (p : Addr) (hp : p.block ≠ b) (v : Value) : Blk (w.setCell p v) b cs T := by
 unfold Blk World.setCell at *
 simp only [Array.getElem?_modify, if_neg hp]
 exact h
theorem TokRow.set {W : World} {base : Nat} {v : Value} {ts : List Tok} (h : TokRow W base v ts) (p : Addr) (hp : p.block < base) (u : Value) : TokRow (W.setCell p u) base v ts := by
 rcases h with h | ⟨d, c, r, h1, h2, h3, h4, h5⟩
 ·exact .inl h
 ·exact .inr ⟨d, c, r, h1, h2, h3, h4.else1 p (by omega) u, h5⟩

theorem app_tok {ops : Array Oper} {rest : List Oper} {o : Oper} {a : Act} {Q : Exit → Act → World → Prop} (hgd : o.guard = none) (s x : Operand) (ho : o.op = .call { callee := .builtin .append, args := #[s, x], argTypes := #[25, 25] })
  (W : World) (base : Nat) (hbase : base ≤ W.heap.size) (v : Value) (us : List Tok) (row : TokRow W base v us) (hs : a.eval s = v) (hlen : us.length ≤ 5000) (t : Tok) (hx : a.eval x = .slice (some ⟨W.heap.size, 0, none⟩) 1 1)
  (h : ∀ v' w', TokRow w' base v' (us ++ [t]) → (∀ b cs T, b < base → Blk W b cs T → Blk w' b cs T) → Below base W w' → wpList Tryz.prog ops Q rest (a.put o.dst v') w') :
  wpList Tryz.prog ops Q (o :: rest) a (W.alloc (.cells t.cells.toArray 38)) := by
 rcases row with ⟨rfl, rfl⟩ | ⟨d, c, r, rfl, h2, h3, h4, h5⟩
 ·refine wpList_app0 tokElem hgd s x ho W hs t.cells rfl hx (by simp [Tok.cells, Value.oneCell']) ?_
  intro g c r w' kk lg mm qq
  have e : tokCells ([] ++ [t]) = t.cells := by rw [tokCells_snoc]; rfl
  refine h _ w' (.inr ⟨g, c, r, rfl, by omega, by simp, ?_, ?_⟩) (fun b cs T hb k => k.grown qq (fun h => by cases h)) (below_app0 (Below.refl _ _) qq hbase)
  ·rw [e]; exact kk
  ·rw [e]; exact mm
 ·refine wpList_appN tokElem hgd s x ho W d us.length c hs (tokCells us) r h4 h5 (by omega) t.cells rfl hx (by simp [Tok.cells, Value.oneCell']) ?_
  intro g c' r' w' kk lg mm qq
  have hd := h4.lt
  refine h _ w' (.inr ⟨g, c', r', by rw [List.length_append]; rfl, by omega, by simp, ?_, ?_⟩) (fun b cs T hb k => k.grown qq (ne_row (by omega))) (below_appN (Below.refl _ _) qq hbase h2)
  ·rw [tokCells_snoc]; exact kk
  ·rw [tokCells_snoc, List.length_append]; exact mm

def scanV (v : Value) (line col e : Int) : Value := .tuple #[v, .agg #[.int .i64 line, .int .i64 col], .int .i64 e]

set_option maxRecDepth 100000 in
set_option maxHeartbeats 4000000 in
theorem scan_long (S : ByteArray) (w : World) (hs : 65536 < S.size) :
  Calls Tryz.prog 13 #[.string S] w fun e w' => e = .returned (scanV (.slice none 0 0) 0 0 16) ∧ Below w.heap.size w w' := by
 have t1 : decide ((S.size : Int) > 65536) = true := decide_eq_true (by omega)
 have k0 := Blk.fresh w #[.int .i64 0, .int .i64 0] 27
 have b0 := (Below.refl w.heap.size w).alloc (Nat.le_refl _) (.cells #[.int .i64 0, .int .i64 0] 27)
 have K0 := Lib.hid k0
 have B := Lib.hid b0
 clear k0 b0
 go_enter Tryz.func13, Tryz.ntmps13
 go_upto_region 1 with (fail)
 generalize (w.alloc (Obj.cells #[.int .i64 0, .int .i64 0] 27)) = W0 at *
 go_upto_region 2 with (fail)
 have z0 := K0.out.free 0
 have z1 := K0.out.free 1
 have c0 := K0.out.at_ 0 _ rfl
 have c1 := K0.out.at_ 1 _ rfl
 go_wp2
 have R := (K0.out.set 0 (.int .i64 0)).set 1 (.int .i64 0)
 have B1 := (B.out.setCell (p := ⟨w.heap.size, 0, none⟩) (Nat.le_refl _) (.int .i64 0)).setCell (p := ⟨w.heap.size, 1, none⟩) (Nat.le_refl _) (.int .i64 0)
 generalize ((W0.setCell ⟨w.heap.size, 0, none⟩ (.int .i64 0)).setCell ⟨w.heap.size, 1, none⟩ (.int .i64 0)) = W1 at *
 have e0 := R.at_ 0 _ rfl
 have e1 := R.at_ 1 _ rfl
 exact bodyPost_ret (v := scanV (.slice none 0 0) 0 0 16) (by simp [results, Tryz.results13, go_sem, e0, e1, scanV]) rfl ⟨rfl, B1⟩

end Go.Proofs.YtfhmgkicccfghaaGreatDoor
