/- Rows of tokens, and lexer.Scan at texts that are too long. -/
import Derived.Test.YtfhmgkicccfghaaGreatDoorLexWD
import Derived.Test.YtfhmgkicccfghaaGreatDoorApp
namespace Go.Proofs.YtfhmgkicccfghaaGreatDoor
set_option linter.all false
open Go.RowKit

theorem tokElem : StrElem Tryz.prog 25 38 5 56 := ⟨by kernel_rfl, by kernel_rfl, by decide, by decide⟩
def Tok.cells (t : Tok) : List Value := [.int .i64 t.kind, .string ⟨t.text.toArray⟩, .string ⟨t.value.toArray⟩, .int .i64 t.line, .int .i64 t.col]
def tokCells (ts : List Tok) : List Value := ts.flatMap Tok.cells
theorem tokCells_snoc (ts : List Tok) (t : Tok) : tokCells (ts ++ [t]) = tokCells ts ++ t.cells := by simp [tokCells]
theorem tokCells_len : ∀ ts : List Tok, (tokCells ts).length = ts.length * 5
 | [] => rfl
 | t :: ts => by
  have h := tokCells_len ts
  unfold tokCells at h ⊢
  rw [List.flatMap_cons, List.length_append, h]
  simp [Tok.cells]
  omega
def TokRow (W : World) (base : Nat) (v : Value) (ts : List Tok) : Prop :=
 (ts = [] ∧ v = .slice none 0 0) ∨ ∃ d c r, v = .slice (some ⟨d, 0, none⟩) ts.length c ∧ base ≤ d ∧ ts ≠ [] ∧ Blk W d (tokCells ts ++ r).toArray 38 ∧ Room ts.length c 5 (tokCells ts) r
theorem TokRow.nil (W : World) (base : Nat) : TokRow W base (.slice none 0 0) [] := .inl ⟨rfl, rfl⟩
theorem TokRow.below {W W' : World} {base : Nat} {v : Value} {ts : List Tok} (h : TokRow W base v ts) (q : Below W.heap.size W W') : TokRow W' base v ts := by
 rcases h with h | ⟨d, c, r, h1, h2, h3, h4, h5⟩
 ·exact .inl h
 ·exact .inr ⟨d, c, r, h1, h2, h3, h4.below q, h5⟩
theorem TokRow.len_eval {W : World} {base : Nat} {v : Value} {ts : List Tok} (h : TokRow W base v ts) : ∃ a c, v = .slice a ts.length c := by
 rcases h with ⟨rfl, rfl⟩ | ⟨d, c, r, h1, _⟩
 ·exact ⟨none, 0, rfl⟩
 ·exact ⟨_, _, h1⟩
theorem Blk.else1 {w : World} {b : Nat} {cs : Array Value} {T : TypeId} (h : Blk w b cs T) (p : Addr) (hp : p.block ≠ b) (v : Value) : Blk (w.setCell p v) b cs T := by
 unfold Blk World.setCell at *
 simp only [Array.getElem?_modify, if_neg hp]
 exact h
theorem TokRow.set {W : World} {base : Nat} {v : Value} {ts : List Tok} (h : TokRow W base v ts) (p : Addr) (hp : p.block < base) (u : Value) : TokRow (W.setCell p u) base v ts := by
 rcases h with h | ⟨d, c, r, h1, h2, h3, h4, h5⟩
 ·exact .inl h
 ·exact .inr ⟨d, c, r, h1, h2, h3, h4.else1 p (by omega) u, h5⟩

theorem app_tok {ops : Array Oper} {rest : List Oper} {o : Oper} {a : Act} {Q : Exit → Act → World → Prop} (hgd : o.guard = none) (s x : Operand) (ho : o.op = .call { callee := .builtin .append, args := #[s, x], argTypes := #[25, 25] })
  (W : World) (base : Nat) (hbase : base ≤ W.heap.size) (v : Value) (us : List Tok) (row : TokRow W base v us) (hs : a.eval s = v) (hlen : us.length ≤ 5000) (t : Tok) (hx : a.eval x = .slice (some ⟨W.heap.size, 0, none⟩) 1 1)
  (h : ∀ v' w', TokRow w' base v' (us ++ [t]) → (∀ b cs T, b < base → Blk W b cs T → Blk w' b cs T) → Below base W w' → wpList Tryz.prog ops Q rest (a.put o.dst v') w') :
  wpList Tryz.prog ops Q (o :: rest) a (W.alloc (.cells t.cells.toArray 38)) := by
 rcases row with ⟨rfl, rfl⟩ | ⟨d, c, r, rfl, h2, h3, h4, h5⟩
 ·refine wpList_app0 tokElem hgd s x ho W hs t.cells rfl hx (by simp [Tok.cells, Value.oneCell']) ?_
  intro g c r w' kk lg mm qq
  have e : tokCells ([] ++ [t]) = t.cells := by rw [tokCells_snoc]; rfl
  refine h _ w' (.inr ⟨g, c, r, rfl, by omega, by simp, ?_, ?_⟩) (fun b cs T hb k => k.grown qq (fun h => by cases h)) (below_app0 (Below.refl _ _) qq hbase)
  ·rw [e]; exact kk
  ·rw [e]; exact mm
 ·refine wpList_appN tokElem hgd s x ho W d us.length c hs (tokCells us) r h4 h5 (by omega) t.cells rfl hx (by simp [Tok.cells, Value.oneCell']) ?_
  intro g c' r' w' kk lg mm qq
  have hd := h4.lt
  refine h _ w' (.inr ⟨g, c', r', by rw [List.length_append]; rfl, by omega, by simp, ?_, ?_⟩) (fun b cs T hb k => k.grown qq (ne_row (by omega))) (below_appN (Below.refl _ _) qq hbase h2)
  ·rw [tokCells_snoc]; exact kk
  ·rw [tokCells_snoc, List.length_append]; exact mm

def scanV (v : Value) (line col e : Int) : Value := .tuple #[v, .agg #[.int .i64 line, .int .i64 col], .int .i64 e]

end Go.Proofs.YtfhmgkicccfghaaGreatDoor
