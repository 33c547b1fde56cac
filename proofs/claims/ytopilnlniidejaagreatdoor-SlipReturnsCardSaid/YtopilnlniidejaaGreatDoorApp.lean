/- One element more at the end of a slice of the call's own, by blocks. No program in sight. -/
import Derived.Test.YtopilnlniidejaaGreatDoorGPar
import Derived.Maps.AppendAt
namespace Go.Proofs.YtopilnlniidejaaGreatDoor
set_option linter.all false
open Go.RowKit

structure StrElem (P : Program) (t e : TypeId) (sz bytes : Nat) : Prop where
 ht : P.underlying t = some (.slice e)
 info : (P.info? e).map (fun i => (i.zero.map (fun z => z.cells.size), i.size, i.bytes)) = some (some sz, sz, bytes)
 pos : 0 < sz
 small : bytes ≤ 1000

structure Room (n c sz : Nat) (l r : List Value) : Prop where
 len : l.length = n * sz
 all : (l ++ r).length = c * sz
 le : n ≤ c
 max : c ≤ maxLen

theorem Blk.atL {w : World} {b : Nat} {l : List Value} {T : TypeId} (h : Blk w b l.toArray T) (j : Nat) (v : Value) (hv : l[j]? = some v) : w.cell? ⟨b, j, none⟩ = some v := h.at_ j v (by simpa using hv)
theorem Blk.grown {w w' : World} {b : Nat} {cs : Array Value} {T : TypeId} {row : Option Nat} (h : Blk w b cs T) (q : w.grownBy w' row) (hne : row ≠ some b) : Blk w' b cs T := (q.block b h.lt (Ne.symm hne)).trans h
theorem StrElem.parts {P : Program} {t e : TypeId} {sz bytes : Nat} (E : StrElem P t e sz bytes) : ∃ i z, P.info? e = some i ∧ i.zero = some z ∧ z.cells.size = sz ∧ i.size = sz ∧ i.bytes = bytes := by
 have h := E.info
 cases hi : P.info? e with
 | none => rw [hi] at h; cases h
 | some i =>
  rw [hi] at h
  simp only [Option.map_some, Option.some.injEq, Prod.mk.injEq] at h
  cases hz : i.zero with
  | none => rw [hz] at h; simp at h
  | some z =>
   rw [hz] at h
   simp at h
   exact ⟨i, z, rfl, hz, h.1, h.2.1, h.2.2⟩
section
variable {P : Program} {t e : TypeId} {sz bytes : Nat} {ops : Array Oper} {rest : List Oper} {o : Oper} {a : Act} {Q : Exit → Act → World → Prop}
end

theorem below_app0 {W w0 w' : World} {B : Nat} (h : Below B w0 W) (q : W.grownBy w' none) (hB : B ≤ W.heap.size) : Below B w0 w' := h.grown q hB (fun k hk => by cases hk)
theorem below_appN {W w0 w' : World} {B b : Nat} (h : Below B w0 W) (q : W.grownBy w' (some b)) (hB : B ≤ W.heap.size) (hb : B ≤ b) : Below B w0 w' := h.grown q hB (fun k hk => by injection hk with hk; omega)

theorem ne_app {k b g n : Nat} (h : k ≠ b) (h1 : k < n) (h2 : g = b ∨ n ≤ g) : k ≠ g := by omega
theorem le_app {m n b g : Nat} (h : m ≤ n) (h1 : m ≤ b) (h2 : g = b ∨ n ≤ g) : m ≤ g := by omega
theorem ne_row {k b : Nat} (h : k ≠ b) : some b ≠ some k := fun e => h (Option.some.inj e).symm

end Go.Proofs.YtopilnlniidejaaGreatDoor
