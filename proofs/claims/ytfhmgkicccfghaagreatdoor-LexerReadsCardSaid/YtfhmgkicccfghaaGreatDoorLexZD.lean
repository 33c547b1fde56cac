/- Readers without tokens. -/
import Derived.Test.YtfhmgkicccfghaaGreatDoorLexZB
namespace Go.Proofs.YtfhmgkicccfghaaGreatDoor
set_option linter.all false
open Go.RowKit

structure Void (w : World) (p : Value) (k : Int) (S : ByteArray) : Prop where
 peek : ∀ W, Below w.heap.size w W → Calls Tryz.prog 18 #[p] W fun e w' => e = .returned (.tuple #[.agg #[.int .i64 0, .string ⟨#[]⟩, .string ⟨#[]⟩, .int .i64 0, .int .i64 0], .bool false]) ∧ Below W.heap.size W w'
 next : ∀ W, Below w.heap.size w W → Calls Tryz.prog 22 #[p] W fun e w' => e = .returned (.tuple #[.agg #[.int .i64 0, .string ⟨#[]⟩, .string ⟨#[]⟩, .int .i64 0, .int .i64 0], .bool false]) ∧ Below W.heap.size W w'
 take : ∀ W, Below w.heap.size w W → Calls Tryz.prog 23 #[p, .int .i64 k] W fun e w' => e = .returned (.tuple #[.agg #[.int .i64 0, .string ⟨#[]⟩, .string ⟨#[]⟩, .int .i64 0, .int .i64 0], .bool false]) ∧ Below W.heap.size W w'
 accept : ∀ W, Below w.heap.size w W → Calls Tryz.prog 25 #[p, .string S] W fun e w' => e = .returned (.bool false) ∧ Below W.heap.size W w'
 rest : ∀ W, Below w.heap.size w W → Calls Tryz.prog 26 #[p] W fun e w' => e = .returned (.slice none 0 0) ∧ Below W.heap.size W w'
 pos : ∀ W, Below w.heap.size w W → Calls Tryz.prog 19 #[p] W fun e w' => e = .returned (.int .i64 0) ∧ Below W.heap.size W w'
 at_ : ∀ W, Below w.heap.size w W → Calls Tryz.prog 20 #[p] W fun e w' => e = .returned (.agg #[.int .i64 0, .int .i64 0]) ∧ Below W.heap.size W w'
 back : ∀ W, Below w.heap.size w W → Calls Tryz.prog 27 #[p, .int .i64 1] W fun e w' => e = .returned (.bool false) ∧ Below W.heap.size W w'
theorem void_nil (w : World) (k : Int) (S : ByteArray) : Void w (.pointer none) k S where
 peek := fun W _ => peek_nil W
 next := fun W _ => rnext_end _ W (fun V _ => peek_nil V)
 take := fun W _ => rtake_end _ k W (fun V _ => peek_nil V)
 accept := fun W _ => raccept_end _ S W (fun V _ => peek_nil V)
 rest := fun W _ => rest_nil _ W (fun V _ => peek_nil V)
 pos := fun W _ => pos_nil W
 at_ := fun W _ => at_nil W
 back := fun W _ => back_nil 1 W
theorem void_rd {w : World} {b : Nat} {s : Value} (h : Rd w b s 0 []) (k : Int) (S : ByteArray) : Void w (.pointer (some ⟨b, 0, none⟩)) k S :=
 have pk : ∀ W, Below w.heap.size w W → ∀ V, Below W.heap.size W V → Calls Tryz.prog 18 #[ptrV b] V fun e w' => e = .returned (.tuple #[tokV Tok.zero, .bool false]) ∧ Below V.heap.size V w' := fun W hW V hV => peek_end b s 0 [] V ((h.below hW).below hV) (Nat.le_refl _)
 ⟨fun W hW => peek_end b s 0 [] W (h.below hW) (Nat.le_refl _),
  fun W hW => rnext_end _ W (pk W hW),
  fun W hW => rtake_end _ k W (pk W hW),
  fun W hW => raccept_end _ S W (pk W hW),
  fun W hW => rest_nil _ W (pk W hW),
  fun W hW => pos_any b s 0 W (h.below hW).r,
  fun W hW => at_none b 0 s W (h.below hW),
  fun W hW => back_no b s 0 1 W (h.below hW).r (.inr (by decide))⟩

end Go.Proofs.YtfhmgkicccfghaaGreatDoor
