/- Some numbers more at the end of a slice of the call's own; its bytes as a text. -/
import Derived.Test.YtfhmgkicccfghaaGreatDoorGPlain
import Derived.Test.YtfhmgkicccfghaaGreatDoorApp
import Derived.Laws.BytesArg
namespace Go.Proofs.YtfhmgkicccfghaaGreatDoor
set_option linter.all false
open Go.RowKit

section
variable {P : Program} {w w' : World} {base : Nat} {t e : TypeId} {k : IntKind} {A : Option Addr} {n c bytes : Nat} {l : List Int}
theorem wpList_pushM {ops : Array Oper} {rest : List Oper} {o : Oper} {a : Act} {Q : Exit → Act → World → Prop} (E : IntElem P t e k bytes) (hgd : o.guard = none) (s x : Operand)
  (ho : o.op = .call { callee := .builtin .append, args := #[s, x], argTypes := #[t, t] })
  (base : Nat) (A : Option Addr) (n c : Nat) (l : List Int) (W : World) (hs : a.eval s = .slice A n c) (hown : Own W base e k A n c l) (ys : List Int) (m : Nat) (hm : ys.length = m) (hm0 : 0 < m) (hm1 : m ≤ 10)
  (hx : a.eval x = .slice (some ⟨W.heap.size, 0, none⟩) m m) (h63 : n ≤ 1000000) (hbase : base ≤ W.heap.size)
  (h : ∀ A' c' w', Own w' base e k A' (n + m) c' (l ++ ys) → W.grownBy w' (Value.slice A n c).ownBlock → (Value.slice A' (n + m) c').ownBlock = (Value.slice A n c).ownBlock ∨ (Value.slice A' (n + m) c').ownBlock = some (W.heap.size + 1) → wpList P ops Q rest (a.put o.dst (.slice A' (n + m) c')) w') :
  wpList P ops Q (o :: rest) a (W.alloc (.cells (ys.map (Value.int k)).toArray e)) := by
 obtain ⟨i, hi, hz, hsz, hby⟩ := info_parts E.info
 have hsm := E.small
 have h8 : (n + m) * bytes ≤ (n + m) * 8 := Nat.mul_le_mul_left _ hsm
 refine wpList_append_own_at _ hgd s x t ho base e i (.int k 0) 1 bytes E.ht hi hz hsz hby rfl (by decide) (.slice A n c) n _ hs (hown.2.alloc _) ⟨W.heap.size, 0, none⟩ m m (ys.map (Value.int k)) hx (by simp [hm]) (cells_new W _ e) (by intro u hu; obtain ⟨z, _, rfl⟩ := List.mem_map.1 hu; rfl)
  (by simp only [maxLen]; omega) (by omega) (by simp; omega) ?_
 intro v' w' h1 h2 _ h5
 have h3 : w'.ownsRow base e 1 v' (n + m) ((l ++ ys).map (Value.int k)) := by simpa using h1
 have h4 : ∃ A' c', v' = .slice A' (n + m) c' := by
  rcases h3.2 with ⟨_, hn⟩ | ⟨g, cap, cur, hv, _⟩
  ·omega
  ·exact ⟨_, _, hv⟩
 obtain ⟨A', c', rfl⟩ := h4
 refine h A' c' w' ⟨by simp [hown.1, hm], h3⟩ ?_ (by simpa using h5)
 refine ⟨h2.os, h2.tape, h2.output, Nat.le_trans (by simp) h2.size, fun g hg hne => ?_⟩
 exact (h2.block g (by simp; omega) hne).trans (Below.heap_alloc W _ g hg)
theorem Own.text {src dst : TypeId} (h : Own w base e .u8 A n c l) (hs : P.underlying src = some (.slice e)) (he : P.underlying e = some (.int .u8)) (hd : P.underlying dst = some .string) (m c' : Nat) (hm : m ≤ n) (h0 : 0 < m) :
  (convert src dst (.slice A m c')).run P w = .ok (.string (strOfNums (l.take m))) w := by
 have hsl := h.sl
 have hl := h.len
 obtain ⟨b, o, rfl, hb, hc⟩ := hsl.at_ (by omega)
 refine run_convert_bytes_arg w src e hs he b o m c' (l.take m) (by rw [List.length_take]; omega) (fun i hi => ?_) dst hd
 rw [hc i (by omega), List.getD_eq_getElem?_getD, List.getElem?_take_of_lt hi]
end

end Go.Proofs.YtfhmgkicccfghaaGreatDoor
