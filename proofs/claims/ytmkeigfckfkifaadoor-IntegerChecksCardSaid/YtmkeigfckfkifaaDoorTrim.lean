/- The walk of integer.trim: zeros at the end are left out, nothing is written. -/
import Derived.Test.YtmkeigfckfkifaaDoorProg
import Derived.Test.YtmkeigfckfkifaaDoorNum
namespace Go.Proofs.YtmkeigfckfkifaaDoor
open Go.RowKit

set_option maxHeartbeats 400000 in
theorem trim_any (A : Option Addr) (c : Nat) (l : List Int) (w : World) (h : Sl w .u64 A c l) (hlen : l.length ≤ 65536) :
    Calls Tryd.prog 62 #[.slice A l.length c] w fun e w' => e = .returned (.slice A (trimL l).length c) ∧ w = w' := by
  have hcap := h.cap
  go_enter Tryd.func62, Tryd.ntmps62
  go_wp2
  go_loop [0] (fun p => ∃ n : Nat, n ≤ l.length ∧ p = .slice A n c ∧ trimL (l.take n) = trimL l) (fun p => lenOf p)
  case atStart => exact ⟨l.length, Nat.le_refl _, rfl, by rw [List.take_length]⟩
  case round =>
    obtain ⟨n, hn, rfl, ht⟩ := hrel
    have HT := Lib.hid ht
    clear ht
    rcases Nat.eq_zero_or_pos n with rfl | hpos
    · go_wp2
      go_ret
      have h1 := HT.out
      rw [List.take_zero] at h1
      rw [← h1]
      exact ⟨rfl, rfl⟩
    · obtain ⟨b, o, rfl, hb, hc⟩ := h.at_ (by omega)
      have hc1 := hc (n - 1) (by omega)
      clear hc h hb
      by_cases hz : l[n - 1]?.getD 0 = 0
      · rw [hz] at hc1
        have Hz := Lib.hid hz
        clear hz
        go_wp2
        go_round
        case rel =>
          refine ⟨n - 1, by omega, rfl, ?_⟩
          rw [← HT.out, ← trimL_of_zero l (n - 1) (by omega) Hz.out, show n - 1 + 1 = n from by omega]
        case measure => simp [lenOf]; omega
      · have hT : trimL l = l.take n := by
          rw [← HT.out]
          refine trimL_of_last _ (by simp; omega) ?_
          rw [List.getElem?_take, if_pos (by simp; omega)]
          simpa [Nat.min_eq_left hn] using hz
        have HL : Hid ((trimL l).length = n) := by rw [hT]; simp [Hid, Nat.min_eq_left hn]
        clear hT
        go_wp2
        go_ret
        rw [HL.out]
        exact ⟨rfl, rfl⟩

/-- The pieces of nine digits of a number. -/
def lim9 (n : Nat) : List Int := lim 1000000000 n

theorem lim9_val (n : Nat) : valB 1000000000 (lim9 n) = n := lim_val 1000000000 (by omega) n
theorem lim9_digs (n : Nat) : Digs 1000000000 (lim9 n) := lim_digs 1000000000 (by omega) n
theorem trim_eq9 (l : List Int) (n : Nat) (hd : Digs 1000000000 l) (hv : valB 1000000000 l = n) : trimL l = lim9 n := trim_eq_lim 1000000000 (by omega) l n hd hv
theorem at9 (n j : Nat) : 0 ≤ (lim9 n)[j]?.getD 0 ∧ (lim9 n)[j]?.getD 0 < 1000000000 := (lim9_digs n).at_ (by omega) j

theorem Elem64 : IntElem Tryd.prog 54 72 .u64 8 := ⟨Tryd.underlying54, by kernel_rfl, by omega⟩

/-- 'append(out, x)' at a slice of pieces of the call's own. -/
theorem push64 {ops : Array Oper} {rest : List Oper} {o : Oper} {a : Act} {Q : Exit → Act → World → Prop} (hgd : o.guard = none) (s x : Operand)
    (ho : o.op = .call { callee := .builtin .append, args := #[s, x], argTypes := #[54, 54] })
    (base : Nat) (A : Option Addr) (n c : Nat) (l : List Int) (W : World) (hs : a.eval s = .slice A n c) (hown : Own W base 72 .u64 A n c l) (y : Int)
    (hx : a.eval x = .slice (some ⟨W.heap.size, 0, none⟩) 1 1) (h63 : n ≤ 1000000) (hbase : base ≤ W.heap.size)
    (h : ∀ A' c' w', Own w' base 72 .u64 A' (n + 1) c' (l ++ [y]) → W.grownBy w' (Value.slice A n c).ownBlock → wpList Tryd.prog ops Q rest (a.put o.dst (.slice A' (n + 1) c')) w') :
    wpList Tryd.prog ops Q (o :: rest) a (W.alloc (.cells #[.int .u64 y] 72)) :=
  wpList_push Elem64 hgd s x ho base A n c l W hs hown y hx h63 hbase h

/-- trim at a list of pieces whose value is known. -/
theorem trim_to (A : Option Addr) (c n m : Nat) (l : List Int) (w : World) (h : Sl w .u64 A c l) (hn : l.length = n) (hlen : n ≤ 65536) (hd : Digs 1000000000 l) (hv : valB 1000000000 l = m) :
    Calls Tryd.prog 62 #[.slice A n c] w fun e w' => e = .returned (.slice A (lim9 m).length c) ∧ w = w' := by
  subst hn
  have h1 := trim_any A c l w h hlen
  rw [trim_eq9 l m hd hv] at h1
  exact h1

theorem Sl.to9 {w : World} {A : Option Addr} {c m : Nat} {l : List Int} (h : Sl w .u64 A c l) (hd : Digs 1000000000 l) (hv : valB 1000000000 l = m) : Sl w .u64 A c (lim9 m) := by
  rw [← trim_eq9 l m hd hv]; exact h.trim

end Go.Proofs.YtmkeigfckfkifaaDoor
