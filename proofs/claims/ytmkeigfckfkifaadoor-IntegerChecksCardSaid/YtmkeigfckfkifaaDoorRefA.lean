/- The walk of klipperef01.cut: pieces of four digits. -/
import Derived.Test.YtmkeigfckfkifaaDoorProg
import Derived.Test.YtmkeigfckfkifaaDoorRefN
import Derived.Test.YtmkeigfckfkifaaDoorTrim
namespace Go.Proofs.YtmkeigfckfkifaaDoor
open Go.RowKit

set_option maxHeartbeats 400000 in
theorem cut_any (A : Option Addr) (c : Nat) (l : List Int) (w : World) (h : Sl w .i64 A c l) (hlen : l.length ≤ 65536) :
    Calls Tryd.prog 68 #[.slice A l.length c] w fun e w' => e = .returned (.slice A (trimL l).length c) ∧ w = w' := by
  have hcap := h.cap
  go_enter Tryd.func68, Tryd.ntmps68
  go_wp2
  go_loop [0] (fun p => ∃ n : Nat, n ≤ l.length ∧ p = .slice A n c ∧ trimL (l.take n) = trimL l) (fun p => lenOf p)
  case atStart => exact ⟨l.length, Nat.le_refl _, rfl, by rw [List.take_length]⟩
  case round =>
    obtain ⟨n, hn, rfl, ht⟩ := hrel
    have HT := Lib.hid ht
    clear ht
    rcases Nat.eq_zero_or_pos n with rfl | hpos
    · go_wp2
      go_ret
      have h1 := HT.out
      rw [List.take_zero] at h1
      rw [← h1]
      exact ⟨rfl, rfl⟩
    · obtain ⟨b, o, rfl, hb, hc⟩ := h.at_ (by omega)
      have hc1 := hc (n - 1) (by omega)
      clear hc h hb
      by_cases hz : l[n - 1]?.getD 0 = 0
      · rw [hz] at hc1
        have Hz := Lib.hid hz
        clear hz
        go_wp2
        go_round
        case rel =>
          refine ⟨n - 1, by omega, rfl, ?_⟩
          rw [← HT.out, ← trimL_of_zero l (n - 1) (by omega) Hz.out, show n - 1 + 1 = n from by omega]
        case measure => simp [lenOf]; omega
      · have hT : trimL l = l.take n := by
          rw [← HT.out]
          refine trimL_of_last _ (by simp; omega) ?_
          rw [List.getElem?_take, if_pos (by simp; omega)]
          simpa [Nat.min_eq_left hn] using hz
        have HL : Hid ((trimL l).length = n) := by rw [hT]; simp [Hid, Nat.min_eq_left hn]
        clear hT
        go_wp2
        go_ret
        rw [HL.out]
        exact ⟨rfl, rfl⟩


theorem cut_to (A : Option Addr) (c n m : Nat) (l : List Int) (w : World) (h : Sl w .i64 A c l) (hn : l.length = n) (hlen : n ≤ 65536) (hd : Digs 10000 l) (hv : valB 10000 l = m) :
    Calls Tryd.prog 68 #[.slice A n c] w fun e w' => e = .returned (.slice A (lim4 m).length c) ∧ w = w' := by
  subst hn
  have h1 := cut_any A c l w h hlen
  rw [trim_eq4 l m hd hv] at h1
  exact h1

theorem cut_lim (A : Option Addr) (c m : Nat) (w : World) (h : Sl w .i64 A c (lim4 m)) (hlen : (lim4 m).length ≤ 65536) :
    Calls Tryd.prog 68 #[.slice A (lim4 m).length c] w fun e w' => e = .returned (.slice A (lim4 m).length c) ∧ w = w' := 
  cut_to A c _ m (lim4 m) w h rfl hlen (lim4_digs m) (lim4_val m)

/-- A nil slice of the call's own has no room. -/
theorem Own.none_cap {w : World} {base n c : Nat} {e : TypeId} {k : IntKind} {A : Option Addr} {l : List Int} (h : Own w base e k A n c l) : A = none → c = 0 := by
  intro hA
  rcases h.form with ⟨_, _, hc⟩ | ⟨g, cur, rfl, _⟩
  · exact hc
  · cases hA

theorem Elem01 : IntElem Tryd.prog 63 3 .i64 8 := ⟨Tryd.underlying63, by kernel_rfl, by omega⟩

/-- 'append(out, x)' at a slice of ints of the call's own. -/
theorem pushI {ops : Array Oper} {rest : List Oper} {o : Oper} {a : Act} {Q : Exit → Act → World → Prop} (hgd : o.guard = none) (s x : Operand)
    (ho : o.op = .call { callee := .builtin .append, args := #[s, x], argTypes := #[63, 63] })
    (base : Nat) (A : Option Addr) (n c : Nat) (l : List Int) (W : World) (hs : a.eval s = .slice A n c) (hown : Own W base 3 .i64 A n c l) (y : Int)
    (hx : a.eval x = .slice (some ⟨W.heap.size, 0, none⟩) 1 1) (h63 : n ≤ 1000000) (hbase : base ≤ W.heap.size)
    (h : ∀ A' c' w', Own w' base 3 .i64 A' (n + 1) c' (l ++ [y]) → W.grownBy w' (Value.slice A n c).ownBlock → wpList Tryd.prog ops Q rest (a.put o.dst (.slice A' (n + 1) c')) w') :
    wpList Tryd.prog ops Q (o :: rest) a (W.alloc (.cells #[.int .i64 y] 3)) :=
  wpList_push Elem01 hgd s x ho base A n c l W hs hown y hx h63 hbase h

end Go.Proofs.YtmkeigfckfkifaaDoor
