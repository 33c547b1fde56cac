/- The walks of the reference on pieces of four digits. -/
import Derived.Test.YtnallacamijkeaaGreatDoorProg
import Derived.Test.YtnallacamijkeaaGreatDoorGPlain
import Derived.Test.YtnallacamijkeaaGreatDoorGMag
import Derived.Test.YtnallacamijkeaaGreatDoorGText
import Derived.BigRegion
import Derived.Deep.QuietTactic
import Derived.BigQuiet
/- The walk of klipperef01.cut: pieces of four digits. -/
namespace Go.Proofs.YtnallacamijkeaaGreatDoor
set_option linter.all false
open Go.RowKit

set_option maxHeartbeats 400000 in
theorem cut_any (A : Option Addr) (c : Nat) (l : List Int) (w : World) (h : Sl w .i64 A c l) (hlen : l.length ≤ 65536) :
  Calls Tryz.prog 102 #[.slice A l.length c] w fun e w' => e = .returned (.slice A (trimL l).length c) ∧ w = w' := by
 have hcap := h.cap
 go_enter Tryz.func102, Tryz.ntmps102
 go_wp2
 go_loop [0] (fun p => ∃ n : Nat, n ≤ l.length ∧ p = .slice A n c ∧ trimL (l.take n) = trimL l) (fun p => lenOf p)
 case atStart => exact ⟨l.length, Nat.le_refl _, rfl, by rw [List.take_length]⟩
 case round =>
  obtain ⟨n, hn, rfl, ht⟩ := hrel
  have HT := Lib.hid ht
  clear ht
  rcases Nat.eq_zero_or_pos n with rfl | hpos
  ·go_wp2
   go_ret
   have h1 := HT.out
   rw [List.take_zero] at h1
   rw [← h1]
   exact ⟨rfl, rfl⟩
  ·obtain ⟨b, o, rfl, hb, hc⟩ := h.at_ (by omega)
   have hc1 := hc (n - 1) (by omega)
   clear hc h hb
   by_cases hz : l[n - 1]?.getD 0 = 0
   ·rw [hz] at hc1
    have Hz := Lib.hid hz
    clear hz
    go_wp2
    go_round
    case rel =>
     refine ⟨n - 1, by omega, rfl, ?_⟩
     rw [← HT.out, ← trimL_of_zero l (n - 1) (by omega) Hz.out, show n - 1 + 1 = n from by omega]
    case measure => simp [lenOf]; omega
   ·have hT : trimL l = l.take n := by
     rw [← HT.out]
     refine trimL_of_last _ (by simp; omega) ?_
     rw [List.getElem?_take, if_pos (by simp; omega)]
     simpa [Nat.min_eq_left hn] using hz
    have HL : Hid ((trimL l).length = n) := by rw [hT]; simp [Hid, Nat.min_eq_left hn]
    clear hT
    go_wp2
    go_ret
    rw [HL.out]
    exact ⟨rfl, rfl⟩


theorem cut_to (A : Option Addr) (c n m : Nat) (l : List Int) (w : World) (h : Sl w .i64 A c l) (hn : l.length = n) (hlen : n ≤ 65536) (hd : Digs 10000 l) (hv : valB 10000 l = m) :
  Calls Tryz.prog 102 #[.slice A n c] w fun e w' => e = .returned (.slice A (lim4 m).length c) ∧ w = w' := by
 subst hn
 have h1 := cut_any A c l w h hlen
 rw [trim_eq4 l m hd hv] at h1
 exact h1

theorem cut_lim (A : Option Addr) (c m : Nat) (w : World) (h : Sl w .i64 A c (lim4 m)) (hlen : (lim4 m).length ≤ 65536) :
  Calls Tryz.prog 102 #[.slice A (lim4 m).length c] w fun e w' => e = .returned (.slice A (lim4 m).length c) ∧ w = w' := 
 cut_to A c _ m (lim4 m) w h rfl hlen (lim4_digs m) (lim4_val m)

theorem Own.none_cap {w : World} {base n c : Nat} {e : TypeId} {k : IntKind} {A : Option Addr} {l : List Int} (h : Own w base e k A n c l) : A = none → c = 0 := by
 intro hA
 rcases h.form with ⟨_, _, hc⟩ | ⟨g, cur, rfl, _⟩
 ·exact hc
 ·cases hA

theorem Elem01 : IntElem Tryz.prog 99 3 .i64 8 := ⟨Tryz.underlying99, by kernel_rfl, by omega⟩

theorem pushI {ops : Array Oper} {rest : List Oper} {o : Oper} {a : Act} {Q : Exit → Act → World → Prop} (hgd : o.guard = none) (s x : Operand)
  (ho : o.op = .call { callee := .builtin .append, args := #[s, x], argTypes := #[99, 99] })
  (base : Nat) (A : Option Addr) (n c : Nat) (l : List Int) (W : World) (hs : a.eval s = .slice A n c) (hown : Own W base 3 .i64 A n c l) (y : Int)
  (hx : a.eval x = .slice (some ⟨W.heap.size, 0, none⟩) 1 1) (h63 : n ≤ 1000000) (hbase : base ≤ W.heap.size)
  (h : ∀ A' c' w', Own w' base 3 .i64 A' (n + 1) c' (l ++ [y]) → W.grownBy w' (Value.slice A n c).ownBlock → wpList Tryz.prog ops Q rest (a.put o.dst (.slice A' (n + 1) c')) w') :
  wpList Tryz.prog ops Q (o :: rest) a (W.alloc (.cells #[.int .i64 y] 3)) :=
 wpList_push Elem01 hgd s x ho base A n c l W hs hown y hx h63 hbase h

end Go.Proofs.YtnallacamijkeaaGreatDoor

/- The walk of klipperef01.carry: all pieces come into their range. -/
namespace Go.Proofs.YtnallacamijkeaaGreatDoor
open Go.RowKit

set_option maxHeartbeats 2000000 in
theorem carry_own (A : Option Addr) (c n : Nat) (p : List Int) (w : World) (h : Sl w .i64 A c p) (hlen : p.length ≤ 60000) (hm : Mod 1000000000000000 p) (hv : valB 10000 p = n) :
  Calls Tryz.prog 104 #[.slice A p.length c] w fun e w' => ∃ A c, e = .returned (.slice A (lim4 n).length c) ∧ Sl w' .i64 A c (lim4 n) ∧ Below w.heap.size w w' ∧ (A = none → c = 0) := by
 have HM := Lib.hid hm
 have HV := Lib.hid hv
 clear hm hv
 go_enter Tryz.func104, Tryz.ntmps104
 go_wp2
 go_loopw [3, 4, 5] (fun v cy i wr => ∃ (j : Nat) (cv : Int) (out : List Int) (Ao : Option Addr) (co : Nat), j ≤ p.length + 4 ∧ i = .int .i64 j ∧ cy = .int .i64 cv ∧ v = .slice Ao j co ∧ -1000000000000000 ≤ cv ∧ cv ≤ 1000000000000000 ∧
   Own wr w.heap.size 3 .i64 Ao j co out ∧ Below w.heap.size w wr ∧ CarR p j cv out) (fun _ _ i _ => p.length + 4 - (intOf i).toNat)
 case atStart => exact ⟨0, 0, [], none, 0, Nat.zero_le _, rfl, rfl, rfl, by omega, by omega, Own.nil_ _ _ _ _, Below.refl _ _, carR_start p⟩
 case round =>
  obtain ⟨j, cv, out, Ao, co, hj, rfl, rfl, rfl, h0, h1, hown, hbel, hinv⟩ := hrel
  have HI := Lib.hid hinv
  have HO := Lib.hid hown
  have HB := Lib.hid hbel
  have hbs := hbel.size
  clear hinv hown hbel
  by_cases hlt : j < p.length
  ·have hx1 := h.below HB.out
   obtain ⟨bx, ox, rfl, hbx, hcx⟩ := hx1.at_ (by omega)
   have gx := hcx j hlt
   have bx1 := (HM.out.at_ (by omega) j).1
   have bx2 := (HM.out.at_ (by omega) j).2
   have HS := Lib.hid (carR_in HI.out hlt rfl)
   clear hcx hx1 h
   generalize hxx : p[j]?.getD 0 = xx at *
   clear hxx
   by_cases hneg : cv + xx < 0
   ·obtain ⟨e1, e2, e3, e4⟩ := tmod_neg hneg
    obtain ⟨m, hm⟩ : ∃ m, (cv + xx).tmod 10000 = m := ⟨_, rfl⟩
    rw [hm] at e1 e2 e3 e4
    by_cases hz : m = 0
    ·subst hz
     have e3' := e3 rfl
     have hq : (cv + xx).tdiv 10000 = (cv + xx) / 10000 := by
      obtain ⟨q, hq⟩ : ∃ q, cv + xx = 10000 * q := ⟨(cv + xx) / 10000, by omega⟩
      rw [hq, tdiv_exact]; omega
     rw [e3'] at HS
     obtain ⟨q, hq'⟩ : ∃ q, (cv + xx) / 10000 = q := ⟨_, rfl⟩
     rw [hq'] at hq HS
     have hq1 : -1000000000000000 ≤ q := by omega
     have hq2 : q ≤ 1000000000000000 := by omega
     clear hq' e3 e4 e3'
     go_wp2_with (at_builtin; refine pushI rfl (.tmp 33) (.tmp 35) rfl w.heap.size Ao j co out wr rfl HO.out 0 rfl (by omega) hbs ?_; intro A' c' w' hown' hg'; have HO' := Lib.hid hown'; have HG' := Lib.hid hg'; clear hown' hg')
     go_roundw
     case rel => exact ⟨j + 1, _, _, A', c', by omega, by go_num, rfl, rfl, by omega, by omega, HO'.out, HO.out.grownBelow HG'.out HB.out (Nat.le_refl _) hbs, HS.out⟩
     case measure => simp [intOf]; omega
    ·have e4' := e4 hz
     have hm0 : m < 0 := by omega
     have hq : (cv + xx - (m + 10000)).tdiv 10000 = (cv + xx) / 10000 := by
      obtain ⟨q, hq⟩ : ∃ q, cv + xx - (m + 10000) = 10000 * q := ⟨(cv + xx) / 10000, by omega⟩
      rw [hq, tdiv_exact]; omega
     rw [e4'] at HS
     obtain ⟨q, hq'⟩ : ∃ q, (cv + xx) / 10000 = q := ⟨_, rfl⟩
     rw [hq'] at hq HS
     have hq1 : -1000000000000000 ≤ q := by omega
     have hq2 : q ≤ 1000000000000000 := by omega
     clear hq' e3 e4 e4'
     go_wp2_with (at_builtin; refine pushI rfl (.tmp 33) (.tmp 35) rfl w.heap.size Ao j co out wr rfl HO.out (m + 10000) rfl (by omega) hbs ?_; intro A' c' w' hown' hg'; have HO' := Lib.hid hown'; have HG' := Lib.hid hg'; clear hown' hg')
     go_roundw
     case rel => exact ⟨j + 1, _, _, A', c', by omega, by go_num, rfl, rfl, by omega, by omega, HO'.out, HO.out.grownBelow HG'.out HB.out (Nat.le_refl _) hbs, HS.out⟩
     case measure => simp [intOf]; omega
   ·have hnn : 0 ≤ cv + xx := by omega
    have hr0 : 0 ≤ (cv + xx) % 10000 := by omega
    have hr1 : (cv + xx) % 10000 < 10000 := by omega
    have hq : (cv + xx - (cv + xx) % 10000) / 10000 = (cv + xx) / 10000 := by omega
    obtain ⟨q, hq'⟩ : ∃ q, (cv + xx) / 10000 = q := ⟨_, rfl⟩
    obtain ⟨r, hr⟩ : ∃ r, (cv + xx) % 10000 = r := ⟨_, rfl⟩
    rw [hq'] at hq HS
    rw [hr] at hq HS hr0 hr1
    have hq1 : -1000000000000000 ≤ q := by omega
    have hq2 : q ≤ 1000000000000000 := by omega
    have hs0 : 0 ≤ cv + xx - r := by omega
    clear hq'
    go_wp2_with (at_builtin; refine pushI rfl (.tmp 33) (.tmp 35) rfl w.heap.size Ao j co out wr rfl HO.out r rfl (by omega) hbs ?_; intro A' c' w' hown' hg'; have HO' := Lib.hid hown'; have HG' := Lib.hid hg'; clear hown' hg')
    go_roundw
    case rel => exact ⟨j + 1, _, _, A', c', by omega, by go_num, rfl, rfl, by omega, by omega, HO'.out, HO.out.grownBelow HG'.out HB.out (Nat.le_refl _) hbs, by rw [hq]; exact HS.out⟩
    case measure => simp [intOf]; omega
  ·by_cases hz : cv = 0
   ·subst hz
    have HE := Lib.hid (carR_end HI.out (by omega) HV.out)
    clear h
    go_wp2_with (go_at_call 102; refine (cut_to Ao co _ n _ _ HO.out.sl HO.out.len (by omega) HE.out.1 HE.out.2).mono ?_; rintro e w'' ⟨rfl, rfl⟩)
    go_ret
    exact ⟨Ao, co, rfl, HO.out.sl.to4 HE.out.1 HE.out.2, HB.out, HO.out.none_cap⟩
   ·obtain ⟨hpos, hroom⟩ := carR_room HM.out HI.out (by omega) HV.out hz
    have t1 : (cv != 0) = true := by rw [bne_iff_ne]; exact hz
    have HS := Lib.hid (carR_past HI.out (by omega))
    have hr0 : 0 ≤ cv % 10000 := by omega
    have hr1 : cv % 10000 < 10000 := by omega
    have hq : (cv - cv % 10000) / 10000 = cv / 10000 := by omega
    obtain ⟨q, hq'⟩ : ∃ q, cv / 10000 = q := ⟨_, rfl⟩
    obtain ⟨r, hr⟩ : ∃ r, cv % 10000 = r := ⟨_, rfl⟩
    rw [hq'] at hq HS
    rw [hr] at hq HS hr0 hr1
    have hq1 : -1000000000000000 ≤ q := by omega
    have hq2 : q ≤ 1000000000000000 := by omega
    have hs0 : 0 ≤ cv - r := by omega
    clear hq' h hz
    go_wp2_with (at_builtin; refine pushI rfl (.tmp 33) (.tmp 35) rfl w.heap.size Ao j co out wr rfl HO.out r rfl (by omega) hbs ?_; intro A' c' w' hown' hg'; have HO' := Lib.hid hown'; have HG' := Lib.hid hg'; clear hown' hg')
    go_roundw
    case rel => exact ⟨j + 1, _, _, A', c', by omega, by go_num, rfl, rfl, by omega, by omega, HO'.out, HO.out.grownBelow HG'.out HB.out (Nat.le_refl _) hbs, by rw [hq]; exact HS.out⟩
    case measure => simp [intOf]; omega

theorem carry_any (A : Option Addr) (c n : Nat) (p : List Int) (w : World) (h : Sl w .i64 A c p) (hlen : p.length ≤ 60000) (hm : Mod 1000000000000000 p) (hv : valB 10000 p = n) :
  Calls Tryz.prog 104 #[.slice A p.length c] w fun e w' => ∃ A c, e = .returned (.slice A (lim4 n).length c) ∧ Sl w' .i64 A c (lim4 n) ∧ Below w.heap.size w w' :=
 (carry_own A c n p w h hlen hm hv).mono fun _ _ ⟨A', c', h1, h2, h3, _⟩ => ⟨A', c', h1, h2, h3⟩

end Go.Proofs.YtnallacamijkeaaGreatDoor

/- 'append(s, r...)' onto a slice of the call's own, and a store into one. -/
namespace Go.Proofs.YtnallacamijkeaaGreatDoor
open Go.RowKit

section
variable {P : Program} {t e : TypeId} {k : IntKind} {bytes base n c : Nat} {w : World} {A : Option Addr} {l : List Int}

theorem Own.block_ge (h : Own w base e k A n c l) (p : Addr) (hp : A = some p) : base ≤ p.block := by
 rcases h.form with ⟨rfl, _, _⟩ | ⟨g, cur, rfl, hg, _⟩
 ·cases hp
 ·injection hp with hp
  subst hp
  exact hg

theorem Own.at_ (h : Own w base e k A n c l) (hn : 0 < n) : ∃ g, A = some ⟨g, 0, none⟩ ∧ base ≤ g ∧ g < w.heap.size ∧ (∀ i : Nat, i < n → w.cell? ⟨g, i, none⟩ = some (.int k (l[i]?.getD 0))) ∧ (∀ i : Nat, w.frozen? ⟨g, i, none⟩ = false) ∧
  (∀ (i : Nat) (v : Int), i < n → Own (w.setCell ⟨g, i, none⟩ (.int k v)) base e k (some ⟨g, 0, none⟩) n c (l.set i v)) := by
 have hl := h.len
 rcases h.form with ⟨rfl, rfl, rfl⟩ | ⟨g, cur, rfl, hg, hh, hnc, hc, hs, ht⟩
 ·omega
 ·obtain ⟨b, o, e1, hlt, hcell⟩ := h.sl.at_ (by omega)
  injection e1 with e1
  injection e1 with e1 e2
  subst e1 e2
  refine ⟨g, rfl, hg, hlt, fun i hi => ?_, fun i => by simp [World.frozen?, hh], fun i v hi => ?_⟩
  ·have := hcell i (by omega)
   rw [Nat.zero_add] at this
   exact this
  ·refine ⟨by simp [hl], by simp [hl], .inr ⟨g, c, cur.setIfInBounds i (.int k v), rfl, hg, by simp [World.setCell, Array.getElem?_modify, hh], hnc, hc, by simp [hs], ?_⟩⟩
   rw [Array.toList_setIfInBounds, List.take_set, ht, List.map_set]

theorem wpList_onto {ops : Array Oper} {rest : List Oper} {o : Oper} {a : Act} {Q : Exit → Act → World → Prop} (E : IntElem P t e k bytes) (hgd : o.guard = none) (s x : Operand)
  (ho : o.op = .call { callee := .builtin .append, args := #[s, x], argTypes := #[t, t] })
  (base n c : Nat) (A : Option Addr) (l : List Int) (W : World) (R : List Int) (Ar : Option Addr) (cr : Nat) (hs : a.eval s = .slice A n c) (hown : Own W base e k A n c l) (hx : a.eval x = .slice Ar R.length cr) (hr : Sl W k Ar cr R) (h0 : Ar = none → cr = 0) (hn : n ≤ 1000000) (hlen : R.length ≤ 1000000) (hbase : base ≤ W.heap.size)
  (h : ∀ A' c' w', Own w' base e k A' (n + R.length) c' (l ++ R) → W.grownBy w' (Value.slice A n c).ownBlock → wpList P ops Q rest (a.put o.dst (.slice A' (n + R.length) c')) w') :
  wpList P ops Q (o :: rest) a W := by
 obtain ⟨i, hi, hz, hsz, hby⟩ := info_parts E.info
 have hsm := E.small
 have h8 : (n + R.length) * bytes ≤ (n + R.length) * 8 := Nat.mul_le_mul_left _ hsm
 cases Ar with
 | none =>
  have hc := h0 rfl
  subst hc
  have hR : R = [] := by
   have := hr.cap
   exact List.length_eq_zero_iff.1 (by omega)
  subst hR
  refine wpList_append_own_none hgd s x t ho base e i 1 E.ht hi _ n _ hs hown.2 hx ?_
  exact h _ _ _ (by rw [List.append_nil]; exact hown) ⟨rfl, rfl, rfl, Nat.le_refl _, fun _ _ _ => rfl⟩
 | some ad =>
  refine wpList_append_own _ hgd s x t ho base e i (.int k 0) 1 bytes E.ht hi hz hsz hby rfl (by decide) _ n _ hs hown.2 ad R.length cr (R.map (Value.int k)) hx (by simp) ?_ (by simp [Value.oneCell'])
   (by simp only [maxLen]; omega) (by omega) hbase ?_
  ·intro j u hu
   have hj : j < R.length := by
    have := (List.getElem?_eq_some_iff.1 hu).1
    simpa using this
   obtain ⟨b, o', e', hb, hc⟩ := hr.at_ (by omega)
   injection e' with e'
   subst e'
   have h1 := hc j hj
   simp only [List.getElem?_map, List.getElem?_eq_getElem hj, Option.map_some, Option.some.injEq] at hu
   rw [← hu]
   rw [List.getElem?_eq_getElem hj] at h1
   rcases Nat.eq_zero_or_pos j with h2 | h2
   ·subst h2
    simpa [Addr.add] using h1
   ·simpa [Addr.add, Nat.ne_of_gt h2] using h1
  ·intro v' w' h1 h2 _
   have h3 : w'.ownsRow base e 1 v' (n + R.length) ((l ++ R).map (Value.int k)) := by simpa using h1
   have h4 : ∃ A' c', v' = .slice A' (n + R.length) c' := by
    rcases h3.2 with ⟨hv, hn0⟩ | ⟨g, cap, cur, hv, _⟩
    ·exact ⟨none, 0, by rw [hv, hn0]⟩
    ·exact ⟨_, _, hv⟩
   obtain ⟨A', c', rfl⟩ := h4
   exact h A' c' w' ⟨by simp [hown.len], h3⟩ h2
end

theorem ontoI {ops : Array Oper} {rest : List Oper} {o : Oper} {a : Act} {Q : Exit → Act → World → Prop} (hgd : o.guard = none) (s x : Operand)
  (ho : o.op = .call { callee := .builtin .append, args := #[s, x], argTypes := #[99, 99] })
  (base n c : Nat) (A : Option Addr) (l : List Int) (W : World) (R : List Int) (Ar : Option Addr) (cr : Nat) (hs : a.eval s = .slice A n c) (hown : Own W base 3 .i64 A n c l) (hx : a.eval x = .slice Ar R.length cr) (hr : Sl W .i64 Ar cr R) (h0 : Ar = none → cr = 0) (hn : n ≤ 1000000) (hlen : R.length ≤ 1000000) (hbase : base ≤ W.heap.size)
  (h : ∀ A' c' w', Own w' base 3 .i64 A' (n + R.length) c' (l ++ R) → W.grownBy w' (Value.slice A n c).ownBlock → wpList Tryz.prog ops Q rest (a.put o.dst (.slice A' (n + R.length) c')) w') :
  wpList Tryz.prog ops Q (o :: rest) a W :=
 wpList_onto Elem01 hgd s x ho base n c A l W R Ar cr hs hown hx hr h0 hn hlen hbase h

theorem consI {ops : Array Oper} {rest : List Oper} {o : Oper} {a : Act} {Q : Exit → Act → World → Prop} (hgd : o.guard = none) (s x : Operand)
  (ho : o.op = .call { callee := .builtin .append, args := #[s, x], argTypes := #[99, 99] })
  (W : World) (y : Int) (R : List Int) (Ar : Option Addr) (cr : Nat) (hs : a.eval s = .slice (some ⟨W.heap.size, 0, none⟩) 1 1) (hx : a.eval x = .slice Ar R.length cr) (hr : Sl W .i64 Ar cr R) (h0 : Ar = none → cr = 0) (hlen : R.length ≤ 1000000)
  (h : ∀ A' c' w', Own w' W.heap.size 3 .i64 A' (R.length + 1) c' (y :: R) → Below W.heap.size W w' → wpList Tryz.prog ops Q rest (a.put o.dst (.slice A' (R.length + 1) c')) w') :
  wpList Tryz.prog ops Q (o :: rest) a (W.alloc (.cells #[.int .i64 y] 3)) :=
 wpList_cons Elem01 hgd s x ho W y R Ar cr hs hx hr h0 hlen h

end Go.Proofs.YtnallacamijkeaaGreatDoor

/- The walk of klipperef01.joined: the sum of pieces and a multiple of others. -/
namespace Go.Proofs.YtnallacamijkeaaGreatDoor
open Go.RowKit

theorem Own.zero (w : World) (e : TypeId) (k : IntKind) : Own (w.alloc (.cells #[] e)) w.heap.size e k (some ⟨w.heap.size, 0, none⟩) 0 0 [] :=
 ⟨rfl, rfl, .inr ⟨w.heap.size, 0, #[], rfl, Nat.le_refl _, heap_alloc_new w _, Nat.le_refl _, Nat.zero_le _, rfl, rfl⟩⟩

theorem getD_snoc0 (m : List Int) (i : Nat) : (m ++ [0])[i]?.getD 0 = m[i]?.getD 0 := by
 by_cases h : i < m.length
 ·rw [List.getElem?_append_left h]
 ·rw [List.getElem?_append_right (by omega), List.getElem?_eq_none (l := m) (by omega)]
  by_cases h2 : i - m.length = 0
  ·rw [h2]; rfl
  ·rw [List.getElem?_eq_none (by simp; omega)]

set_option maxHeartbeats 2000000 in
theorem joined_any (A1 A2 : Option Addr) (c1 c2 x y z : Nat) (k : Int) (w : World) (hx : Sl w .i64 A1 c1 (lim4 x)) (hy : Sl w .i64 A2 c2 (lim4 y)) (h0 : A1 = none → c1 = 0) (hlx : (lim4 x).length ≤ 20010) (hly : (lim4 y).length ≤ 20010)
  (hk0 : -10000 ≤ k) (hk1 : k ≤ 10000) (hz : (x : Int) + k * (y : Int) = (z : Int)) :
  Calls Tryz.prog 71 #[.slice A1 (lim4 x).length c1, .slice A2 (lim4 y).length c2, .int .i64 k, .int .i64 0] w fun e w' => ∃ A c, e = .returned (.slice A (lim4 z).length c) ∧ Sl w' .i64 A c (lim4 z) ∧ Below w.heap.size w w' ∧ (A = none → c = 0) := by
 have hbd := fun (i : Nat) (out : List Int) (h : JoinR (lim4 x) (lim4 y) k i out) => joinR_bound h hk0 hk1
 have hmd := fun (i : Nat) (out : List Int) (h : JoinR (lim4 x) (lim4 y) k i out) => joinR_mod h hk0 hk1
 have hen := fun (out : List Int) (h : JoinR (lim4 x) (lim4 y) k (lim4 y).length out) => joinR_end h hz
 have hyb := fun j => at4 y j
 clear hz
 generalize lim4 x = X at *
 generalize lim4 y = Y at *
 have HBD := Lib.hid hbd
 have HMD := Lib.hid hmd
 have HEN := Lib.hid hen
 have HYB := Lib.hid hyb
 have hoz := Own.zero w 3 .i64
 have hba : Below w.heap.size w (w.alloc (.cells #[] 3)) := (Below.refl _ _).alloc (Nat.le_refl _) _
 have hx1 := hx.below hba
 have HOZ := Lib.hid hoz
 have HBA := Lib.hid hba
 have HX1 := Lib.hid hx1
 clear hbd hmd hen hyb hoz hba hx1 hx
 go_enter Tryz.func71, Tryz.ntmps71
 go_wp2_with (at_builtin; refine ontoI rfl (.tmp 11) (.tmp 12) rfl w.heap.size 0 0 (some ⟨w.heap.size, 0, none⟩) [] (w.alloc (.cells #[] 3)) X A1 c1 rfl HOZ.out rfl HX1.out h0 (by omega) (by omega) (by simp) ?_; intro A' c' w' hown' hg'; rw [Nat.zero_add] at hown' ⊢; have HO' := Lib.hid hown'; have HB' := Lib.hid (HOZ.out.grownBelow hg' HBA.out (Nat.le_refl _) (by simp)); clear hown' hg')
 clear HOZ HBA HX1
 go_loopw [9, 10] (fun ov iv wr => ∃ (j n : Nat) (out : List Int) (Ao : Option Addr) (co : Nat), j ≤ Y.length ∧ n = max X.length j ∧ iv = .int .i64 j ∧ ov = .slice Ao n co ∧ Own wr w.heap.size 3 .i64 Ao n co out ∧ Below w.heap.size w wr ∧ Hid (JoinR X Y k j out)) (fun _ iv _ => Y.length - (intOf iv).toNat)
 case atStart => exact ⟨0, _, X, A', c', Nat.zero_le _, by omega, rfl, rfl, by simpa using HO'.out, HB'.out, Lib.hid (joinR_start X Y k)⟩
 case round =>
  clear HO' HB'
  obtain ⟨j, n, out, Ao, co, hj, hn, rfl, rfl, hown, hbel, HI⟩ := hrel
  have HO := Lib.hid hown
  have HB := Lib.hid hbel
  have hbs := hbel.size
  clear hown hbel
  by_cases hlt : j < Y.length
  ·have hn1 : n ≤ max X.length (j + 1) := by omega
   have hn2 : n ≤ 30000 := by omega
   go_wp2
   obtain ⟨wo, hwo⟩ : ∃ wo : World, wo = wr := ⟨_, rfl⟩
   rw [← hwo] at HB HO
   go_loopw [9] (fun ov wr => ∃ (n2 : Nat) (m : List Int) (Ao : Option Addr) (co : Nat), n ≤ n2 ∧ n2 ≤ max X.length (j + 1) ∧ ov = .slice Ao n2 co ∧ Own wr w.heap.size 3 .i64 Ao n2 co m ∧ Below w.heap.size w wr ∧ Hid (∀ i : Nat, m[i]?.getD 0 = out[i]?.getD 0)) (fun ov _ => j + 1 - lenOf ov)
   case atStart => exact ⟨n, out, Ao, co, Nat.le_refl _, hn1, rfl, by rw [← hwo]; exact HO.out, by rw [← hwo]; exact HB.out, fun _ => rfl⟩
   case round =>
    clear HO HB hwo hbs hn1
    obtain ⟨n2, m, Ao, co, hn3, hn4, rfl, hown, hbel, HE⟩ := hrel
    have HO := Lib.hid hown
    have HB := Lib.hid hbel
    have hbs := hbel.size
    clear hown hbel
    by_cases hle : n2 ≤ j
    ·have hlei : (n2 : Int) ≤ (j : Int) := by omega
     have HE2 : Hid (∀ i : Nat, (m ++ [0])[i]?.getD 0 = out[i]?.getD 0) := fun i => by rw [getD_snoc0]; exact HE.out i
     go_wp2_with (at_builtin; refine pushI rfl (.tmp 26) (.tmp 27) rfl w.heap.size Ao n2 co m wr rfl HO.out 0 rfl (by omega) hbs ?_; intro A' c' w' hown' hg'; have HO' := Lib.hid hown'; have HG' := Lib.hid hg'; clear hown' hg')
     go_roundw
     case rel => exact ⟨n2 + 1, _, A', c', by omega, by omega, rfl, HO'.out, HO.out.grownBelow HG'.out HB.out (Nat.le_refl _) hbs, HE2.out⟩
     case measure => simp [lenOf]; omega
    ·have d1 : decide ((n2 : Int) ≤ (j : Int)) = false := decide_eq_false (by omega)
     have d2 : decide (n2 ≤ j) = false := decide_eq_false (by omega)
     have hjn : j < n2 := by omega
     obtain ⟨g, rfl, hg0, hg1, hcell, hfro, hset⟩ := HO.out.at_ (by omega)
     have hy1 := hy.below HB.out
     obtain ⟨by_, oy, rfl, hby, hcy⟩ := hy1.at_ (by omega)
     have gy := hcy j hlt
     have by1 := (HYB.out j).1
     have by2 := (HYB.out j).2
     have gm := hcell j hjn
     have gf := hfro j
     have HSET := Lib.hid (fun v => hset j v hjn)
     have bo := HBD.out j out HI.out j
     rw [← HE.out j] at bo
     have bo1 := bo.1
     have bo2 := bo.2
     have bm := join_mul hk0 hk1 by1 by2
     have bm1 := bm.1
     have bm2 := bm.2
     have hml := HO.out.len
     have HS := Lib.hid (joinR_step HI.out (show m.length = max X.length (j + 1) by omega) HE.out rfl)
     clear hcy hy1 hcell hfro hset bo bm hml
     generalize hyy : Y[j]?.getD 0 = yy at *
     generalize hmm : m[j]?.getD 0 = mm at *
     obtain ⟨p, hp⟩ : ∃ p, k * yy = p := ⟨_, rfl⟩
     rw [hp] at bm1 bm2 HS
     clear hyy hmm
     have hn5 : n2 = max X.length (j + 1) := by omega
     go_wp2
     go_region
     go_wp2
     go_roundw
     case rel => exact ⟨j + 1, n2, _, _, co, by omega, hn5, by go_num, rfl, (HSET.out _).drewN _, (HB.out.setCell (p := ⟨g, j, none⟩) hg0 _).drew, HS⟩
     case measure => simp [intOf]; omega
  ·obtain rfl : j = Y.length := by omega
   have HE := Lib.hid (HEN.out out HI.out)
   have HM := Lib.hid (HMD.out _ out HI.out)
   have hol := HO.out.len
   have hca := carry_own Ao co z out wr HO.out.sl (by omega) HM.out HE.out
   rw [hol] at hca
   have HC := Lib.hid hca
   clear hca hy hn hol
   go_wp2_with (go_at_call 104; (with_reducible refine HC.out.mono ?_); rintro e w'' ⟨A, c, rfl, h1, h2, h3⟩)
   go_ret
   exact ⟨A, c, rfl, h1, HB.out.trans (h2.mono hbs), h3⟩

end Go.Proofs.YtnallacamijkeaaGreatDoor

/- The walk of klipperef01.less: magnitudes in pieces of four digits are compared. -/
namespace Go.Proofs.YtnallacamijkeaaGreatDoor
open Go.RowKit

theorem less_len {a b : Nat} (h : (lim4 a).length < (lim4 b).length) : a < b := lim_len_lt 10000 (by omega) a b h

theorem less_top (a b i : Nat) (hl : (lim4 a).length = (lim4 b).length) (hi : i < (lim4 a).length) (hs : (lim4 a).drop (i + 1) = (lim4 b).drop (i + 1))
  (hlt : (lim4 a)[i]?.getD 0 < (lim4 b)[i]?.getD 0) : a < b := by
 have h := val_lt_of_top _ (by omega) (lim4 a) (lim4 b) (lim4_digs a) (lim4_digs b) hl i hi hs hlt
 rw [lim4_val, lim4_val] at h
 omega

theorem lim4_inj {a b : Nat} (h : lim4 a = lim4 b) : a = b := lim_inj 10000 (by omega) a b h

theorem ret_lt {a b : Bool} (h : a = b) : Ending.returned (.bool a) = .returned (.bool b) := by rw [h]

set_option maxHeartbeats 400000 in
theorem less_any (A A' : Option Addr) (c c' a b : Nat) (w : World) (ha : Sl w .i64 A c (lim4 a)) (hb : Sl w .i64 A' c' (lim4 b)) (hla : (lim4 a).length ≤ 65536) (_hlb : (lim4 b).length ≤ 65536) :
  Calls Tryz.prog 72 #[.slice A (lim4 a).length c, .slice A' (lim4 b).length c'] w fun e w' => e = .returned (.bool (decide (a < b))) ∧ Drew w w' := by
 by_cases hne : (lim4 a).length = (lim4 b).length
 ·have hx : ∀ X Y : List Int, lim4 a = X → lim4 b = Y → Calls Tryz.prog 72 #[.slice A X.length c, .slice A' X.length c'] w fun e w' => e = .returned (.bool (decide (a < b))) ∧ Drew w w' := by
   intro X Y hX hY
   rw [hX] at ha hla hne
   rw [hY] at hb hne
   have HX := Lib.hid hX
   have HY := Lib.hid hY
   have HN := Lib.hid hne
   clear hX hY hne
   go_enter Tryz.func72, Tryz.ntmps72
   go_wp2
   go_loopw [5] (fun i wr => ∃ (k : Nat) (j : Int), k ≤ X.length ∧ j = k - 1 ∧ i = .int .i64 j ∧ X.drop k = Y.drop k ∧ Drew w wr) (fun i _ => (intOf i + 1).toNat)
   case atStart => exact ⟨X.length, _, Nat.le_refl _, rfl, rfl, by rw [List.drop_length, HN.out, List.drop_length], Drew.refl _⟩
   case round =>
    obtain ⟨k, j, hk, hj, rfl, hs, n, rfl⟩ := hrel
    have HS := Lib.hid hs
    clear hs
    rcases Nat.eq_zero_or_pos k with rfl | hpos
    ·obtain rfl : j = -1 := by omega
     clear hj
     go_wp2
     go_ret
     have h0 := HS.out
     rw [List.drop_zero, List.drop_zero] at h0
     exact ⟨ret_lt (by simp [lim4_inj (show lim4 a = lim4 b by rw [HX.out, HY.out, h0])]), Drew.of _ _⟩
    ·obtain ⟨m, rfl⟩ : ∃ m, k = m + 1 := ⟨k - 1, by omega⟩
     obtain rfl : j = (m : Int) := by omega
     clear hj
     obtain ⟨ba, oa, rfl, hba, hca⟩ := ha.at_ (by omega)
     obtain ⟨bb, ob, rfl, hbb, hcb⟩ := hb.at_ (by rw [← HN.out]; omega)
     have hm : m < X.length := by omega
     have hm' : m < Y.length := by rw [← HN.out]; omega
     have ga := hca m hm
     have gb := hcb m hm'
     clear hca hcb ha hb
     have hcapa : X.length ≤ 65536 := hla
     generalize hxx : X[m]?.getD 0 = x at *
     generalize hyy : Y[m]?.getD 0 = y at *
     have HXX := Lib.hid hxx
     have HYY := Lib.hid hyy
     clear hxx hyy
     rcases Int.lt_trichotomy x y with hlt | heq | hgt
     ·have t1 : (x != y) = true := by rw [bne_iff_ne]; omega
      go_wp2
      go_quiet (fail)
      go_wp2
      go_quiet (fail)
      go_wp2
      go_ret
      have hx2 := HX.out
      have hy2 := HY.out
      exact ⟨ret_lt (by simp [less_top a b m (by rw [hx2, hy2]; exact HN.out) (by rw [hx2]; omega) (by rw [hx2, hy2]; exact HS.out) (by rw [hx2, hy2, HXX.out, HYY.out]; exact hlt)]), ((Drew.of _ _).more _).more _⟩
     ·have t1 : (x != y) = false := by rw [heq]; simp
      have HE := Lib.hid heq
      clear heq
      go_wp2
      go_quiet (fail)
      go_wp2
      go_roundw
      case rel => exact ⟨m, _, by omega, rfl, rfl, by rw [drop_getD X m hm, drop_getD Y m hm', HS.out, HXX.out, HYY.out, HE.out], Drew.of _ _⟩
      case measure => simp [intOf]
     ·have t1 : (x != y) = true := by rw [bne_iff_ne]; omega
      go_wp2
      go_quiet (fail)
      go_wp2
      go_quiet (fail)
      go_wp2
      go_ret
      have hx2 := HX.out
      have hy2 := HY.out
      have hba := less_top b a m (by rw [hx2, hy2]; exact HN.out.symm) (by rw [hy2]; omega) (by rw [hx2, hy2]; exact HS.out.symm) (by rw [hx2, hy2, HXX.out, HYY.out]; exact hgt)
      exact ⟨ret_lt (by simp; omega), ((Drew.of _ _).more _).more _⟩
  have := hx _ _ rfl rfl
  rw [← hne]
  exact this
 ·clear ha hb
  rcases Nat.lt_or_gt_of_ne hne with hlt | hgt
  ·have HR := Lib.hid (less_len hlt)
   have t1 : (((lim4 a).length : Int) != ((lim4 b).length : Int)) = true := by rw [bne_iff_ne]; omega
   go_enter Tryz.func72, Tryz.ntmps72
   go_wp2
   go_ret
   exact ⟨ret_lt (by simp [HR.out]), Drew.refl _⟩
  ·have HR := Lib.hid (less_len hgt)
   have t1 : (((lim4 a).length : Int) != ((lim4 b).length : Int)) = true := by rw [bne_iff_ne]; omega
   go_enter Tryz.func72, Tryz.ntmps72
   go_wp2
   go_ret
   have hba := HR.out
   exact ⟨ret_lt (by simp; omega), Drew.refl _⟩

end Go.Proofs.YtnallacamijkeaaGreatDoor

/- The walk of klipperef01.parts: division piece by piece, each piece of the quotient by halving. -/
namespace Go.Proofs.YtnallacamijkeaaGreatDoor
open Go.RowKit

def PartR (x y n kk r : Nat) (out : List Int) : Prop := r = x / 10000 ^ kk % y ∧ Digs 10000 out ∧ out.length = n ∧ valB 10000 (out.drop kk) = ((x / 10000 ^ kk / y : Nat) : Int)

theorem part_start (x y : Nat) : PartR x y (lim4 x).length (lim4 x).length 0 (List.replicate (lim4 x).length 0) := by
 unfold PartR
 rw [div_past4, Nat.zero_mod, Nat.zero_div]
 refine ⟨rfl, Digs.zeros (by omega) _, by simp, ?_⟩
 rw [List.drop_of_length_le (by simp)]
 rfl

theorem part_step {x y i r c : Nat} {out : List Int} (h : PartR x y (lim4 x).length (i + 1) r out) (hi : i < (lim4 x).length) (hy : 0 < y) (hc : (lim4 x)[i]?.getD 0 = (c : Int)) :
  PartR x y (lim4 x).length i ((c + 10000 * r) % y) (out.set i (((c + 10000 * r) / y : Nat) : Int)) := by
 obtain ⟨hr, hd, hl, hv⟩ := h
 have hp := piece_val4 x i hi
 have hc4 := at4 x i
 rw [hc] at hp hc4
 generalize x / 10000 ^ (i + 1) = u at *
 have hu := Nat.div_add_mod u y
 have hrl : r < y := by rw [hr]; exact Nat.mod_lt _ hy
 have hp3 : x / 10000 ^ i = c + 10000 * u := by omega
 obtain ⟨n1, n2⟩ := parts_next y (u / y) r c hy
 rw [← hr] at hu
 rw [hu, ← hp3] at n1 n2
 have hlt := parts_lt y r c hrl (by omega)
 refine ⟨n2.symm, hd.set i (Int.natCast_nonneg _) (Int.ofNat_lt.2 hlt), by simpa using hl, ?_⟩
 rw [drop_getD _ i (by simp; omega), List.getElem?_set_self (by omega), Option.getD_some, List.drop_set_of_lt (by omega)]
 simp only [valB]
 rw [hv, n1]
 simp only [Int.natCast_add, Int.natCast_mul]
 rw [Int.add_comm]; rfl

theorem part_end {x y n r : Nat} {out : List Int} (h : PartR x y n 0 r out) : r = x % y ∧ Digs 10000 out ∧ out.length = n ∧ valB 10000 out = ((x / y : Nat) : Int) := by
 unfold PartR at h
 rw [Nat.pow_zero, Nat.div_one, List.drop_zero] at h
 exact h

theorem Sl.put_away {w : World} {k : IntKind} {A : Option Addr} {c : Nat} {p : Addr} {l : List Int} (h : Sl w k A c l) (hp : ∀ q : Addr, A = some q → q.block ≠ p.block) (u : Value) : Sl (w.setCell p u) k A c l :=
 ⟨h.1, h.2.1, fun hl => by
  obtain ⟨b, o, e, hlt, hc⟩ := h.2.2 hl
  have hbg : b ≠ p.block := hp _ e
  exact ⟨b, o, e, by simpa [World.setCell] using hlt, fun j hj => (World.cell?_setCell_other _ _ _ _ (fun e => hbg (congrArg Addr.block e).symm)).trans (hc j hj)⟩⟩

set_option maxRecDepth 100000 in
set_option maxHeartbeats 4000000 in
theorem parts_any (A1 A2 : Option Addr) (c1 c2 x y : Nat) (w : World) (hx : Sl w .i64 A1 c1 (lim4 x)) (hy : Sl w .i64 A2 c2 (lim4 y)) (hlx : (lim4 x).length ≤ 20000) (hly : (lim4 y).length ≤ 20000) (hy0 : 0 < y) :
  Calls Tryz.prog 82 #[.slice A1 (lim4 x).length c1, .slice A2 (lim4 y).length c2] w fun e w' => ∃ B1 d1 B2 d2, e = .returned (.tuple #[.slice B1 (lim4 (x / y)).length d1, .slice B2 (lim4 (x % y)).length d2]) ∧
   Sl w' .i64 B1 d1 (lim4 (x / y)) ∧ Sl w' .i64 B2 d2 (lim4 (x % y)) ∧ Below w.heap.size w w' ∧ (B1 = none → d1 = 0) ∧ (B2 = none → d2 = 0) := by
 have hst := part_start x y
 have hsp := fun i r c out => part_step (x := x) (y := y) (i := i) (r := r) (c := c) (out := out)
 have hdg := fun j => at4 x j
 obtain ⟨N, hN⟩ : ∃ N, (lim4 x).length = N := ⟨_, rfl⟩
 rw [hN] at hst hsp hlx ⊢
 have hmk := run_mkn Elem01 N (by omega) (N : Int) rfl
 have HT0 : Hid (Tab (w.alloc (.cells (zrow .i64 N) 3)) w.heap.size 3 .i64 (List.replicate N 0)) := Tab.made w _ _ _
 have HST := Lib.hid hst
 have HSP := Lib.hid hsp
 have HDG := Lib.hid hdg
 have HX := Lib.hid hx
 have HY := Lib.hid hy
 have HN := Lib.hid hN
 clear hst hsp hdg hx hy hN
 go_enter Tryz.func82, Tryz.ntmps82
 go_wp2
 go_loopw [7, 8] (fun rv iv wr => ∃ (kk r : Nat) (jj : Int) (out : List Int) (Ar : Option Addr) (cr : Nat), kk ≤ N ∧ jj = kk - 1 ∧ iv = .int .i64 jj ∧ rv = .slice Ar (lim4 r).length cr ∧ r < y ∧ Sl wr .i64 Ar cr (lim4 r) ∧ Hid (Ar = none → cr = 0) ∧ Tab wr w.heap.size 3 .i64 out ∧ Below w.heap.size w wr ∧ Hid (PartR x y N kk r out)) (fun _ iv _ => (intOf iv + 1).toNat)
 case atStart => exact ⟨N, 0, _, _, none, 0, Nat.le_refl _, rfl, rfl, rfl, hy0, Sl.nil_, fun _ => rfl, HT0.out, (Below.refl _ _).alloc (Nat.le_refl _) _, HST⟩
 case round =>
  clear HT0 HST
  obtain ⟨kk, r, jj, out, Ar, cr, hkk, hjj, rfl, rfl, hr, hsr, H0, htab, hbel, HI⟩ := hrel
  have HS := Lib.hid hsr
  have HT := Lib.hid htab
  have HB := Lib.hid hbel
  have hbs := hbel.size
  clear hsr htab hbel
  cases kk with
  | zero =>
   obtain rfl : jj = -1 := by omega
   clear hjj
   obtain ⟨e1, e2, e3, e4⟩ := part_end HI.out
   subst e1
   have hcu := cut_to (some ⟨w.heap.size, 0, none⟩) N N (x / y) out wr (HT.out.slN e3 (by omega)) e3 (by omega) e2 e4
   have HCU := Lib.hid hcu
   have HE := Lib.hid (HT.out.slN e3 (by omega) |>.to4 e2 e4)
   clear hcu e2 e3 e4
   go_wp2_with (go_at_call 102; (with_reducible refine HCU.out.mono ?_); rintro e w'' ⟨rfl, rfl⟩)
   go_ret2
   exact ⟨_, _, Ar, cr, rfl, HE.out, HS.out, HB.out, (fun h => by cases h), H0.out⟩
  | succ i =>
   obtain rfl : jj = (i : Int) := by omega
   clear hjj
   have hi : i < (lim4 x).length := by have := HN.out; omega
   have hx1 := HX.out.below HB.out
   obtain ⟨bx, ox, rfl, hbx, hcx⟩ := hx1.at_ (by omega)
   have gx := hcx i hi
   have hd4 := HDG.out i
   obtain ⟨c, hc⟩ : ∃ c : Nat, (lim4 x)[i]?.getD 0 = (c : Int) := ⟨((lim4 x)[i]?.getD 0).toNat, by omega⟩
   rw [hc] at gx hd4
   have hc9 : c < 10000 := by omega
   have HNX := Lib.hid (HSP.out i r c out HI.out (by have := HN.out; omega) hy0 hc)
   have hdl := parts_lt y r c hr hc9
   have hml := Nat.mod_lt (c + 10000 * r) hy0
   have hdm := Nat.div_add_mod (c + 10000 * r) y
   have hcv : valB 10000 ((c : Int) :: lim4 r) = ((c + 10000 * r : Nat) : Int) := by
    simp only [valB]
    rw [lim4_val]; simp
   have hcd : Digs 10000 ((c : Int) :: lim4 r) := (lim4_digs r).cons (by omega) (by omega)
   have hlr : (lim4 r).length ≤ 20000 := Nat.le_trans (lim4_len_mono r y (by omega)) hly
   have hlr2 : (lim4 (c + 10000 * r)).length ≤ 20001 := by
    have h1 := trim_eq4 _ _ hcd hcv
    rw [← h1]
    have h2 := trimL_len ((c : Int) :: lim4 r)
    simp at h2
    omega
   obtain ⟨v, hv⟩ : ∃ v, c + 10000 * r = v := ⟨_, rfl⟩
   obtain ⟨d, hd⟩ : ∃ d, v / y = d := ⟨_, rfl⟩
   obtain ⟨m2, hm2⟩ : ∃ m, v % y = m := ⟨_, rfl⟩
   have hdv : ∀ m, v < m * y ↔ d < m := fun m => by rw [← hd]; exact (Nat.div_lt_iff_lt_mul hy0).symm
   rw [hv] at HNX hdl hml hdm hcv hlr2
   rw [hd] at HNX hdl hdm
   rw [hm2] at HNX hml hdm
   have HCV := Lib.hid hcv
   have HCD := Lib.hid hcd
   have HDV := Lib.hid hdv
   have HDM := Lib.hid hdm
   have hi2 : i < N := by omega
   clear hv hd hm2 hcv hcd hdv hdm hcx hx1 hd4 HI
   go_wp2_with (first
    | (at_builtin; refine consI rfl (.tmp 26) (.tmp 27) rfl wr (c : Int) (lim4 r) Ar cr rfl rfl HS.out H0.out (by omega) ?_; intro A' c' w1 hown' hb'; have HO' := Lib.hid hown'; have HB' := Lib.hid hb'; clear hown' hb')
    | (go_at_call 102; (with_reducible refine (cut_to A' c' _ v _ w1 HO'.out.sl HO'.out.len (by omega) HCD.out HCV.out).mono ?_); rintro e w'' ⟨rfl, rfl⟩))
   have hb1 := HB'.out.size
   have htl := HT.out.lt
   have HV := Lib.hid (HO'.out.sl.to4 HCD.out HCV.out)
   have HVB := Lib.hid (HO'.out.block_ge)
   have HVN := Lib.hid (HO'.out.none_cap)
   have HT1 := Lib.hid (HT.out.below HB'.out HT.out.lt)
   have HB1 := Lib.hid (HB.out.trans (HB'.out.mono hbs))
   have hbs1 : w.heap.size ≤ w1.heap.size := by omega
   clear HS H0 HT HB HO' HB' HCV HCD gx
   obtain ⟨wo, hwo⟩ : ∃ wo : World, wo = w1 := ⟨_, rfl⟩
   rw [← hwo] at HV HT1 HB1 hb1 hbs1
   go_loopw [9, 10] (fun lv hv wr2 => ∃ (lo hi : Nat), lv = .int .i64 lo ∧ hv = .int .i64 hi ∧ lo ≤ d ∧ d ≤ hi ∧ hi ≤ 9999 ∧ Below wo.heap.size wo wr2) (fun lv hv _ => (intOf hv).toNat - (intOf lv).toNat)
   case atStart => exact ⟨0, 9999, rfl, rfl, Nat.zero_le _, by omega, Nat.le_refl _, by rw [hwo]; exact Below.refl _ _⟩
   case round =>
    clear hwo
    obtain ⟨lo, hi9, rfl, rfl, hlo, hhi, h99, hbel⟩ := hrel
    have HW := Lib.hid hbel
    have hws := hbel.size
    clear hbel
    by_cases hlt : lo < hi9
    ·obtain ⟨m, hm⟩ : ∃ m, (lo + hi9 + 1) / 2 = m := ⟨_, rfl⟩
     have em : ((lo : Int) + (hi9 : Int) + 1) / 2 = (m : Int) := by omega
     have hm1 : lo < m := by omega
     have hm2' : m ≤ hi9 := by omega
     have jn := joined_any none A2 0 c2 0 y (m * y) (m : Int) wr Sl.nil_ ((HY.out.below HB1.out).below HW.out) (fun _ => rfl) (Nat.zero_le _) (by omega) (by omega) (by omega) (by simp)
     rw [show (lim4 0).length = 0 from rfl] at jn
     have hlm : (lim4 (m * y)).length ≤ 30000 := by
      have h1 : y < 10000 ^ (lim4 y).length := lim_lt_pow 10000 (by omega) y
      refine Nat.le_trans (lim_len_le 10000 (by omega) ((lim4 y).length + 1) _ ?_) (by omega)
      rw [Nat.pow_succ, Nat.mul_comm m y]
      exact Nat.mul_lt_mul'' h1 (by omega)
     have ls := fun B d W (h1 : Below wr.heap.size wr W) (h2 : Sl W .i64 B d (lim4 (m * y))) => less_any A' B c' d v (m * y) W ((HV.out.below HW.out).below h1) h2 (by omega) (by omega)
     have JN := Lib.hid jn
     by_cases hdm' : d < m
     ·rw [decide_eq_true ((HDV.out m).2 hdm')] at ls
      have LS := Lib.hid ls
      have em1 : (m : Int) - 1 = ((m - 1 : Nat) : Int) := by omega
      clear jn ls hm
      go_wp2_with (first
       | (go_at_call 71; (with_reducible refine JN.out.mono ?_); rintro e w3 ⟨B3, d3, rfl, s3, b3, _⟩; have S3 := Lib.hid s3; have B3' := Lib.hid b3; clear s3 b3)
       | (go_at_call 72; (with_reducible refine (LS.out _ _ _ B3'.out S3.out).mono ?_); rintro e w4 ⟨rfl, nd, rfl⟩))
      go_roundw
      case rel => exact ⟨lo, m - 1, rfl, rfl, hlo, by omega, by omega, (HW.out.trans (B3'.out.mono hws)).trans ((Drew.of _ _).below _)⟩
      case measure => simp [intOf]; omega
     ·rw [decide_eq_false (fun h => hdm' ((HDV.out m).1 h))] at ls
      have LS := Lib.hid ls
      clear jn ls hm
      go_wp2_with (first
       | (go_at_call 71; (with_reducible refine JN.out.mono ?_); rintro e w3 ⟨B3, d3, rfl, s3, b3, _⟩; have S3 := Lib.hid s3; have B3' := Lib.hid b3; clear s3 b3)
       | (go_at_call 72; (with_reducible refine (LS.out _ _ _ B3'.out S3.out).mono ?_); rintro e w4 ⟨rfl, nd, rfl⟩))
      go_roundw
      case rel => exact ⟨m, hi9, rfl, rfl, by omega, hhi, h99, (HW.out.trans (B3'.out.mono hws)).trans ((Drew.of _ _).below _)⟩
      case measure => simp [intOf]; omega
    ·obtain rfl : lo = d := by omega
     have d1 : decide ((lo : Int) < (hi9 : Int)) = false := decide_eq_false (by omega)
     have d2 : decide (lo < hi9) = false := decide_eq_false hlt
     have htab2 := HT1.out.below HW.out (by omega)
     have go := htab2.frozen i
     have gl : out.length = N := HNX.out.2.2.1 |> fun h => by simpa using h
     have gc := htab2.cell i (by omega)
     have hsv := ((HV.out.below HW.out).put_away (p := ⟨w.heap.size, i, none⟩) (fun q hq => by have := HVB.out q hq; dsimp only; omega) (.int .i64 (lo : Int)))
     have hyv := (HY.out.below ((HB1.out.trans (HW.out.mono hbs1)).setCell (p := ⟨w.heap.size, i, none⟩) (Nat.le_refl _) (.int .i64 (lo : Int))))
     have jn := joined_any A' A2 c' c2 v y m2 (-(lo : Int)) (wr.setCell ⟨w.heap.size, i, none⟩ (.int .i64 (lo : Int))) hsv hyv HVN.out (by omega) (by omega) (by omega) (by omega) (by
      have := HDM.out
      rw [← this]
      simp only [Int.natCast_add, Int.natCast_mul, Int.neg_mul]
      rw [Int.mul_comm (y : Int)]
      omega)
     have JN := Lib.hid jn
     have HT2 := Lib.hid (htab2.set i (lo : Int))
     have HB2 := Lib.hid ((HB1.out.trans (HW.out.mono hbs1)).setCell (p := ⟨w.heap.size, i, none⟩) (Nat.le_refl _) (.int .i64 (lo : Int)))
     have hz2 : (wr.setCell ⟨w.heap.size, i, none⟩ (.int .i64 (lo : Int))).heap.size = wr.heap.size := by simp [World.setCell]
     have HZ2 := Lib.hid hz2
     clear jn hsv hyv htab2 hz2
     go_wp2_with (go_at_call 71; (with_reducible refine JN.out.mono ?_); rintro e w3 ⟨B3, d3, rfl, s3, b3, n3⟩; have S3 := Lib.hid s3; have B3' := Lib.hid b3; have N3 := Lib.hid n3; clear s3 b3 n3)
     go_roundw
     case rel => exact ⟨i, m2, _, _, B3, d3, by omega, rfl, rfl, rfl, hml, S3.out, N3, HT2.out.below B3'.out (by rw [HZ2.out]; omega), HB2.out.trans (B3'.out.mono HB2.out.size), HNX⟩
     case measure => simp [intOf]

end Go.Proofs.YtnallacamijkeaaGreatDoor

/- The walk of klipperef01.times: the product of two magnitudes in pieces of four digits. -/
namespace Go.Proofs.YtnallacamijkeaaGreatDoor
open Go.RowKit

def ProdR (X Y : List Int) (i k : Nat) (out : List Int) : Prop :=
 out.length = X.length + Y.length ∧ (∀ j : Nat, 0 ≤ out[j]?.getD 0 ∧ out[j]?.getD 0 ≤ if j < i + k then (i + 1) * 100000000 else i * 100000000) ∧
 valB 10000 out = valB 10000 (X.take i) * valB 10000 Y + 10000 ^ i * (X[i]?.getD 0 * valB 10000 (Y.take k))

theorem prod_start (X Y : List Int) : ProdR X Y 0 0 (List.replicate (X.length + Y.length) 0) := by
 refine ⟨by simp, fun j => ?_, by rw [valB_zeros]; simp [valB]⟩
 have h : (List.replicate (X.length + Y.length) (0 : Int))[j]?.getD 0 = 0 := by
  cases e : (List.replicate (X.length + Y.length) (0 : Int))[j]? with
  | none => rfl
  | some x => exact List.eq_of_mem_replicate (List.mem_of_getElem? e)
 rw [h]
 simp

theorem prod_bound {X Y out : List Int} {i k : Nat} (h : ProdR X Y i k out) (hi : i ≤ 60000) (j : Nat) : 0 ≤ out[j]?.getD 0 ∧ out[j]?.getD 0 ≤ 10000000000000 := by
 have h1 := h.2.1 j
 split at h1 <;> omega

theorem mul_piece4 {x y : Int} (hx0 : 0 ≤ x) (hx : x < 10000) (hy0 : 0 ≤ y) (hy : y < 10000) : 0 ≤ x * y ∧ x * y ≤ 100000000 := by
 have h1 : x * y ≤ 10000 * y := Int.mul_le_mul_of_nonneg_right (by omega) hy0
 exact ⟨Int.mul_nonneg hx0 hy0, by omega⟩

theorem prod_step {X Y out : List Int} {i k : Nat} (hi : i < X.length) (hk : k < Y.length) (dX : Digs 10000 X) (dY : Digs 10000 Y) (h : ProdR X Y i k out) :
  ProdR X Y i (k + 1) (out.set (i + k) (out[i + k]?.getD 0 + X[i]?.getD 0 * Y[k]?.getD 0)) := by
 obtain ⟨hl, hb, hv⟩ := h
 have hx := dX.at_ (by omega) i
 have hy := dY.at_ (by omega) k
 have hm := mul_piece4 hx.1 hx.2 hy.1 hy.2
 refine ⟨by simpa using hl, fun j => ?_, ?_⟩
 ·clear hv
  have hbj := hb j
  have hbk := hb (i + k)
  have hn : ¬ i + k < i + k := by omega
  rw [if_neg hn] at hbk
  clear hb
  by_cases h1 : j = i + k
  ·subst h1
   have hp : i + k < i + (k + 1) := by omega
   rw [List.getElem?_set_self (by omega), Option.getD_some, if_pos hp]
   generalize out[i + k]?.getD 0 = o at *
   generalize X[i]?.getD 0 * Y[k]?.getD 0 = q at *
   omega
  ·rw [List.getElem?_set_ne (by omega)]
   generalize out[j]?.getD 0 = o at *
   by_cases h2 : j < i + k
   ·have hp : j < i + (k + 1) := by omega
    rw [if_pos h2] at hbj
    rw [if_pos hp]
    exact hbj
   ·have hp : ¬ j < i + (k + 1) := by omega
    rw [if_neg h2] at hbj
    rw [if_neg hp]
    exact hbj
 ·rw [valB_set _ _ _ _ (by omega), valB_take_succ _ Y k hk, hv]
  generalize X[i]?.getD 0 = x at *
  generalize Y[k]?.getD 0 = y at *
  generalize out[i + k]?.getD 0 = o at *
  have h3 : (10000 : Int) ^ (i + k) = 10000 ^ i * 10000 ^ k := by grind
  rw [h3]
  generalize (10000 : Int) ^ i = p at *
  generalize (10000 : Int) ^ k = s at *
  grind

theorem prod_row {X Y out : List Int} {i : Nat} (hi : i < X.length) (h : ProdR X Y i Y.length out) : ProdR X Y (i + 1) 0 out := by
 obtain ⟨hl, hb, hv⟩ := h
 refine ⟨hl, fun j => ?_, ?_⟩
 ·clear hv
  have hbj := hb j
  clear hb
  generalize out[j]?.getD 0 = o at *
  have hle : o ≤ (i + 1) * 100000000 := by
   by_cases h2 : j < i + Y.length
   ·rw [if_pos h2] at hbj; exact hbj.2
   ·rw [if_neg h2] at hbj; omega
  refine ⟨hbj.1, ?_⟩
  by_cases h2 : j < i + 1 + 0
  ·rw [if_pos h2]; omega
  ·rw [if_neg h2]; omega
 ·rw [hv, valB_take_succ _ X i hi, List.take_length]
  simp [valB]
  grind

theorem prod_end {x y : Nat} {out : List Int} (h : ProdR (lim4 x) (lim4 y) (lim4 x).length 0 out) : valB 10000 out = ((x * y : Nat) : Int) := by
 obtain ⟨hl, hb, hv⟩ := h
 rw [hv, List.take_length, lim4_val, lim4_val]
 simp [valB]

set_option maxHeartbeats 2000000 in
theorem timesR_any (A1 A2 : Option Addr) (c1 c2 x y : Nat) (w : World) (hx : Sl w .i64 A1 c1 (lim4 x)) (hy : Sl w .i64 A2 c2 (lim4 y)) (hlx : (lim4 x).length ≤ 30000) (hly : (lim4 y).length ≤ 30000) :
  Calls Tryz.prog 74 #[.slice A1 (lim4 x).length c1, .slice A2 (lim4 y).length c2] w fun e w' => ∃ A c, e = .returned (.slice A (lim4 (x * y)).length c) ∧ Sl w' .i64 A c (lim4 (x * y)) ∧ Below w.heap.size w w' := by
 obtain ⟨X, hX⟩ : ∃ X : List Int, lim4 x = X := ⟨_, rfl⟩
 obtain ⟨Y, hY⟩ : ∃ Y : List Int, lim4 y = Y := ⟨_, rfl⟩
 have DX : Hid (Digs 10000 X) := by rw [← hX]; exact lim4_digs x
 have DY : Hid (Digs 10000 Y) := by rw [← hY]; exact lim4_digs y
 rw [hX] at hx hlx ⊢
 rw [hY] at hy hly ⊢
 have HX := Lib.hid hX
 have HY := Lib.hid hY
 clear hX hY
 have hmk := run_mkn Elem01 (X.length + Y.length) (by omega) ((X.length : Int) + Y.length) (by omega)
 have HT0 : Hid (Tab (w.alloc (.cells (zrow .i64 (X.length + Y.length)) 3)) w.heap.size 3 .i64 (List.replicate (X.length + Y.length) 0)) := Tab.made w _ _ _
 go_enter Tryz.func74, Tryz.ntmps74
 go_wp2
 go_loopw [6] (fun i wr => ∃ (j : Nat) (out : List Int), j ≤ X.length ∧ i = .int .i64 j ∧ Tab wr w.heap.size 3 .i64 out ∧ Below w.heap.size w wr ∧ ProdR X Y j 0 out) (fun i _ => X.length - (intOf i).toNat)
 case atStart => exact ⟨0, _, Nat.zero_le _, rfl, HT0.out, (Below.refl _ _).alloc (Nat.le_refl _) _, prod_start X Y⟩
 case round =>
  obtain ⟨j, out, hj, rfl, htab, hbel, hinv⟩ := hrel
  have HI := Lib.hid hinv
  have HT := Lib.hid htab
  have HB := Lib.hid hbel
  have hbs := hbel.size
  clear hinv htab hbel
  by_cases hlt : j < X.length
  ·go_wp2
   obtain ⟨wo, hwo⟩ : ∃ wo : World, wo = wr := ⟨_, rfl⟩
   rw [← hwo] at HB HT
   go_loopw [7] (fun i wr => ∃ (k : Nat) (out : List Int), k ≤ Y.length ∧ i = .int .i64 k ∧ Tab wr w.heap.size 3 .i64 out ∧ Below w.heap.size w wr ∧ ProdR X Y j k out) (fun i _ => Y.length - (intOf i).toNat)
   case atStart => exact ⟨0, out, Nat.zero_le _, rfl, by rw [← hwo]; exact HT.out, by rw [← hwo]; exact HB.out, HI.out⟩
   case round =>
    clear HT HB HI hwo hbs
    obtain ⟨k, out, hk, rfl, htab, hbel, hinv⟩ := hrel
    have HI := Lib.hid hinv
    have HT := Lib.hid htab
    have HB := Lib.hid hbel
    have hbs := hbel.size
    clear hinv htab hbel
    by_cases hlk : k < Y.length
    ·have hx1 := hx.below HB.out
     obtain ⟨bx, ox, rfl, hbx, hcx⟩ := hx1.at_ (by omega)
     have gx := hcx j hlt
     have bx1 := (DX.out.at_ (by omega) j).1
     have bx2 := (DX.out.at_ (by omega) j).2
     clear hcx hx1
     have hy1 := hy.below HB.out
     obtain ⟨by_, oy, rfl, hby, hcy⟩ := hy1.at_ (by omega)
     have gy := hcy k hlk
     clear hcy hy1
     have by1 := (DY.out.at_ (by omega) k).1
     have by2 := (DY.out.at_ (by omega) k).2
     have bo1 := (prod_bound HI.out (by omega) (j + k)).1
     have bo2 := (prod_bound HI.out (by omega) (j + k)).2
     have hjk : j + k < X.length + Y.length := by omega
     have go := HT.out.cell (j + k) (by have := HI.out.1; omega)
     have gf := HT.out.frozen (j + k)
     have HS := Lib.hid (prod_step hlt hlk DX.out DY.out HI.out)
     generalize hxx : X[j]?.getD 0 = xx at *
     generalize hyy : Y[k]?.getD 0 = yy at *
     generalize hoo : out[j + k]?.getD 0 = oo at *
     clear hyy hoo hxx
     have bm := mul_piece4 bx1 bx2 by1 by2
     have bm1 := bm.1
     have bm2 := bm.2
     clear bm
     go_wp2
     go_region
     go_wp2
     go_roundw
     case rel => exact ⟨k + 1, _, by omega, by go_num, (HT.out.set _ _).drewN 1, (HB.out.setCell (Nat.le_refl _) _).drew, HS.out⟩
     case measure => simp [intOf]; omega
    ·obtain rfl : k = Y.length := by omega
     have HE := Lib.hid (prod_row hlt HI.out)
     go_wp2
     go_roundw
     case rel => exact ⟨j + 1, out, by omega, by go_num, HT.out, HB.out, HE.out⟩
     case measure => simp [intOf]; omega
  ·obtain rfl : j = X.length := by omega
   have HE : Hid (valB 10000 out = ((x * y : Nat) : Int)) := by
    have hX := HX.out
    have hY := HY.out
    subst hX hY
    exact prod_end HI.out
   have HL : Hid (out.length = X.length + Y.length) := HI.out.1
   have HM : Hid (Mod 1000000000000000 out) := fun v hv => by
    obtain ⟨i, hi⟩ := List.mem_iff_getElem?.1 hv
    have := prod_bound HI.out (by omega) i
    rw [hi, Option.getD_some] at this
    omega
   clear hx hy
   have hca := carry_any (some ⟨w.heap.size, 0, none⟩) (X.length + Y.length) (x * y) out wr (HT.out.slN HL.out (by omega)) (by rw [HL.out]; omega) HM.out HE.out
   rw [HL.out] at hca
   have HC := Lib.hid hca
   clear hca
   go_wp2_with (go_at_call 104; refine HC.out.mono ?_; rintro e w'' ⟨A, c, rfl, h1, h2⟩)
   go_ret
   exact ⟨_, _, rfl, h1, HB.out.trans (h2.mono hbs)⟩

end Go.Proofs.YtnallacamijkeaaGreatDoor

/- The walk of klipperef01.take: digits become pieces of four. -/
namespace Go.Proofs.YtnallacamijkeaaGreatDoor
open Go.RowKit

theorem int_i64 {a b : Int} (h : a = b) : Value.int .i64 a = .int .i64 b := by rw [h]

def TakeInv (D : List UInt8) (m : Nat) (p : List Int) : Prop := Digs 10000 p ∧ p.length = m ∧ valB 10000 p = (dval (D.drop (D.length - 4 * m)) : Int)

theorem take_start (D : List UInt8) : TakeInv D 0 [] := ⟨Digs.nil, rfl, by simp [valB, dval_nil]⟩

theorem piece_lt {D : List UInt8} (hd : AllDig D) (st n : Nat) (hn : n ≤ 4) : dval ((D.drop st).take n) < 10000 := by
 have h1 := dval_lt ((hd.drop st).take n)
 have h2 : 10 ^ ((D.drop st).take n).length ≤ 10 ^ 4 := Nat.pow_le_pow_right (by omega) (by rw [List.length_take]; omega)
 omega

theorem piece_snoc {D : List UInt8} (st k : Nat) (hs : st ≤ k) (hk : k < D.length) : dval ((D.drop st).take (k + 1 - st)) = 10 * dval ((D.drop st).take (k - st)) + (D[k].toNat - 48) := by
 have e : k + 1 - st = (k - st) + 1 := by omega
 have hl : k - st < (D.drop st).length := by rw [List.length_drop]; omega
 rw [e, List.take_succ_eq_append_getElem hl, dval_snoc, List.getElem_drop]
 have e2 : D[st + (k - st)]'(by omega) = D[k] := by congr 1; omega
 rw [e2]; omega

theorem take_step {D : List UInt8} {m st E : Nat} {p : List Int} (h : TakeInv D m p) (hd : AllDig D) (hE : D.length - 4 * m = E) (hp : 0 < E) (hst : D.length - 4 * (m + 1) = st) :
  TakeInv D (m + 1) (p ++ [(dval ((D.drop st).take (E - st)) : Int)]) := by
 obtain ⟨h1, h2, h3⟩ := h
 have hlt := piece_lt hd st (E - st) (by omega)
 refine ⟨h1.snoc (by omega) (by omega), by simp [h2], ?_⟩
 rw [valB_snoc, h3, h2, hst, hE]
 have e : D.drop st = (D.drop st).take (E - st) ++ D.drop E := by
  conv => lhs; rw [← List.take_append_drop (E - st) (D.drop st)]
  rw [List.drop_drop, show st + (E - st) = E by omega]
 conv => rhs; rw [e]
 rw [dval_append, show (D.drop E).length = 4 * m by rw [List.length_drop]; omega, Nat.pow_mul]
 generalize dval ((D.drop st).take (E - st)) = u
 generalize dval (D.drop E) = v
 have e2 : ((10000 ^ m : Nat) : Int) = (10000 : Int) ^ m := by simp
 rw [show (10 : Nat) ^ 4 = 10000 from rfl, ← e2]
 generalize (10000 : Nat) ^ m = q
 simp only [Int.natCast_add, Int.natCast_mul]
 rw [Int.add_comm, Int.mul_comm]

theorem take_end {D : List UInt8} {m : Nat} {p : List Int} (h : TakeInv D m p) (hE : D.length - 4 * m = 0) : Digs 10000 p ∧ valB 10000 p = (dval D : Int) := by
 obtain ⟨h1, h2, h3⟩ := h
 rw [hE, List.drop_zero] at h3
 exact ⟨h1, h3⟩

set_option maxHeartbeats 2000000 in
theorem take_own (S : ByteArray) (w : World) (hd : AllDig S.data.toList) (hs : S.size ≤ 100000) :
  Calls Tryz.prog 69 #[.string S] w fun e w' => ∃ A c, e = .returned (.slice A (lim4 (dval S.data.toList)).length c) ∧ Sl w' .i64 A c (lim4 (dval S.data.toList)) ∧ Below w.heap.size w w' ∧ (A = none → c = 0) := by
 have HD := Lib.hid hd
 have hl : S.data.toList.length = S.size := (Lib.size_eq S).symm
 have HL := Lib.hid hl
 clear hd hl
 go_enter Tryz.func69, Tryz.ntmps69
 go_wp2
 go_loopw [3, 4] (fun pv ev wr => ∃ (m : Nat) (E : Int) (p : List Int) (Ao : Option Addr) (co : Nat), ev = .int .i64 E ∧ pv = .slice Ao m co ∧ E = (S.size : Int) - 4 * m ∧ -4 < E ∧ m ≤ S.size ∧ Own wr w.heap.size 3 .i64 Ao m co p ∧ Below w.heap.size w wr ∧ TakeInv S.data.toList m p) (fun _ ev _ => (intOf ev).toNat)
 case atStart => exact ⟨0, _, [], none, 0, rfl, rfl, by omega, by omega, by omega, Own.nil_ _ _ _ _, Below.refl _ _, take_start _⟩
 case round =>
  obtain ⟨m, E, p, Ao, co, rfl, rfl, hE, hE4, hm, hown, hbel, hinv⟩ := hrel
  have HI := Lib.hid hinv
  have HO := Lib.hid hown
  have HB := Lib.hid hbel
  have hbs := hbel.size
  clear hinv hown hbel
  by_cases hp : 0 < E
  ·obtain ⟨e, rfl⟩ := Int.eq_ofNat_of_zero_le (Int.le_of_lt hp)
   obtain ⟨st, hst⟩ : ∃ st : Nat, S.size - 4 * (m + 1) = st := ⟨_, rfl⟩
   have hse : st < e := by omega
   have hee : e ≤ S.size := by omega
   have hs4 : e - st ≤ 4 := by omega
   have HS := Lib.hid (take_step HI.out HD.out (show S.data.toList.length - 4 * m = e by rw [HL.out]; omega) (by omega) (show S.data.toList.length - 4 * (m + 1) = st by rw [HL.out]; exact hst))
   have hE2 : (e : Int) - 4 = (S.size : Int) - 4 * ((m + 1 : Nat) : Int) := by omega
   have HE2 := Lib.hid hE2
   have hm1 : m + 1 ≤ S.size := by omega
   have hst0 : e ≤ 4 → st = 0 := fun h => by omega
   have hst1 : 4 < e → (e : Int) - 4 = (st : Int) := fun h => by omega
   clear hst hE hE2 hE4
   by_cases h4 : 4 < e
   all_goals
    go_wp2
    have HST : Hid (Value.int .i64 (if 4 < e then (e : Int) - 4 else 0) = Value.int .i64 (st : Int)) := by
     by_cases h5 : 4 < e
     ·rw [if_pos h5, hst1 h5]; rfl
     ·rw [if_neg h5, hst0 (by omega)]; rfl
    first | rw [if_pos h4] at HST | rw [if_neg h4] at HST
    have HST2 : Hid (Value.int .i64 (max 0 ((e : Int) - 4)) = Value.int .i64 (st : Int)) := by
     refine int_i64 ?_
     by_cases h5 : 4 < e
     ·rw [hst1 h5]; omega
     ·rw [hst0 (by omega)]; omega
    clear hst0 hst1
    go_loop [5, 6] (fun nv iv => ∃ (k u : Nat), st ≤ k ∧ k ≤ e ∧ iv = .int .i64 k ∧ nv = .int .i64 u ∧ u < 10000 ∧ Hid (u = dval ((S.data.toList.drop st).take (k - st)))) (fun _ iv => e - (intOf iv).toNat)
    case atStart => exact ⟨st, 0, Nat.le_refl _, by omega, (by first | exact HST.out | exact HST2.out | rfl), rfl, by omega, by rw [Nat.sub_self]; rfl⟩
    case round =>
     obtain ⟨k, u, hk1, hk2, rfl, rfl, hu, HU⟩ := hrel
     by_cases hlt : k < e
     ·have hkS : k < S.size := by omega
      have hd1 := HD.out S.data.toList[k] (List.getElem_mem _)
      have hd2 : 48 ≤ S[k].toNat ∧ S[k].toNat ≤ 57 := hd1
      have hb1 := hd2.1
      have hb2 := hd2.2
      have HN : Hid (10 * u + (S[k].toNat - 48) = dval ((S.data.toList.drop st).take (k + 1 - st)) ∧ 10 * u + (S[k].toNat - 48) < 10000) := by
       have h1 := piece_snoc (D := S.data.toList) st k hk1 (by rw [HL.out]; exact hkS)
       have h2 := piece_lt HD.out st (k + 1 - st) (by omega)
       have h3 : S.data.toList[k] = S[k] := rfl
       rw [h3, ← HU.out] at h1
       exact ⟨h1.symm, by omega⟩
      clear hd1 hd2
      go_wp2
      go_round
      case rel => exact ⟨k + 1, 10 * u + (S[k].toNat - 48), by omega, by omega, by go_num, int_i64 (by omega), HN.out.2, HN.out.1⟩
      case measure => simp [intOf]; omega
     ·obtain rfl : k = e := by omega
      have HV : Hid (p ++ [(dval ((S.data.toList.drop st).take (k - st)) : Int)] = p ++ [(u : Int)]) := by rw [← HU.out]; rfl
      go_wp2_with (at_builtin; refine pushI rfl (.tmp 29) (.tmp 31) rfl w.heap.size Ao m co p wr rfl HO.out (u : Int) rfl (by omega) hbs ?_; intro A' c' w' hown' hg'; have HO' := Lib.hid hown'; have HG' := Lib.hid hg'; clear hown' hg')
      go_roundw
      case rel => exact ⟨m + 1, _, _, A', c', rfl, rfl, HE2.out, by omega, hm1, HO'.out, HO.out.grownBelow HG'.out HB.out (Nat.le_refl _) hbs, by rw [← HV.out]; exact HS.out⟩
      case measure => simp [intOf]; omega
  ·have HE := Lib.hid (take_end HI.out (by rw [HL.out]; omega))
   go_wp2_with (go_at_call 102; refine (cut_to Ao co _ (dval S.data.toList) _ _ HO.out.sl HO.out.len (by omega) HE.out.1 HE.out.2).mono ?_; rintro e w'' ⟨rfl, rfl⟩)
   go_ret
   exact ⟨Ao, co, rfl, HO.out.sl.to4 HE.out.1 HE.out.2, HB.out, HO.out.none_cap⟩

theorem take_any (S : ByteArray) (w : World) (hd : AllDig S.data.toList) (hs : S.size ≤ 100000) :
  Calls Tryz.prog 69 #[.string S] w fun e w' => ∃ A c, e = .returned (.slice A (lim4 (dval S.data.toList)).length c) ∧ Sl w' .i64 A c (lim4 (dval S.data.toList)) ∧ Below w.heap.size w w' :=
 (take_own S w hd hs).mono fun _ _ ⟨A', c', h1, h2, h3, _⟩ => ⟨A', c', h1, h2, h3⟩

end Go.Proofs.YtnallacamijkeaaGreatDoor

/- The walk of klipperef01.Split at whatever text. -/
namespace Go.Proofs.YtnallacamijkeaaGreatDoor
open Go.RowKit

set_option maxHeartbeats 400000 in
theorem split_minus (s : ByteArray) (w : World) (hs : s.size ≤ 1000000) (h0 : 0 < s.size) (hc : ((s[0].toNat : Int) == 45) = true) :
  Calls Tryz.prog 68 #[.string s] w fun e w' => e = .returned (.tuple #[.bool true, .string (s.extract 1 s.size)]) ∧ Drew w w' := by
 go_enter Tryz.func68, Tryz.ntmps68
 go_wp2
 go_quiet (fail)
 go_wp2
 go_ret2
 exact ⟨rfl, Drew.of _ _⟩

set_option maxHeartbeats 400000 in
theorem split_plain (s : ByteArray) (w : World) (hs : s.size ≤ 1000000) (hc : ∀ h0 : 0 < s.size, ((s[0].toNat : Int) == 45) = false) :
  Calls Tryz.prog 68 #[.string s] w fun e w' => e = .returned (.tuple #[.bool false, .string s]) ∧ w = w' := by
 by_cases h0 : 0 < s.size
 ·have hc0 := hc h0
  clear hc
  go_enter Tryz.func68, Tryz.ntmps68
  go_wp2
  go_ret2
  exact ⟨rfl, rfl⟩
 ·clear hc
  have he : s = ⟨#[]⟩ := by
   obtain ⟨⟨l⟩⟩ := s
   have h : l.length = 0 := by simpa [ByteArray.size] using h0
   rw [List.length_eq_zero_iff.1 h]
  subst he
  go_enter Tryz.func68, Tryz.ntmps68
  go_wp2
  go_ret2
  exact ⟨rfl, rfl⟩

end Go.Proofs.YtnallacamijkeaaGreatDoor

/- The walk of klipperef01.Neg at zero and at a text without a minus sign. -/
namespace Go.Proofs.YtnallacamijkeaaGreatDoor
open Go.RowKit

set_option maxHeartbeats 400000 in
theorem negR_zero (s : ByteArray) (w : World) (hs : s.toList = [48]) :
  Calls Tryz.prog 47 #[.string s] w fun e w' => e = .returned (.string s) ∧ Below w.heap.size w w' := by
 have hl : s.data.toList = [48] := by rw [← ByteArray.toList_eq]; exact hs
 have he : s = ⟨#[48]⟩ := by obtain ⟨⟨l⟩⟩ := s; simp at hl; rw [hl]
 subst he
 have hp := split_plain ⟨#[48]⟩ w (by decide) (fun _ => rfl)
 have HP := Lib.hid hp
 clear hp hl hs
 go_enter Tryz.func47, Tryz.ntmps47
 go_wp2_with (go_at_call 68; refine HP.out.mono ?_; rintro e w' ⟨rfl, rfl⟩)
 go_ret
 exact ⟨rfl, Below.refl _ _⟩

set_option maxHeartbeats 400000 in
theorem negR_plain (s : ByteArray) (w : World) (hz : (s.toList == [48]) = false) (hs : s.size ≤ 1000000) (hc : ∀ h0 : 0 < s.size, ((s[0].toNat : Int) == 45) = false) :
  Calls Tryz.prog 47 #[.string s] w fun e w' => e = .returned (.string ⟨(45 :: s.data.toList).toArray⟩) ∧ Below w.heap.size w w' := by
 have hp := split_plain s w hs hc
 have HP := Lib.hid hp
 clear hp hc
 go_enter Tryz.func47, Tryz.ntmps47
 go_wp2_with (go_at_call 68; refine HP.out.mono ?_; rintro e w' ⟨rfl, rfl⟩)
 go_ret
 exact ⟨by rw [minus_app]; rfl, Below.refl _ _⟩

end Go.Proofs.YtnallacamijkeaaGreatDoor

/- The walks of klipperef01.Split and Neg at an integer, of give and made: pieces become an integer. -/
namespace Go.Proofs.YtnallacamijkeaaGreatDoor
open Go.RowKit

theorem ba_ext {a b : ByteArray} (h : a.data.toList = b.data.toList) : a = b := by
 obtain ⟨⟨l⟩⟩ := a
 obtain ⟨⟨m⟩⟩ := b
 simp at h
 rw [h]

theorem ba_append (a b : ByteArray) : (a ++ b).data.toList = a.data.toList ++ b.data.toList := by simp [ByteArray.data_append]

theorem canon_neg_eq (z : Int) (h : z < 0) : canon z = ⟨(45 :: mdig z).toArray⟩ := by
 rcases itoa_cases z with ⟨h1, e⟩ | ⟨h1, e⟩
 ·omega
 ·unfold canon; rw [e]
theorem canon_nn_eq (z : Int) (h : 0 ≤ z) : canon z = mag z := by
 rcases itoa_cases z with ⟨h1, e⟩ | ⟨h1, e⟩
 ·unfold canon mag; rw [e]
 ·omega

theorem get0 {s : ByteArray} {c : UInt8} {l : List UInt8} (h : s.data.toList = c :: l) (h0 : 0 < s.size) : s[0] = c := by
 have h1 : s[0] = s.data.toList[0]'(by rw [h]; simp) := rfl
 rw [h1]
 simp [h]

theorem splitR_canon (z : Int) (w : World) (hs : (canon z).size ≤ 1000000) :
  Calls Tryz.prog 68 #[.string (canon z)] w fun e w' => e = .returned (.tuple #[.bool (decide (z < 0)), .string (mag z)]) ∧ Drew w w' := by
 by_cases hz : z < 0
 ·have hd : (canon z).data.toList = 45 :: mdig z := by rw [canon_neg_eq z hz]
  have h0 : 0 < (canon z).size := by rw [Lib.size_eq, hd]; simp
  have h := split_minus (canon z) w hs h0 (by rw [get0 hd h0]; rfl)
  have e : (canon z).extract 1 (canon z).size = mag z := ba_ext (by rw [Lib.extract_to_end, hd]; rfl)
  rw [e] at h
  rw [decide_eq_true hz]
  exact h
 ·have hd : (canon z).data.toList = mdig z := by rw [canon_nn_eq z (by omega)]; rfl
  have h := split_plain (canon z) w hs (fun h0 => by
   have h2 := mdig_all z (canon z)[0] (by rw [← hd]; exact List.getElem_mem (l := (canon z).data.toList) h0)
   exact beq_eq_false_iff_ne.2 (by omega))
  rw [canon_nn_eq z (by omega)] at h ⊢
  rw [decide_eq_false hz]
  exact h.mono fun e w' ⟨h1, h2⟩ => ⟨h1, by subst h2; exact Drew.refl _⟩

set_option maxRecDepth 100000 in
set_option maxHeartbeats 2000000 in
theorem give_any (A : Option Addr) (c n : Nat) (w : World) (h : Sl w .i64 A c (lim4 n)) (hlen : (lim4 n).length ≤ 20000) (ht : Pow10 w) :
  Calls Tryz.prog 103 #[.slice A (lim4 n).length c] w fun e w' => e = .returned (.string ⟨(Lib.decDigits n).toArray⟩) ∧ Below w.heap.size w w' := by
 rcases Nat.eq_zero_or_pos n with h0 | hn
 ·subst h0
  have e0 : (lim4 0).length = 0 := rfl
  have e1 : Hid (Lib.decDigits 0 = [48]) := decDigits_lt 0 (by omega)
  rw [e0]
  clear h hlen ht e0
  go_enter Tryz.func103, Tryz.ntmps103
  go_wp2
  go_ret
  rw [e1.out]
  exact ⟨rfl, Below.refl _ _⟩
 ·have hl0 : 0 < (lim4 n).length := by
   rcases Nat.eq_zero_or_pos (lim4 n).length with h1 | h1
   ·have := (lim4_len_zero n).1 h1; omega
   ·exact h1
  obtain ⟨b, o, rfl, hb, hc⟩ := h.at_ hl0
  obtain ⟨K, hK⟩ : ∃ K, (lim4 n).length = K + 1 := ⟨(lim4 n).length - 1, by omega⟩
  have hKl : K < (lim4 n).length := by omega
  have ne0 : (((lim4 n).length : Int) == 0) = false := beq_eq_false_iff_ne.2 (by omega)
  have eK : ((lim4 n).length : Int) - 1 = (K : Int) := by omega
  have eK2 : ((lim4 n).length : Int) - 2 = (K : Int) - 1 := by omega
  obtain ⟨tp, htp⟩ : ∃ z, n / 10000 ^ K = z := ⟨_, rfl⟩
  have hv := piece_val4 n K hKl
  have hp1 := div_past4 n
  rw [hK] at hp1
  rw [hp1, htp] at hv
  have gt := hc K hKl
  rw [show (lim4 n)[K]?.getD 0 = (tp : Int) by omega] at gt
  have ht4 := at4 n K
  rw [show (lim4 n)[K]?.getD 0 = (tp : Int) by omega] at ht4
  have htl : (tp : Int) < 10000 := ht4.2
  have hi := fun (v : Int) (hv0 : 0 ≤ v) (hv1 : v ≤ 100000) W (hW : Below w.heap.size w W) => itoa_any v (by omega) (by omega) W (ht.below hW)
  have hsz0 : (canon (tp : Int)).size ≤ 4 := by
   show (Lib.itoa (tp : Int)).length ≤ 4
   rw [itoa_of_nat]
   exact decDigits_len_le 4 tp (by omega) (by omega)
  have hd0 : (canon (tp : Int)).data.toList = Lib.decDigits (n / 10000 ^ K) := by rw [canon_data, itoa_of_nat, htp]
  have HD0 := Lib.hid hd0
  have HI := Lib.hid hi
  have HC := Lib.hid hc
  have HKK := Lib.hid hK
  have hKb : K ≤ 20000 := by omega
  clear hi hc hK hp1 hv htp hd0 ht4 ht h
  generalize hLL : (lim4 n).length = LL at *
  have HLL := Lib.hid hLL
  clear hLL
  go_enter Tryz.func103, Tryz.ntmps103
  go_wp2_with (go_at_call 50; refine (HI.out _ (by omega) (by omega) _ (Below.refl _ _)).mono ?_; rintro e w1 ⟨rfl, b1⟩; have B1 := Lib.hid b1; clear b1)
  clear eK eK2 gt ne0
  go_loopw [3, 4] (fun ov iv wr => ∃ (k : Nat) (j : Int) (S : ByteArray), k ≤ K ∧ j = k - 1 ∧ iv = .int .i64 j ∧ ov = .string S ∧ S.size + 4 * k ≤ 4 * K + 4 ∧ Hid (S.data.toList = Lib.decDigits (n / 10000 ^ k)) ∧ Below w.heap.size w wr) (fun _ iv _ => (intOf iv + 1).toNat)
  case atStart => exact ⟨K, _, _, Nat.le_refl _, rfl, rfl, rfl, by omega, HD0.out, B1.out⟩
  case round =>
   clear HD0 B1 hsz0
   obtain ⟨k, j, S, hk, hj, rfl, rfl, hS, HS, hbl⟩ := hrel
   have HB := Lib.hid hbl
   clear hbl
   cases k with
   | zero =>
    obtain rfl : j = -1 := by omega
    have he : Hid (Lib.decDigits n = S.data.toList) := by have := HS.out; rw [Nat.pow_zero, Nat.div_one] at this; exact this.symm
    clear hj
    go_wp2
    go_ret
    rw [he.out]
    exact ⟨rfl, HB.out⟩
   | succ m =>
    obtain rfl : j = (m : Int) := by omega
    have hml : m < (lim4 n).length := by have := HKK.out; have := HLL.out; omega
    have gm := (HB.out.cell (p := ⟨b, o + m, none⟩) hb).trans (HC.out m (by have := HKK.out; omega))
    have hd4 := at4 n m
    have hv := piece_val4 n m hml
    obtain ⟨d, hd⟩ : ∃ d : Nat, (lim4 n)[m]?.getD 0 = (d : Int) := ⟨((lim4 n)[m]?.getD 0).toNat, by omega⟩
    rw [hd] at gm hd4 hv
    have hq : 0 < n / 10000 ^ (m + 1) := top_pos4 n (m + 1) hn (by have := HKK.out; have := HLL.out; omega)
    have hst := dec_step (n / 10000 ^ (m + 1)) d hq (by omega)
    rw [show d + 10000 * (n / 10000 ^ (m + 1)) = n / 10000 ^ m by omega] at hst
    have hx5 : (canon (10000 + (d : Int))).size = 5 := by
     show (Lib.itoa (10000 + (d : Int))).length = 5
     rw [show (10000 : Int) + (d : Int) = ((10000 + d : Nat) : Int) by omega, itoa_of_nat]
     have h1 := decDigits_len_le 5 (10000 + d) (by omega) (by omega)
     have h2 := decDigits_len_ge 4 (10000 + d) (by omega)
     omega
    have hxd : (canon (10000 + (d : Int))).data.toList = Lib.decDigits (10000 + d) := by
     rw [canon_data, show (10000 : Int) + (d : Int) = ((10000 + d : Nat) : Int) by omega, itoa_of_nat]
    rw [← hxd, ← HS.out] at hst
    have hd0 : 0 ≤ (d : Int) := by omega
    have hd1 : (d : Int) < 10000 := hd4.2
    have hmK : m < LL := by have := HKK.out; omega
    have hit := HI.out (10000 + (d : Int)) (by omega) (by omega)
    generalize canon (10000 + (d : Int)) = X at *
    have hX1 : 1 ≤ X.size := by omega
    have hX2 : X.size ≤ 5 := by omega
    have HX5 := Lib.hid hx5
    have HST := Lib.hid hst
    have HIT := Lib.hid hit
    have hS2 : S.size ≤ 100000 := by omega
    clear hx5 hst hit hxd hv hq hd4 hd hj
    go_wp2_with (go_at_call 50; refine (HIT.out _ HB.out).mono ?_; rintro e w2 ⟨rfl, b2⟩; have B2 := Lib.hid (HB.out.trans (b2.mono HB.out.size)); clear b2)
    go_roundw
    case rel =>
     refine ⟨m, (m : Int) - 1, S ++ X.extract 1 X.size, by omega, rfl, rfl, rfl, ?_, ?_, B2.out⟩
     ·have h5 := HX5.out
      simp [ByteArray.size_append]
      omega
     ·show (S ++ X.extract 1 X.size).data.toList = _
      rw [HST.out, ba_append, Lib.extract_to_end]
    case measure => simp [intOf]

end Go.Proofs.YtnallacamijkeaaGreatDoor

/- The walk of klipperef01.made: a sign and pieces become an integer; Neg at an integer that is not negative. -/
namespace Go.Proofs.YtnallacamijkeaaGreatDoor
open Go.RowKit

theorem canon_nat (n : Nat) : canon (n : Int) = ⟨(Lib.decDigits n).toArray⟩ := by unfold canon; rw [itoa_of_nat]
theorem canon_negnat (n : Nat) (h : 0 < n) : canon (-(n : Int)) = ⟨(45 :: Lib.decDigits n).toArray⟩ := by unfold canon; rw [itoa_of_neg n h]

theorem dec_len_lim4 (n : Nat) : (Lib.decDigits n).length ≤ 4 * (lim4 n).length + 1 := by
 have h := lim_lt_pow 10000 (by omega) n
 rw [show (10000 : Nat) = 10 ^ 4 from rfl, ← Nat.pow_mul] at h
 have h2 : (10 : Nat) ^ (4 * (lim (10 ^ 4) n).length) ≤ 10 ^ (4 * (lim4 n).length + 1) := Nat.pow_le_pow_right (by omega) (by have : (lim4 n).length = (lim (10 ^ 4) n).length := rfl; omega)
 exact decDigits_len_le _ n (by omega) (by omega)

set_option maxHeartbeats 1000000 in
theorem made_any (m : Bool) (A : Option Addr) (c n : Nat) (w : World) (h : Sl w .i64 A c (lim4 n)) (hlen : (lim4 n).length ≤ 20000) (ht : Pow10 w) :
  Calls Tryz.prog 70 #[.bool m, .slice A (lim4 n).length c] w fun e w' => e = .returned (.string (canon (if m then -(n : Int) else (n : Int)))) ∧ Below w.heap.size w w' := by
 have hcu := cut_lim A c n w h (by omega)
 have hgi := give_any A c n w h hlen ht
 have hdl := dec_len_lim4 n
 have hsz : (⟨(Lib.decDigits n).toArray⟩ : ByteArray).size ≤ 100000 := by
  show (Lib.decDigits n).length ≤ 100000
  omega
 obtain ⟨Z, hZ⟩ : ∃ Z : Int, (if m = true then -(n : Int) else (n : Int)) = Z := ⟨_, rfl⟩
 rw [hZ]
 have HCU := Lib.hid hcu
 have HGI := Lib.hid hgi
 clear hcu hgi hdl h hlen ht
 cases m with
 | false =>
  have HF : Hid (canon Z = ⟨(Lib.decDigits n).toArray⟩) := by rw [← hZ, if_neg (by simp)]; exact canon_nat n
  clear hZ
  generalize (⟨(Lib.decDigits n).toArray⟩ : ByteArray) = G at *
  go_enter Tryz.func70, Tryz.ntmps70
  go_wp2_with (first
   | (go_at_call 102; refine HCU.out.mono ?_; rintro e w' ⟨rfl, rfl⟩)
   | (go_at_call 103; refine HGI.out.mono ?_; rintro e w1 ⟨rfl, b1⟩; have B1 := Lib.hid b1; clear b1))
  go_ret
  rw [HF.out]
  exact ⟨rfl, B1.out⟩
 | true =>
  rcases Nat.eq_zero_or_pos (lim4 n).length with h0 | h0
  ·have hn : n = 0 := (lim4_len_zero n).1 h0
   have HF : Hid (canon Z = ⟨(Lib.decDigits n).toArray⟩) := by
    rw [← hZ, if_pos rfl, ← canon_nat n, hn]; rfl
   have d1 : decide ((0 : Int) < ((lim4 n).length : Int)) = false := decide_eq_false (by omega)
   have d2 : decide (0 < (lim4 n).length) = false := decide_eq_false (by omega)
   generalize (⟨(Lib.decDigits n).toArray⟩ : ByteArray) = G at *
   clear h0 hn hZ
   go_enter Tryz.func70, Tryz.ntmps70
   go_wp2_with (first
    | (go_at_call 102; refine HCU.out.mono ?_; rintro e w' ⟨rfl, rfl⟩)
    | (go_at_call 103; refine HGI.out.mono ?_; rintro e w1 ⟨rfl, b1⟩; have B1 := Lib.hid b1; clear b1))
   go_ret
   rw [HF.out]
   exact ⟨rfl, B1.out⟩
  ·have hn : 0 < n := by
    rcases Nat.eq_zero_or_pos n with h1 | h1
    ·subst h1; simp [lim4, lim_zero] at h0
    ·exact h1
   have HF : Hid (canon Z = (⟨#[45]⟩ : ByteArray) ++ ⟨(Lib.decDigits n).toArray⟩) := by
    rw [← hZ, if_pos rfl]
    exact (canon_negnat n hn).trans (minus_app ⟨(Lib.decDigits n).toArray⟩).symm
   generalize (⟨(Lib.decDigits n).toArray⟩ : ByteArray) = G at *
   clear hn hZ
   go_enter Tryz.func70, Tryz.ntmps70
   go_wp2_with (first
    | (go_at_call 102; refine HCU.out.mono ?_; rintro e w' ⟨rfl, rfl⟩)
    | (go_at_call 103; refine HGI.out.mono ?_; rintro e w1 ⟨rfl, b1⟩; have B1 := Lib.hid b1; clear b1))
   go_ret
   rw [HF.out]
   exact ⟨rfl, B1.out⟩

theorem negR_nat (n : Nat) (w : World) (hs : (canon (n : Int)).size ≤ 1000000) :
  Calls Tryz.prog 47 #[.string (canon (n : Int))] w fun e w' => e = .returned (.string (canon (-(n : Int)))) ∧ Below w.heap.size w w' := by
 rcases Nat.eq_zero_or_pos n with h | h
 ·subst h
  have h1 := negR_zero (canon ((0 : Nat) : Int)) w canon_zero_list
  exact h1
 ·have hd : (canon (n : Int)).data.toList = Lib.decDigits n := by rw [canon_nat]
  have h1 := negR_plain (canon (n : Int)) w (by rw [canon_beq0]; simp; omega) hs (fun h0 => by
   have h2 := decDigits_all n (canon (n : Int))[0] (by rw [← hd]; exact List.getElem_mem (l := (canon (n : Int)).data.toList) h0)
   exact beq_eq_false_iff_ne.2 (by omega))
  rw [hd, ← canon_negnat n h] at h1
  exact h1

end Go.Proofs.YtnallacamijkeaaGreatDoor

/- The walk of klipperef01.Small at an integer of at most 18 digits. -/
namespace Go.Proofs.YtnallacamijkeaaGreatDoor
open Go.RowKit

set_option maxRecDepth 100000 in
set_option maxHeartbeats 4000000 in
theorem smallR_small (z : Int) (w : World) (hz : (mag z).size ≤ 18) :
  Calls Tryz.prog 73 #[.string (canon z)] w fun e w' => e = .returned (.tuple #[.int .i64 z, .bool true]) ∧ Below w.heap.size w w' := by
 have hsp := splitR_canon z w (by
  have h1 : (canon z).size ≤ (mag z).size + 1 := by
   show (Lib.itoa z).length ≤ (mdig z).length + 1
   rcases itoa_cases z with ⟨_, h⟩ | ⟨_, h⟩ <;> rw [h] <;> simp
  omega)
 have hall : AllDig (mag z).data.toList := mdig_all z
 have hval : dval (mag z).data.toList = z.natAbs := mdig_val z
 have hzs : z.natAbs < 1000000000000000000 := by
  have h1 := dval_lt hall
  rw [hval, ← Lib.size_eq] at h1
  have h2 : (10 : Nat) ^ (mag z).size ≤ 10 ^ 18 := Nat.pow_le_pow_right (by omega) hz
  omega
 obtain ⟨S, hS⟩ : ∃ S, mag z = S := ⟨_, rfl⟩
 rw [hS] at hsp hall hval hz
 have hl : S.data.toList.length = S.size := (Lib.size_eq S).symm
 have HL := Lib.hid hl
 have HD := Lib.hid hall
 have HV := Lib.hid hval
 have HSP := Lib.hid hsp
 have HZS := Lib.hid hzs
 clear hl hall hval hsp hS hzs
 obtain ⟨sz, hsz⟩ : ∃ b, decide (z < 0) = b := ⟨_, rfl⟩
 have HSZ := Lib.hid hsz
 have HSP2 := HSP.out
 rw [hsz] at HSP2
 have HSP3 := Lib.hid HSP2
 clear HSP HSP2 hsz
 go_enter Tryz.func73, Tryz.ntmps73
 go_wp2_with (go_at_call 68; refine HSP3.out.mono ?_; rintro e w1 ⟨rfl, nd, rfl⟩)
 go_loop [6, 7] (fun nv iv => ∃ (k u : Nat), k ≤ S.size ∧ iv = .int .i64 k ∧ nv = .int .i64 (-(u : Int)) ∧ u < 1000000000000000000 ∧ Hid (u = dval (S.data.toList.take k))) (fun _ iv => S.size - (intOf iv).toNat)
 case atStart => exact ⟨0, 0, Nat.zero_le _, rfl, rfl, by omega, rfl⟩
 case round =>
  obtain ⟨k, u, hk, rfl, rfl, hu, HU⟩ := hrel
  by_cases hlt : k < S.size
  ·have hd1 := HD.out S.data.toList[k] (List.getElem_mem (by rw [HL.out]; exact hlt))
   have hd2 : 48 ≤ S[k].toNat ∧ S[k].toNat ≤ 57 := hd1
   have hu17 : u < 100000000000000000 := by
    have h1 := dval_lt (HD.out.take k)
    have h2 : (10 : Nat) ^ (S.data.toList.take k).length ≤ 10 ^ 17 := Nat.pow_le_pow_right (by omega) (by rw [List.length_take]; omega)
    rw [← HU.out] at h1
    omega
   have HN : Hid (10 * u + (S[k].toNat - 48) = dval (S.data.toList.take (k + 1))) := by
    have h1 := piece_snoc (D := S.data.toList) 0 k (Nat.zero_le _) (by rw [HL.out]; exact hlt)
    rw [Nat.sub_zero, Nat.sub_zero, List.drop_zero] at h1
    have h3 : S.data.toList[k]'(by rw [HL.out]; exact hlt) = S[k] := rfl
    rw [h3, ← HU.out] at h1
    exact h1.symm
   obtain ⟨d, hd⟩ : ∃ d : Nat, S[k].toNat = 48 + d := ⟨S[k].toNat - 48, by omega⟩
   have hd9 : d ≤ 9 := by omega
   rw [hd, Nat.add_sub_cancel_left] at HN
   clear hd1 hd2
   have hc : d = 0 ∨ d = 1 ∨ d = 2 ∨ d = 3 ∨ d = 4 ∨ d = 5 ∨ d = 6 ∨ d = 7 ∨ d = 8 ∨ d = 9 := by omega
   clear hd9
   rcases hc with rfl | rfl | rfl | rfl | rfl | rfl | rfl | rfl | rfl | rfl
   all_goals
    go_wp2
    go_round
    case rel => exact ⟨k + 1, _, by omega, by go_num, int_i64 (by omega), by omega, HN.out⟩
    case measure => simp [intOf]; omega
  ·obtain rfl : k = S.size := by omega
   have hu2 : u = z.natAbs := by
    have := HU.out
    rw [← HL.out, List.take_length, HV.out] at this
    exact this
   have HS2 := HSZ.out
   have HU2 := Lib.hid hu2
   clear hu2 HU
   cases hsz : sz with
   | true =>
    rw [hsz] at HS2
    have hzn : Hid (z = -(u : Int)) := by have := of_decide_eq_true HS2; have := HU2.out; show z = _; omega
    subst hsz
    clear HS2
    go_wp2
    go_ret2
    rw [hzn.out]
    exact ⟨rfl, (Drew.of _ _).below _⟩
   | false =>
    rw [hsz] at HS2
    have hzn : Hid (z = (u : Int)) := by have := of_decide_eq_false HS2; have := HU2.out; show z = _; omega
    have t1 : ((-(u : Int)) == -9223372036854775808) = false := beq_eq_false_iff_ne.2 (by omega)
    subst hsz
    clear HS2
    go_wp2
    go_ret2
    rw [hzn.out]
    exact ⟨by simp, (Drew.of _ _).below _⟩

end Go.Proofs.YtnallacamijkeaaGreatDoor
