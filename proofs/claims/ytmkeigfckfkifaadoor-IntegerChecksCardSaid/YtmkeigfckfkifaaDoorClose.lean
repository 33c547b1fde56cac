/- The walk of (number).close: sign and pieces become the numeral. -/
import Derived.Test.YtmkeigfckfkifaaDoorBack
import Derived.Test.YtmkeigfckfkifaaDoorBuilder
import Derived.Test.YtmkeigfckfkifaaDoorFmt
import Derived.Test.YtmkeigfckfkifaaDoorDec
namespace Go.Proofs.YtmkeigfckfkifaaDoor
open Go.RowKit Go.Shelf

attribute [local go_sem] Oper.semAt_some

/-- The numeral of an integer, as a string. -/
def canon (z : Int) : ByteArray := ⟨(Lib.itoa z).toArray⟩

/-- A piece's digits, with zeros ahead. -/
def pad9 (x : Int) : List UInt8 := (List.replicate 9 48).drop (Lib.decDigits x.toNat).length ++ Lib.decDigits x.toNat

/-- What one round writes. -/
def chunk (N : Nat) (x : Int × Int) : List UInt8 := if x.1 < (N : Int) - 1 then pad9 x.2 else Lib.decDigits x.2.toNat

def emit (N : Nat) (l : List (P9 N)) : List UInt8 := l.flatMap (fun x => chunk N x.v)

theorem emit_snoc (N : Nat) (l : List (P9 N)) (x : P9 N) : emit N (l ++ [x]) = emit N l ++ chunk N x.v := by simp [emit]

theorem dec9_len {x : Int} (h0 : 0 ≤ x) (h1 : x < 1000000000) : (Lib.decDigits x.toNat).length ≤ 9 := decDigits_len_le 9 x.toNat (by omega) (by omega)

theorem zeros_all (n : Nat) : AllDig (List.replicate n 48) := fun c hc => by
  rw [List.eq_of_mem_replicate hc]
  decide

theorem zeros_val (n : Nat) : dval (List.replicate n 48) = 0 := by
  induction n with
  | zero => rfl
  | succ n ih => rw [List.replicate_succ, dval_cons, ih]; simp

theorem pad9_facts {x : Int} (h0 : 0 ≤ x) (h1 : x < 1000000000) : (pad9 x).length = 9 ∧ AllDig (pad9 x) ∧ dval (pad9 x) = x.toNat := by
  have hl := dec9_len h0 h1
  refine ⟨by simp [pad9]; omega, (AllDig.drop (zeros_all 9) _).append (decDigits_all _), ?_⟩
  rw [pad9, dval_append, List.drop_replicate, zeros_val, decDigits_val]
  simp

/-- All rounds together write the numeral. -/
theorem emit_all (n : Nat) (hn : 0 < n) (hl : 0 < (lim9 n).length) : emit (lim9 n).length (uptoF (backP (lim9 n) (lim9_digs n) hl) (lim9 n).length) = Lib.decDigits n := by
  obtain ⟨Z, hZ⟩ : ∃ Z, lim9 n = Z := ⟨_, rfl⟩
  have key : ∀ k, k ≤ Z.length → 0 < k → ∀ (hd : Digs 1000000000 Z) (hl : 0 < Z.length) (_h0 : 0 < Z[Z.length - 1]?.getD 0),
      AllDig (emit Z.length (uptoF (backP Z hd hl) k)) ∧ (dval (emit Z.length (uptoF (backP Z hd hl) k)) : Int) = valB 1000000000 (Z.drop (Z.length - k)) ∧ ∃ c l, emit Z.length (uptoF (backP Z hd hl) k) = c :: l ∧ c.toNat ≠ 48 := by
    intro k
    induction k with
    | zero => intro _ h; omega
    | succ k ih =>
      intro hk _ hd hl h0
      rw [uptoF_succ, emit_snoc, backP_eq hd hl (show k < Z.length by omega)]
      have hb := hd.at_ (by omega) (Z.length - 1 - k)
      rcases Nat.eq_zero_or_pos k with rfl | hp
      · have e1 : chunk Z.length (backF Z 0) = Lib.decDigits (Z[Z.length - 1]?.getD 0).toNat := by simp [chunk, backF]
        rw [e1]
        have e2 : emit Z.length (uptoF (backP Z hd hl) 0) = [] := rfl
        rw [e2, List.nil_append]
        obtain ⟨_, _, c, l, h3, h4, _⟩ := decDigits_facts (Z[Z.length - 1]?.getD 0).toNat
        refine ⟨decDigits_all _, ?_, c, l, h3, h4 (by omega)⟩
        rw [decDigits_val, show Z.length - (0 + 1) = Z.length - 1 from by omega, drop_getD Z (Z.length - 1) (by omega), show Z.length - 1 + 1 = Z.length from by omega, List.drop_length]
        simp only [valB]
        omega
      · obtain ⟨i1, i2, c, l, i3, i4⟩ := ih (by omega) hp hd hl h0
        have e1 : chunk Z.length (backF Z k) = pad9 (Z[Z.length - 1 - k]?.getD 0) := by
          unfold chunk
          rw [if_pos (by simp only [backF]; omega)]
          rfl
        obtain ⟨p1, p2, p3⟩ := pad9_facts hb.1 hb.2
        rw [e1]
        refine ⟨i1.append p2, ?_, c, l ++ pad9 (Z[Z.length - 1 - k]?.getD 0), by rw [i3]; rfl, i4⟩
        rw [dval_append, p1, p3, drop_getD Z (Z.length - (k + 1)) (by omega), show Z.length - (k + 1) + 1 = Z.length - k from by omega]
        simp only [valB]
        rw [← i2, show Z.length - (k + 1) = Z.length - 1 - k from by omega]
        omega
  have hlast := lim_last 1000000000 (by omega) n hn
  have hk := key Z.length (Nat.le_refl _)
  have hlen := lim9_digs n
  have hv := lim9_val n
  unfold lim9 at hZ hlen hv hl ⊢
  subst hZ
  obtain ⟨h1, h2, c, l, h3, h4⟩ := hk hl hlen hl hlast
  rw [Nat.sub_self, List.drop_zero, hv] at h2
  have h5 : dval (emit (lim 1000000000 n).length (uptoF (backP (lim 1000000000 n) hlen hl) (lim 1000000000 n).length)) = n := by omega
  have h6 := eq_dec (h3 ▸ h1) h4
  rw [← h3, h5] at h6
  exact h6

theorem close_zero (m : Bool) (A : Option Addr) (c : Nat) (w : World) :
    Calls Tryd.prog 38 #[.agg #[.bool m, .slice A 0 c]] w fun e w' => e = .returned (.string (canon 0)) ∧ Below w.heap.size w w' := by
  have h0 : Hid ((⟨#[48]⟩ : ByteArray) = canon 0) := by
    show _ = _
    unfold canon
    rw [show (0 : Int) = ((0 : Nat) : Int) from rfl, itoa_of_nat, decDigits_lt 0 (by omega)]
    rfl
  go_enter Tryd.func38, Tryd.ntmps38
  go_wp2
  go_ret
  rw [← h0.out]
  exact ⟨rfl, (Below.refl _ _).alloc (Nat.le_refl _) _⟩

theorem othersKept_keeps {b : Nat} {w w' : World} {cs : Array Value} {t : TypeId} {fz : Nat × Nat} (h : Lib.OthersKept 5 (some b) w w') (hb : w.heap[b]? = some (.cells cs t fz)) (hs : w.heap.size ≤ w'.heap.size) : KeepsOthers w w' :=
  ⟨hs, fun k o hk ho => h k o hk (fun e => by
    injection e with e
    subst e
    rw [hb] at hk
    injection hk with hk
    subst hk
    cases ho) (fun c fz e => by subst e; cases ho)⟩

theorem isB_keeps {B b : Nat} {bs : List Value} {w w' : World} (h : IsB B b bs w) (k : Lib.OthersKept 5 (some b) w w') (hs : w.heap.size ≤ w'.heap.size) : KeepsOthers w w' := by
  rcases h with ⟨_, v, hb, _⟩ | ⟨_, v, hb, _⟩
  · exact othersKept_keeps k hb hs
  · exact othersKept_keeps k hb hs

theorem builderAt_turn {T e : TypeId} {B b : Nat} {p : Value} {bs : List Value} {w w' : World} {row : Option Nat} (h : Lib.BuilderAtF T e B b p bs w) (hg : w.grownBy w' row)
    (hr : ∀ r, row = some r → ∃ o : Obj, w.heap[r]? = some o ∧ o.isCells = false) : Lib.BuilderAtF T e B b p bs w' := by
  have hlt := h.lt
  obtain ⟨hB, v, hb, hown, hne⟩ := h
  have hnb : ∀ g cs t fz, w.heap[g]? = some (.cells cs t fz) → some g ≠ row := by
    intro g cs t fz hgc he
    obtain ⟨_, ho, hc⟩ := hr g he.symm
    rw [hgc] at ho
    injection ho with ho
    subst ho
    cases hc
  refine ⟨hB, v, (hg.block b hlt (hnb _ _ _ _ hb)).trans hb, hown.kept hg ?_, hne⟩
  rcases hown.2 with ⟨rfl, _⟩ | ⟨g, cap, cur, fz, rfl, _, hgc, _⟩
  · exact .inl rfl
  · exact .inr (hnb _ _ _ _ hgc)

theorem isB_turn {B b : Nat} {bs : List Value} {w w' : World} {row : Option Nat} (h : IsB B b bs w) (hg : w.grownBy w' row)
    (hr : ∀ r, row = some r → ∃ o : Obj, w.heap[r]? = some o ∧ o.isCells = false) : IsB B b bs w' :=
  h.elim (fun h => .inl (builderAt_turn h hg hr)) (fun h => .inr (builderAt_turn h hg hr))

theorem isB_alloc {B b : Nat} {bs : List Value} {w : World} (h : IsB B b bs w) (o : Obj) : IsB B b bs (w.alloc o) := h.elim (fun h => .inl (h.alloc o)) (fun h => .inr (h.alloc o))

theorem isB_new (w : World) : IsB w.heap.size w.heap.size [] (w.alloc (.cells #[.pointer none, .slice none 0 0] 92)) :=
  .inl ⟨Nat.le_refl _, .slice none 0 0, heap_alloc_new w _, World.ownsRowF_nil _ _ _ _, by simp [Value.ownBlock]⟩

/-- The table of powers of ten lies where it lay. -/
def Pow10 (w : World) : Prop := Lib.TabIs Tryd.prog w "internal/strconv.uint64pow10" .u64 Lib.pow10Tab

theorem var_below {w w' : World} {name : String} {vs : Array Value} (h : w.var? Tryd.prog name = some vs) (hb : Below w.heap.size w w') : w'.var? Tryd.prog name = some vs := by
  unfold World.var? at *
  cases hg : Tryd.prog.globalNamed name with
  | none => simp [hg] at h
  | some g =>
    simp only [hg, Option.bind_some] at h ⊢
    have hlt : g < w.heap.size := by
      rcases Nat.lt_or_ge g w.heap.size with h' | h'
      · exact h'
      · rw [Array.getElem?_eq_none h'] at h; simp at h
    rw [hb.block g hlt]
    exact h

theorem Pow10.below {w w' : World} (h : Pow10 w) (hb : Below w.heap.size w w') : Pow10 w' := var_below h hb

theorem below_grow {B : Nat} (w : World) (hB : B ≤ w.heap.size) (k : Nat) (os : Array Obj) : Below B w (Sort.grow (w.drewN k) os) :=
  ⟨rfl, rfl, rfl, by simp [Sort.grow], fun j hj => by
    show (w.heap ++ os)[j]? = w.heap[j]?
    rw [Array.getElem?_append_left (by omega)]⟩

theorem keeps_grow (w : World) (k : Nat) (os : Array Obj) : KeepsOthers w (Sort.grow (w.drewN k) os) :=
  ⟨by simp [Sort.grow], fun j o hj _ => by
    show (w.heap ++ os)[j]? = some o
    rw [Array.getElem?_append_left (Array.getElem?_eq_some_iff.1 hj).1]
    exact hj⟩

theorem isB_grow {B b : Nat} {bs : List Value} {w : World} (h : IsB B b bs w) (k : Nat) (os : Array Obj) : IsB B b bs (Sort.grow (w.drewN k) os) := by
  refine isB_turn (row := none) h ⟨rfl, rfl, rfl, by simp [Sort.grow], fun j hj _ => ?_⟩ (fun r e => by cases e)
  show (w.heap ++ os)[j]? = w.heap[j]?
  rw [Array.getElem?_append_left hj]

theorem isB_below {B b : Nat} {bs : List Value} {w w' : World} (h : IsB B b bs w) (hb : Below w.heap.size w w') : IsB B b bs w' :=
  isB_turn (row := none) h ⟨hb.os, hb.tape, hb.output, hb.size, fun k hk _ => hb.block k hk⟩ (fun r e => by cases e)

theorem keeps_below {w w' : World} (hb : Below w.heap.size w w') : KeepsOthers w w' :=
  ⟨hb.size, fun k _ hk _ => (hb.block k (Array.getElem?_eq_some_iff.1 hk).1).trans hk⟩

theorem block_below {w w' : World} (hb : Below w.heap.size w w') {k : Nat} {o : Obj} (hk : w.heap[k]? = some o) : w'.heap[k]? = some o :=
  (hb.block k (Array.getElem?_eq_some_iff.1 hk).1).trans hk

theorem chunk_len {N : Nat} (x : P9 N) : (chunk N x.v).length ≤ 9 := by
  obtain ⟨x, h1, h2, h3, h4⟩ := x
  unfold chunk
  split
  · rw [(pad9_facts h3 h4).1]; exact Nat.le_refl _
  · exact dec9_len h3 h4

theorem emit_len {N : Nat} (l : List (P9 N)) : (emit N l).length ≤ 9 * l.length := by
  induction l with
  | nil => simp [emit]
  | cons x l ih =>
    have := chunk_len x
    simp only [emit, List.flatMap_cons, List.length_append, List.length_cons] at *
    omega

theorem fmt_any (u : Nat) (hu64 : u < 18446744073709551616) (w : World) (htab : Pow10 w) :
    Calls Tryd.prog 65 #[.int .u64 u, .int .i64 10] w fun e w' => e = .returned (.string ⟨(Lib.decDigits u).toArray⟩) ∧ Below w.heap.size w w' := by
  refine (fmtUint_any u hu64 w htab).mono ?_
  rintro e w' ⟨rfl, k, os, rfl⟩
  exact ⟨rfl, below_grow w (Nat.le_refl _) k os⟩

/-- What the loop of 'close' keeps: a builder that holds l, the iterator's box, the boxed number. -/
def CloseW (Bs : Nat) (w : World) (A : Option Addr) (L c : Nat) (l : List UInt8) (W : World) : Prop :=
  IsB (w.heap.size + 1) (w.heap.size + 1) (Lib.byteCells l) W ∧ (w.heap.size + 1 < Bs ∧ W.heap[Bs]? = some (.cells #[.slice A L c] 54 (0, 0))) ∧ (∃ m, W.heap[w.heap.size]? = some (.cells #[.bool m, .slice A L c] 56 (0, 0))) ∧ Below w.heap.size w W

theorem closeW_turn {β : Type} {Bs : Nat} {w : World} {A : Option Addr} {L c : Nat} {f : β → List UInt8} (B : Nat) (hB : w.heap.size ≤ B) : OwnFrom B (fun s W => CloseW Bs w A L c (f s) W) := by
  rintro s W W' row ⟨h1, ⟨h2', h2⟩, ⟨m, h3⟩, h4⟩ hg hr
  have hnc : ∀ {g : Nat} {cs : Array Value} {t : TypeId}, W.heap[g]? = some (.cells cs t (0, 0)) → W'.heap[g]? = some (.cells cs t (0, 0)) := fun {g cs t} hgc => by
    rw [hg.block g (Array.getElem?_eq_some_iff.1 hgc).1 (fun e => by
      obtain ⟨_, _, ho, hc⟩ := hr g e.symm
      rw [hgc] at ho
      injection ho with ho
      subst ho
      cases hc)]
    exact hgc
  refine ⟨isB_turn h1 hg (fun r e => (hr r e).2), ⟨h2', hnc h2⟩, ⟨m, hnc h3⟩, h4.grown hg h4.size (fun r e => ?_)⟩
  have := (hr r e).1
  omega

theorem closeW_cell {Bs : Nat} {w W : World} {A : Option Addr} {L c : Nat} {l : List UInt8} (h : CloseW Bs w A L c l W) : W.cell? ⟨w.heap.size, 1, none⟩ = some (.slice A L c) := by
  obtain ⟨_, _, ⟨m, h3⟩, _⟩ := h
  rw [Lib.cell_of_heap h3]; rfl

theorem closeW_fmt {Bs : Nat} {w W : World} {A : Option Addr} {L c : Nat} {l : List UInt8} (h : CloseW Bs w A L c l W) (u : Nat) (hu : u < 1000000000) (htab : Pow10 w) :
    Calls Tryd.prog 65 #[.int .u64 u, .int .i64 10] W fun e w' => e = .returned (.string ⟨(Lib.decDigits u).toArray⟩) ∧ CloseW Bs w A L c l w' ∧ KeepsOthers W w' ∧ KeptAt (BelowOr w.heap.size Bs) W w' := by
  refine (fmt_any u (by omega) W (htab.below h.2.2.2)).mono ?_
  rintro e w' ⟨rfl, hb⟩
  obtain ⟨h1, ⟨h2', h2⟩, ⟨m, h3⟩, h4⟩ := h
  refine ⟨rfl, ⟨isB_below h1 hb, ⟨h2', block_below hb h2⟩, ⟨m, block_below hb h3⟩, h4.trans (hb.mono h4.size)⟩, keeps_below hb, fun g hg => ?_⟩
  have : g < W.heap.size := by
    have hs := h4.size
    rcases hg with hg | rfl
    · omega
    · exact (Array.getElem?_eq_some_iff.1 h2).1
  exact hb.block g this

theorem closeW_write {Bs : Nat} {w W : World} {A : Option Addr} {L c : Nat} {l : List UInt8} (h : CloseW Bs w A L c l W) (s : ByteArray) (hl : l.length ≤ 1000000) (hs : s.size ≤ 1000) :
    Calls Tryd.prog 66 #[.pointer (some ⟨w.heap.size + 1, 0, none⟩), .string s] W fun e w' => e = .returned (.tuple #[.int .i64 s.size, .nilIface]) ∧ CloseW Bs w A L c (l ++ s.data.toList) w' ∧ KeepsOthers W w' ∧ KeptAt (BelowOr w.heap.size Bs) W w' := by
  obtain ⟨h1, ⟨h2', h2⟩, ⟨m, h3⟩, h4⟩ := h
  refine (writeString_any (w.heap.size + 1) (w.heap.size + 1) (Lib.byteCells l) s W h1 (by rw [Lib.byteCells_length]; exact hl) (by omega) (by have := (Array.getElem?_eq_some_iff.1 h2).1; omega)).mono ?_
  rintro e w' ⟨rfl, hB, hb, hk⟩
  have hbs : w'.heap[Bs]? = some (.cells #[.slice A L c] 54 (0, 0)) := hk Bs _ h2 (by intro e; injection e; omega) (fun c fz e => by injection e with _ e; cases e)
  refine ⟨rfl, ⟨by rw [Lib.byteCells_append]; exact hB, ⟨h2', hbs⟩, ⟨m, (hb.block _ (by omega)).trans h3⟩, h4.trans (hb.mono (by omega))⟩, isB_keeps h1 hk hb.size, fun g hg => ?_⟩
  rcases hg with hg | rfl
  · exact hb.block g (by omega)
  · rw [h2]; exact hbs

theorem zeros_cut (k : Nat) : (({ data := #[48, 48, 48, 48, 48, 48, 48, 48, 48] } : ByteArray).extract k 9).data.toList = (List.replicate 9 48).drop k := by
  rw [Lib.extract_data]
  simp only [List.replicate]
  rw [List.take_of_length_le (by simp)]

set_option maxRecDepth 100000 in
set_option maxHeartbeats 4000000 in
theorem close_pos (A : Option Addr) (c n : Nat) (w : World) (hs : Sl w .u64 A c (lim9 n)) (hn : 0 < n) (hlen : (lim9 n).length ≤ 60000) (htab : Pow10 w) :
    Calls Tryd.prog 38 #[.agg #[.bool false, .slice A (lim9 n).length c]] w fun e w' => e = .returned (.string (canon (n : Int))) ∧ Below w.heap.size w w' := by
  have hl : 0 < (lim9 n).length := by
    rcases Nat.eq_zero_or_pos (lim9 n).length with h | h
    · have := (lim_len_zero 1000000000 (by omega) n).1 h
      omega
    · exact h
  have hl0 : (((lim9 n).length : Int) == 0) = false := beq_eq_false_iff_ne.2 (by omega)
  have HE := Lib.hid (emit_all n hn hl)
  obtain ⟨Z, hZ⟩ : ∃ Z, lim9 n = Z := ⟨_, rfl⟩
  have HE2 : Hid (∃ (hd : Digs 1000000000 Z) (hl : 0 < Z.length), emit Z.length (uptoF (backP Z hd hl) Z.length) = Lib.decDigits n) := by
    subst hZ
    exact ⟨lim9_digs n, hl, HE.out⟩
  clear HE
  rw [hZ] at hs hlen hl hl0 ⊢
  clear hZ
  obtain ⟨hd, hlz, hE⟩ := HE2.out
  have HE := Lib.hid hE
  clear hE HE2
  refine (callsIn_wide (n := 9)).1 ?_
  have hro : Fence.wide.round = none := rfl
  refine callsIn_of_wp_marks Tryd.func38 rfl trivial ?_ hro
  simp only [Tryd.ntmps38, List.size_toArray, List.length_cons, List.length_nil, Nat.reduceAdd, Nat.reduceSub, Array.replicate_succ, Array.replicate_zero, List.push_toArray, List.append_toArray, List.nil_append, List.cons_append]
  gi_wp2_with (refine ⟨trivial, ?_⟩; gi_at_call 64; refine (back_in Fence.wide _ trivial hro _ _ _ _).mono ?_; rintro e w' ⟨rfl, rfl⟩)
  obtain ⟨W1, hW1⟩ : ∃ W1, (w.alloc (.cells #[.bool false, .slice A Z.length c] 56)).alloc (.cells #[.pointer none, .slice none 0 0] 92) = W1 := ⟨_, rfl⟩
  rw [hW1]
  have hs1 : W1.heap.size = w.heap.size + 2 := by rw [← hW1]; simp
  have f1 : IsB (w.heap.size + 1) (w.heap.size + 1) (Lib.byteCells (([] : List UInt8) ++ emit Z.length [])) W1 := by
    rw [← hW1]
    have := isB_new (w.alloc (.cells #[.bool false, .slice A Z.length c] 56))
    rw [World.size_alloc] at this
    exact this
  have f2 : W1.heap[w.heap.size]? = some (.cells #[.bool false, .slice A Z.length c] 56 (0, 0)) := by
    rw [← hW1, Below.heap_alloc _ _ _ (by simp)]
    exact heap_alloc_new w _
  have f3 : Below w.heap.size w W1 := by rw [← hW1]; exact ((Below.refl _ _).alloc (Nat.le_refl _) _).alloc (by simp) _
  rw [show w.heap.size + 1 + 1 = W1.heap.size from hs1.symm]
  have F1 := Lib.hid f1
  have F2 := Lib.hid f2
  have F3 := Lib.hid f3
  have hsz : w.heap.size + 2 ≤ W1.heap.size := by omega
  clear f1 f2 f3 hs1 hW1
  refine wpIn_rangeFunc_ownG hro (by omega) (gf := 84) (lb := #[.pointer (some ⟨W1.heap.size, 0, none⟩)]) rfl trivial (enters_of Tryd.func84 (by kernel_rfl) rfl)
    (back_stops (α := P9 Z.length) P9.v (backP Z hd hlz) Fence.wide _ trivial hro (by omega) W1.heap.size w.heap.size A c Z (by omega) (fun j hj => backP_eq hd hlz hj) (W1.alloc (.cells #[.slice A Z.length c] 54)) (by simp) (by simp; omega) (World.cell?_alloc_at _ _ _ _ rfl) (fun h => ?hcells))
    KeptAt.trans (KeptAt.put (fun g hg => by simp; rcases hg with h | h <;> omega)) (Below.refl _ _) (fun _ => rfl)
    (fun pre W => CloseW W1.heap.size w A Z.length c (([] : List UInt8) ++ emit Z.length pre) W) (fun _ _ _ => False) (closeW_turn _ (by simp; omega)) (fun _ _ _ _ _ hs _ _ => hs)
    ⟨isB_alloc F1.out _, ⟨by omega, heap_alloc_new W1 _⟩, ⟨false, (Below.heap_alloc _ _ _ (by omega)).trans F2.out⟩, F3.out.alloc (by omega) _⟩ ?a₁ ?assign ?body ?done ?stop
  case hcells =>
    obtain ⟨b, o, e, hb, hc⟩ := hs.at_ h
    exact ⟨b, o, e, hb, fun j hj => ((F3.out.alloc (by omega) _).cell (p := ⟨b, o + j, none⟩) hb).trans (hc j hj)⟩
  case assign =>
    intro l x W K hK
    gi_wp2
    exact hK
  case body =>
    rintro l pre ⟨⟨i, xv⟩, hx1, hx2, hx3, hx4⟩ W hcw hlt
    obtain ⟨u, rfl⟩ := Int.eq_ofNat_of_zero_le hx3
    have hsn : Hid (∀ q, ([] : List UInt8) ++ emit Z.length (pre ++ [⟨(i, (u : Int)), q⟩]) = (([] : List UInt8) ++ emit Z.length pre) ++ chunk Z.length (i, (u : Int))) := fun q => by rw [emit_snoc, List.append_assoc]
    dsimp only at hx1 hx2 hx4 ⊢
    have hel := emit_len pre
    have hel2 : (([] : List UInt8) ++ emit Z.length pre).length ≤ 540001 := by simp; omega
    generalize ([] : List UInt8) ++ emit Z.length pre = bs at *
    have hcell := closeW_cell hcw
    have hdl : (Lib.decDigits u).length ≤ 9 := decDigits_len_le 9 u (by omega) (by omega)
    have hfm := closeW_fmt hcw u (by omega) htab
    have hch : Hid (chunk Z.length (i, (u : Int)) = if i < (Z.length : Int) - 1 then (List.replicate 9 48).drop (Lib.decDigits u).length ++ Lib.decDigits u else Lib.decDigits u) := rfl
    obtain ⟨DS, hDS⟩ : ∃ DS : ByteArray, (⟨(Lib.decDigits u).toArray⟩ : ByteArray) = DS := ⟨_, rfl⟩
    have hdz : DS.size ≤ 9 := by rw [← hDS]; exact hdl
    rw [hDS] at hfm
    have hdd : Hid (DS.data.toList = Lib.decDigits u) := by rw [← hDS]; rfl
    have hdz2 : Hid (DS.size = (Lib.decDigits u).length) := by rw [← hDS]; rfl
    clear hDS hcw hdl
    by_cases hi : i < (Z.length : Int) - 1
    · have HC : Hid (chunk Z.length (i, (u : Int)) = (List.replicate 9 48).drop DS.size ++ DS.data.toList) := by show _ = _; rw [hch.out, if_pos hi, hdd.out, hdz2.out]
      gi_wp2_with (first
        | (refine ⟨trivial, ?_⟩; gi_at_call 65; refine (CallsIn.inRound l (callsIn_wide.2 hfm)).mono ?_; clear hfm; rintro e w2 ⟨rfl, hcw2, hko2, hka2⟩; have hcell2 := closeW_cell hcw2; have HCW2 := Lib.hid hcw2; clear hcw2; have tok1 : True := trivial)
        | (refine ⟨trivial, ?_⟩; gi_at_call 66; have _t := tok1; refine (CallsIn.inRound l (callsIn_wide.2 (closeW_write HCW2.out _ (by omega) (by simp; omega)))).mono ?_; clear tok1; rintro e w3 ⟨rfl, hcw3, hko3, hka3⟩; have HCW3 := Lib.hid hcw3; clear hcw3; have tok2 : True := trivial)
        | (refine ⟨trivial, ?_⟩; gi_at_call 66; have _t := tok2; refine (CallsIn.inRound l (callsIn_wide.2 (closeW_write HCW3.out DS (by simp; omega) (by omega)))).mono ?_; clear tok2; rintro e w4 ⟨rfl, hcw4, hko4, hka4⟩; have HCW4 := Lib.hid hcw4; clear hcw4))
      refine ⟨((hko2.trans hko3).trans hko4).from _, (hka2.trans hka3).trans hka4, ?_⟩
      show CloseW _ _ _ _ _ _ _
      rw [hsn.out, HC.out, ← zeros_cut, ← List.append_assoc]
      exact HCW4.out
    · have HC : Hid (chunk Z.length (i, (u : Int)) = DS.data.toList) := by show _ = _; rw [hch.out, if_neg hi, hdd.out]
      obtain rfl : i = (Z.length : Int) - 1 := by omega
      clear hi
      gi_wp2_with (first
        | (refine ⟨trivial, ?_⟩; gi_at_call 65; refine (CallsIn.inRound l (callsIn_wide.2 hfm)).mono ?_; clear hfm; rintro e w2 ⟨rfl, hcw2, hko2, hka2⟩; have hcell2 := closeW_cell hcw2; have HCW2 := Lib.hid hcw2; clear hcw2)
        | (refine ⟨trivial, ?_⟩; gi_at_call 66; refine (CallsIn.inRound l (callsIn_wide.2 (closeW_write HCW2.out DS (by omega) (by omega)))).mono ?_; rintro e w3 ⟨rfl, hcw3, hko3, hka3⟩; have HCW3 := Lib.hid hcw3; clear hcw3))
      refine ⟨(hko2.trans hko3).from _, hka2.trans hka3, ?_⟩
      show CloseW _ _ _ _ _ _ _
      rw [hsn.out, HC.out]
      exact HCW3.out
  case done =>
    rintro D ys W hD rfl hcw hK
    rw [HE.out] at hcw
    obtain ⟨g1, g2, ⟨mb, g3⟩, g4⟩ := hcw
    have hst := Tryd.Builder_String_any_k (w.heap.size + 1) (w.heap.size + 1) (([] : List UInt8) ++ Lib.decDigits n) W g1 (by have := (Array.getElem?_eq_some_iff.1 g2.2).1; omega)
    have G1 := Lib.hid g1
    have G4 := Lib.hid g4
    have HK := Lib.hid hK
    have HD := Lib.hid hD
    clear g1 g2 g3 g4 hK hD
    gi_wp2_with (refine ⟨trivial, ?_⟩; gi_at_call 67; refine (callsIn_wide.2 hst).mono ?_; clear hst; rintro e w5 ⟨rfl, hb5, hbl5, hok5⟩)
    have hK5 := (isB_keeps G1.out hok5 hbl5.size).same D _ HK.out rfl
    refine ⟨by simp, .inl ⟨_, _, rfl, run_takeDeferred hK5, ?_⟩⟩
    refine ⟨_, results_tmp rfl _ _ _, ?_, ?_⟩
    · show Ending.returned (.string ⟨(([] : List UInt8) ++ Lib.decDigits n).toArray⟩) = _
      unfold canon
      rw [itoa_of_nat]; rfl
    · exact (G4.out.trans (hbl5.mono (by omega))).trans (belowK_b (w := w) (Nat.le_refl _) w5 D _ _ (by have := HD.out; simp at this; omega) hK5 rfl rfl)
  case stop =>
    rintro D cd pre W _ _ h _
    exact h.elim

set_option maxRecDepth 100000 in
set_option maxHeartbeats 4000000 in
theorem close_neg (A : Option Addr) (c n : Nat) (w : World) (hs : Sl w .u64 A c (lim9 n)) (hn : 0 < n) (hlen : (lim9 n).length ≤ 60000) (htab : Pow10 w) :
    Calls Tryd.prog 38 #[.agg #[.bool true, .slice A (lim9 n).length c]] w fun e w' => e = .returned (.string (canon (-(n : Int)))) ∧ Below w.heap.size w w' := by
  have hl : 0 < (lim9 n).length := by
    rcases Nat.eq_zero_or_pos (lim9 n).length with h | h
    · have := (lim_len_zero 1000000000 (by omega) n).1 h
      omega
    · exact h
  have hl0 : (((lim9 n).length : Int) == 0) = false := beq_eq_false_iff_ne.2 (by omega)
  have HE := Lib.hid (emit_all n hn hl)
  obtain ⟨Z, hZ⟩ : ∃ Z, lim9 n = Z := ⟨_, rfl⟩
  have HE2 : Hid (∃ (hd : Digs 1000000000 Z) (hl : 0 < Z.length), emit Z.length (uptoF (backP Z hd hl) Z.length) = Lib.decDigits n) := by
    subst hZ
    exact ⟨lim9_digs n, hl, HE.out⟩
  clear HE
  rw [hZ] at hs hlen hl hl0 ⊢
  clear hZ
  obtain ⟨hd, hlz, hE⟩ := HE2.out
  have HE := Lib.hid hE
  clear hE HE2
  refine (callsIn_wide (n := 9)).1 ?_
  have hro : Fence.wide.round = none := rfl
  refine callsIn_of_wp_marks Tryd.func38 rfl trivial ?_ hro
  simp only [Tryd.ntmps38, List.size_toArray, List.length_cons, List.length_nil, Nat.reduceAdd, Nat.reduceSub, Array.replicate_succ, Array.replicate_zero, List.push_toArray, List.append_toArray, List.nil_append, List.cons_append]
  have hwb := writeByte_any (w.heap.size + 1) (w.heap.size + 1) [] 45 ((w.alloc (.cells #[.bool true, .slice A Z.length c] 56)).alloc (.cells #[.pointer none, .slice none 0 0] 92))
    (by
      have := isB_new (w.alloc (.cells #[.bool true, .slice A Z.length c] 56))
      rw [World.size_alloc] at this
      exact this) (by simp) (by simp)
  have c0 : ((w.alloc (.cells #[.bool true, .slice A Z.length c] 56)).alloc (.cells #[.pointer none, .slice none 0 0] 92)).cell? ⟨w.heap.size, 1, none⟩ = some (.slice A Z.length c) := by
    rw [World.cell?_alloc_past _ _ _ (by simp), World.cell?_alloc_at _ _ _ _ rfl]; rfl
  have C0 := Lib.hid c0
  clear c0
  gi_wp2_with (first
    | (refine ⟨trivial, ?_⟩; gi_at_call 63; refine (callsIn_wide.2 hwb).mono ?_; clear hwb; rintro e W1 ⟨rfl, hb1, hbl1, hok1⟩; have hcell1 := (hbl1.cell (p := ⟨w.heap.size, 1, none⟩) (by simp)).trans C0.out; have HBL1 := Lib.hid hbl1; clear hbl1)
    | (refine ⟨trivial, ?_⟩; gi_at_call 64; refine (back_in Fence.wide _ trivial hro _ _ _ _).mono ?_; rintro e w' ⟨rfl, rfl⟩))
  have hbl1 := HBL1.out
  have f2 : W1.heap[w.heap.size]? = some (.cells #[.bool true, .slice A Z.length c] 56 (0, 0)) := by
    rw [hbl1.block _ (by omega), Below.heap_alloc _ _ _ (by simp)]
    exact heap_alloc_new w _
  have f1 : IsB (w.heap.size + 1) (w.heap.size + 1) (Lib.byteCells (([45] : List UInt8) ++ emit Z.length [])) W1 := hb1
  have f3 : Below w.heap.size w W1 := (((Below.refl _ _).alloc (Nat.le_refl _) _).alloc (by simp) _).trans (hbl1.mono (by omega))
  have hsz : w.heap.size + 2 ≤ W1.heap.size := by have := hbl1.size; simp at this; omega
  have F1 := Lib.hid f1
  have F2 := Lib.hid f2
  have F3 := Lib.hid f3
  clear f1 f2 f3 hb1 hbl1 hok1 hcell1
  refine wpIn_rangeFunc_ownG hro (by omega) (gf := 84) (lb := #[.pointer (some ⟨W1.heap.size, 0, none⟩)]) rfl trivial (enters_of Tryd.func84 (by kernel_rfl) rfl)
    (back_stops (α := P9 Z.length) P9.v (backP Z hd hlz) Fence.wide _ trivial hro (by omega) W1.heap.size w.heap.size A c Z (by omega) (fun j hj => backP_eq hd hlz hj) (W1.alloc (.cells #[.slice A Z.length c] 54)) (by simp) (by simp; omega) (World.cell?_alloc_at _ _ _ _ rfl) (fun h => ?hcells))
    KeptAt.trans (KeptAt.put (fun g hg => by simp; rcases hg with h | h <;> omega)) (Below.refl _ _) (fun _ => rfl)
    (fun pre W => CloseW W1.heap.size w A Z.length c (([45] : List UInt8) ++ emit Z.length pre) W) (fun _ _ _ => False) (closeW_turn _ (by simp; omega)) (fun _ _ _ _ _ hs _ _ => hs)
    ⟨isB_alloc F1.out _, ⟨by omega, heap_alloc_new W1 _⟩, ⟨true, (Below.heap_alloc _ _ _ (by omega)).trans F2.out⟩, F3.out.alloc (by omega) _⟩ ?a₁ ?assign ?body ?done ?stop
  case hcells =>
    obtain ⟨b, o, e, hb, hc⟩ := hs.at_ h
    exact ⟨b, o, e, hb, fun j hj => ((F3.out.alloc (by omega) _).cell (p := ⟨b, o + j, none⟩) hb).trans (hc j hj)⟩
  case assign =>
    intro l x W K hK
    gi_wp2
    exact hK
  case body =>
    rintro l pre ⟨⟨i, xv⟩, hx1, hx2, hx3, hx4⟩ W hcw hlt
    obtain ⟨u, rfl⟩ := Int.eq_ofNat_of_zero_le hx3
    have hsn : Hid (∀ q, ([45] : List UInt8) ++ emit Z.length (pre ++ [⟨(i, (u : Int)), q⟩]) = (([45] : List UInt8) ++ emit Z.length pre) ++ chunk Z.length (i, (u : Int))) := fun q => by rw [emit_snoc, List.append_assoc]
    dsimp only at hx1 hx2 hx4 ⊢
    have hel := emit_len pre
    have hel2 : (([45] : List UInt8) ++ emit Z.length pre).length ≤ 540001 := by simp; omega
    generalize ([45] : List UInt8) ++ emit Z.length pre = bs at *
    have hcell := closeW_cell hcw
    have hdl : (Lib.decDigits u).length ≤ 9 := decDigits_len_le 9 u (by omega) (by omega)
    have hfm := closeW_fmt hcw u (by omega) htab
    have hch : Hid (chunk Z.length (i, (u : Int)) = if i < (Z.length : Int) - 1 then (List.replicate 9 48).drop (Lib.decDigits u).length ++ Lib.decDigits u else Lib.decDigits u) := rfl
    obtain ⟨DS, hDS⟩ : ∃ DS : ByteArray, (⟨(Lib.decDigits u).toArray⟩ : ByteArray) = DS := ⟨_, rfl⟩
    have hdz : DS.size ≤ 9 := by rw [← hDS]; exact hdl
    rw [hDS] at hfm
    have hdd : Hid (DS.data.toList = Lib.decDigits u) := by rw [← hDS]; rfl
    have hdz2 : Hid (DS.size = (Lib.decDigits u).length) := by rw [← hDS]; rfl
    clear hDS hcw hdl
    by_cases hi : i < (Z.length : Int) - 1
    · have HC : Hid (chunk Z.length (i, (u : Int)) = (List.replicate 9 48).drop DS.size ++ DS.data.toList) := by show _ = _; rw [hch.out, if_pos hi, hdd.out, hdz2.out]
      gi_wp2_with (first
        | (refine ⟨trivial, ?_⟩; gi_at_call 65; refine (CallsIn.inRound l (callsIn_wide.2 hfm)).mono ?_; clear hfm; rintro e w2 ⟨rfl, hcw2, hko2, hka2⟩; have hcell2 := closeW_cell hcw2; have HCW2 := Lib.hid hcw2; clear hcw2; have tok1 : True := trivial)
        | (refine ⟨trivial, ?_⟩; gi_at_call 66; have _t := tok1; refine (CallsIn.inRound l (callsIn_wide.2 (closeW_write HCW2.out _ (by omega) (by simp; omega)))).mono ?_; clear tok1; rintro e w3 ⟨rfl, hcw3, hko3, hka3⟩; have HCW3 := Lib.hid hcw3; clear hcw3; have tok2 : True := trivial)
        | (refine ⟨trivial, ?_⟩; gi_at_call 66; have _t := tok2; refine (CallsIn.inRound l (callsIn_wide.2 (closeW_write HCW3.out DS (by simp; omega) (by omega)))).mono ?_; clear tok2; rintro e w4 ⟨rfl, hcw4, hko4, hka4⟩; have HCW4 := Lib.hid hcw4; clear hcw4))
      refine ⟨((hko2.trans hko3).trans hko4).from _, (hka2.trans hka3).trans hka4, ?_⟩
      show CloseW _ _ _ _ _ _ _
      rw [hsn.out, HC.out, ← zeros_cut, ← List.append_assoc]
      exact HCW4.out
    · have HC : Hid (chunk Z.length (i, (u : Int)) = DS.data.toList) := by show _ = _; rw [hch.out, if_neg hi, hdd.out]
      obtain rfl : i = (Z.length : Int) - 1 := by omega
      clear hi
      gi_wp2_with (first
        | (refine ⟨trivial, ?_⟩; gi_at_call 65; refine (CallsIn.inRound l (callsIn_wide.2 hfm)).mono ?_; clear hfm; rintro e w2 ⟨rfl, hcw2, hko2, hka2⟩; have hcell2 := closeW_cell hcw2; have HCW2 := Lib.hid hcw2; clear hcw2)
        | (refine ⟨trivial, ?_⟩; gi_at_call 66; refine (CallsIn.inRound l (callsIn_wide.2 (closeW_write HCW2.out DS (by omega) (by omega)))).mono ?_; rintro e w3 ⟨rfl, hcw3, hko3, hka3⟩; have HCW3 := Lib.hid hcw3; clear hcw3))
      refine ⟨(hko2.trans hko3).from _, hka2.trans hka3, ?_⟩
      show CloseW _ _ _ _ _ _ _
      rw [hsn.out, HC.out]
      exact HCW3.out
  case done =>
    rintro D ys W hD rfl hcw hK
    rw [HE.out] at hcw
    obtain ⟨g1, g2, ⟨mb, g3⟩, g4⟩ := hcw
    have hst := Tryd.Builder_String_any_k (w.heap.size + 1) (w.heap.size + 1) (([45] : List UInt8) ++ Lib.decDigits n) W g1 (by have := (Array.getElem?_eq_some_iff.1 g2.2).1; omega)
    have G1 := Lib.hid g1
    have G4 := Lib.hid g4
    have HK := Lib.hid hK
    have HD := Lib.hid hD
    clear g1 g2 g3 g4 hK hD
    gi_wp2_with (refine ⟨trivial, ?_⟩; gi_at_call 67; refine (callsIn_wide.2 hst).mono ?_; clear hst; rintro e w5 ⟨rfl, hb5, hbl5, hok5⟩)
    have hK5 := (isB_keeps G1.out hok5 hbl5.size).same D _ HK.out rfl
    refine ⟨by simp, .inl ⟨_, _, rfl, run_takeDeferred hK5, ?_⟩⟩
    refine ⟨_, results_tmp rfl _ _ _, ?_, ?_⟩
    · show Ending.returned (.string ⟨(([45] : List UInt8) ++ Lib.decDigits n).toArray⟩) = _
      unfold canon
      rw [itoa_of_neg n hn]; rfl
    · exact (G4.out.trans (hbl5.mono (by omega))).trans (belowK_b (w := w) (Nat.le_refl _) w5 D _ _ (by have := HD.out; simp at this; omega) hK5 rfl rfl)
  case stop =>
    rintro D cd pre W _ _ h _
    exact h.elim

/-- 'close' at any sign and any magnitude. -/
theorem close_any (m : Bool) (A : Option Addr) (c n : Nat) (w : World) (hs : Sl w .u64 A c (lim9 n)) (hlen : (lim9 n).length ≤ 60000) (htab : Pow10 w) :
    Calls Tryd.prog 38 #[.agg #[.bool m, .slice A (lim9 n).length c]] w fun e w' => e = .returned (.string (canon (if m then -(n : Int) else (n : Int)))) ∧ Below w.heap.size w w' := by
  rcases Nat.eq_zero_or_pos n with rfl | hn
  · have h := close_zero m A c w
    cases m <;> exact h
  · cases m
    · exact close_pos A c n w hs hn hlen htab
    · exact close_neg A c n w hs hn hlen htab

end Go.Proofs.YtmkeigfckfkifaaDoor
