/- The walk of integer.divide where the divisor has one piece. -/
import Derived.Test.YtmkeigfckfkifaaDoorOrder
import Derived.Test.YtmkeigfckfkifaaDoorTimes
import Derived.Test.YtmkeigfckfkifaaDoorMinus
import Derived.Test.YtmkeigfckfkifaaDoorClose
import Derived.Deep.RegionLaw
import Derived.Test.YtmkeigfckfkifaaDoorTwo
import Derived.Laws.ResultCell
namespace Go.Proofs.YtmkeigfckfkifaaDoor
open Go.RowKit Go.Shelf

attribute [local go_sem] Oper.semAt_some

set_option maxHeartbeats 1000000 in
theorem divide_less (A A' : Option Addr) (c c' a b : Nat) (w : World) (ha : Sl w .u64 A c (lim9 a)) (hb : Sl w .u64 A' c' (lim9 b)) (hla : (lim9 a).length ≤ 60000) (hlb : (lim9 b).length ≤ 60000) (hlt : a < b) :
    Calls Tryd.prog 47 #[.slice A (lim9 a).length c, .slice A' (lim9 b).length c'] w fun e w' => e = .returned (.tuple #[.slice none 0 0, .slice A (lim9 a).length c]) ∧ Below w.heap.size w w' := by
  have ho := fun W hb => order_any A A' c c' a b W (ha.below hb) (Sl.below ‹Sl w .u64 A' c' (lim9 b)› hb) (by omega) (by omega)
  rw [cmpN_lt hlt] at ho
  have HO := Lib.hid ho
  clear ho ha hb
  go_enter Tryd.func47, Tryd.ntmps47
  go_wp2_with (go_at_call 49; refine (HO.out _ (((Below.refl _ _).alloc (Nat.le_refl _) _).alloc (by simp) _)).mono ?_; rintro e w' ⟨rfl, n, rfl⟩)
  refine bodyPost_ret (v := .tuple #[.slice none 0 0, .slice A (lim9 a).length c]) (by simp [results, Tryd.results47, go_sem]) rfl ⟨rfl, ?_⟩
  exact (((((Below.refl _ _).alloc (Nat.le_refl _) _).alloc (by simp) _).trans ((Drew.of _ n).below _)).setCell (p := ⟨w.heap.size + 1, 0, none⟩) (by simp) _)

theorem heap_set0 {w : World} {g : Nat} {t : TypeId} {v : Value} (h : w.heap[g]? = some (.cells #[v] t (0, 0))) (u : Value) : (w.setCell ⟨g, 0, none⟩ u).heap[g]? = some (.cells #[u] t (0, 0)) := by
  simp [World.setCell, Array.getElem?_modify, h]
theorem heap_far {w : World} {g : Nat} {o : Obj} (h : w.heap[g]? = some o) {p : Addr} (hp : g ≠ p.block) (u : Value) : (w.setCell p u).heap[g]? = some o := (Below.heap_setCell w p u g hp).trans h
theorem heap_more {w : World} {g : Nat} {o : Obj} (h : w.heap[g]? = some o) (o' : Obj) : (w.alloc o').heap[g]? = some o := (Below.heap_alloc w o' g (Array.getElem?_eq_some_iff.1 h).1).trans h
theorem heap_drewN {w : World} {g : Nat} {o : Obj} (h : w.heap[g]? = some o) (n : Nat) : (w.drewN n).heap[g]? = some o := h

theorem heap_put {w : World} {g D : Nat} {o : Obj} (h : w.heap[g]? = some o) (hne : g ≠ D) (o' : Obj) : (w.putObj D o').heap[g]? = some o := by
  simp [World.putObj, h, Ne.symm hne]

theorem Tab.put {w : World} {g D : Nat} {e : TypeId} {k : IntKind} {l : List Int} (h : Tab w g e k l) (hne : g ≠ D) (o' : Obj) : Tab (w.putObj D o') g e k l :=
  heap_put h hne o'

theorem sl_one {W : World} {g : Nat} {r : Int} (hc : W.cell? ⟨g, 0, none⟩ = some (.int .u64 r)) (hg : g < W.heap.size) : Sl W .u64 (some ⟨g, 0, none⟩) 1 [r] :=
  ⟨by simp, by simp only [maxLen]; omega, fun _ => ⟨g, 0, rfl, hg, fun j hj => by
    have : j = 0 := by simpa using hj
    subst this
    exact hc⟩⟩

/-- One round: the digit goes to its place, the rest is carried on. -/
def dstep (b0 : Int) (s : List Int × Int) (x : Int × Int) : List Int × Int := (s.1.set x.1.toNat ((s.2 * 1000000000 + x.2) / b0), (s.2 * 1000000000 + x.2) % b0)

/-- What the loop of 'divide' keeps. -/
def DivW {β : Type} (w : World) (Bs Q R : Nat) (A : Option Addr) (L c : Nat) (V2 : Value) (b0 : Int) (f : β → List Int × Int) (s : β) (W : World) : Prop :=
  (Tab W Q 72 .u64 (f s).1 ∧ (f s).1.length = L) ∧ (W.heap[R]? = some (.cells #[.int .u64 (f s).2] 72 (0, 0)) ∧ 0 ≤ (f s).2 ∧ (f s).2 < b0) ∧ W.heap[w.heap.size + 1]? = some (.cells #[.slice (some ⟨Q, 0, none⟩) L L] 54 (0, 0)) ∧
    W.heap[w.heap.size]? = some (.cells #[V2] 54 (0, 0)) ∧ W.heap[Bs]? = some (.cells #[.slice A L c] 54 (0, 0)) ∧ Below w.heap.size w W

theorem divW_turn {β : Type} {w : World} {Bs Q R : Nat} {A : Option Addr} {L c : Nat} {V2 : Value} {b0 : Int} {f : β → List Int × Int} (B : Nat) (hB : w.heap.size ≤ B) : OwnFrom B (DivW w Bs Q R A L c V2 b0 f) := by
  rintro s W W' row ⟨⟨h1, h1'⟩, ⟨h2, h2'⟩, h3, h4, h5, h6⟩ hg hr
  have hnc : ∀ {g : Nat} {cs : Array Value} {t : TypeId}, W.heap[g]? = some (.cells cs t (0, 0)) → W'.heap[g]? = some (.cells cs t (0, 0)) := fun {g cs t} hgc => by
    rw [hg.block g (Array.getElem?_eq_some_iff.1 hgc).1 (fun e => by
      obtain ⟨_, _, ho, hc⟩ := hr g e.symm
      rw [hgc] at ho
      injection ho with ho
      subst ho
      cases hc)]
    exact hgc
  refine ⟨⟨hnc h1, h1'⟩, ⟨hnc h2, h2'⟩, hnc h3, hnc h4, hnc h5, h6.grown hg h6.size (fun r e => ?_)⟩
  have := (hr r e).1
  omega

theorem dstep_all (Z : List Int) (hd : Digs 1000000000 Z) (hl : 0 < Z.length) (b : Int) (hb : 0 < b) : ∀ k, k ≤ Z.length →
    ∃ ql r, ((uptoF (backP Z hd hl) k).map P9.v).foldl (dstep b) (List.replicate Z.length 0, 0) = (ql, r) ∧ ql.length = Z.length ∧ Digs 1000000000 ql ∧ 0 ≤ r ∧ r < b ∧
      valB 1000000000 (Z.drop (Z.length - k)) = valB 1000000000 (ql.drop (Z.length - k)) * b + r := by
  intro k
  induction k with
  | zero =>
    intro _
    refine ⟨_, _, rfl, by simp, Digs.zeros (by omega) _, by simp, by simpa using hb, ?_⟩
    rw [Nat.sub_zero, List.drop_length, List.drop_of_length_le (by simp)]
    simp [valB]
  | succ k ih =>
    intro hk
    obtain ⟨ql, r, e, h1, h2, h3, h4, h5⟩ := ih (by omega)
    have hz := hd.at_ (by omega) (Z.length - 1 - k)
    have hx : (backF Z k).1.toNat = Z.length - 1 - k := by simp only [backF]; omega
    have hx2 : (backF Z k).2 = Z[Z.length - 1 - k]?.getD 0 := rfl
    rw [uptoF_succ, List.map_append, List.foldl_append, e]
    simp only [List.map_cons, List.map_nil, List.foldl_cons, List.foldl_nil, dstep, backP_eq hd hl (show k < Z.length by omega), hx, hx2]
    obtain ⟨m, hm⟩ : ∃ m, Z.length - 1 - k = m := ⟨_, rfl⟩
    rw [hm] at hz ⊢
    have hsub : Z.length - (k + 1) = m := by omega
    have hsub2 : Z.length - k = m + 1 := by omega
    rw [hsub2] at h5
    rw [hsub]
    generalize hzz : Z[m]?.getD 0 = z at *
    have q0 : 0 ≤ (r * 1000000000 + z) / b := Int.ediv_nonneg (by omega) (by omega)
    have q1 : (r * 1000000000 + z) / b < 1000000000 := by
      refine Int.ediv_lt_of_lt_mul hb ?_
      have : (r + 1) * 1000000000 ≤ b * 1000000000 := Int.mul_le_mul_of_nonneg_right (by omega) (by omega)
      rw [Int.mul_comm 1000000000 b]
      omega
    refine ⟨_, _, rfl, by simpa using h1, h2.set _ q0 q1, Int.emod_nonneg _ (by omega), Int.emod_lt_of_pos _ hb, ?_⟩
    have hml : m < Z.length := by omega
    rw [drop_getD Z m hml, hzz]
    have e2 : (ql.set m ((r * 1000000000 + z) / b)).drop m = ((r * 1000000000 + z) / b) :: ql.drop (m + 1) := by
      rw [drop_getD _ m (by simp; omega), List.drop_set_of_lt (by omega)]
      simp [h1, hml]
    rw [e2]
    simp only [valB, h5]
    have e3 := Int.emod_add_mul_ediv (r * 1000000000 + z) b
    generalize (r * 1000000000 + z) % b = rr at *
    generalize (r * 1000000000 + z) / b = q at *
    generalize valB 1000000000 (ql.drop (m + 1)) = t at *
    grind

theorem dstep_end (a b : Nat) (hb : 0 < b) (Z : List Int) (hZ : lim9 a = Z) (hd : Digs 1000000000 Z) (hl : 0 < Z.length) :
    ∃ ql r, ((uptoF (backP Z hd hl) Z.length).map P9.v).foldl (dstep b) (List.replicate Z.length 0, 0) = (ql, r) ∧ ql.length = Z.length ∧ Digs 1000000000 ql ∧ valB 1000000000 ql = ((a / b : Nat) : Int) ∧ r = ((a % b : Nat) : Int) := by
  obtain ⟨ql, r, e, h1, h2, h3, h4, h5⟩ := dstep_all Z hd hl b (by omega) Z.length (Nat.le_refl _)
  refine ⟨ql, r, e, h1, h2, ?_⟩
  rw [Nat.sub_self, List.drop_zero, List.drop_zero, ← hZ, lim9_val] at h5
  have h6 : (a : Int) / b = valB 1000000000 ql ∧ (a : Int) % b = r := by
    refine (Int.ediv_emod_unique (by omega)).2 ⟨?_, h3, h4⟩
    rw [h5, Int.mul_comm, Int.add_comm]
  exact ⟨by rw [← h6.1]; simp, by rw [← h6.2]; simp⟩

set_option maxRecDepth 100000 in
set_option maxHeartbeats 4000000 in
theorem divide_one (A A' : Option Addr) (c c' a b : Nat) (w : World) (ha : Sl w .u64 A c (lim9 a)) (hb : Sl w .u64 A' c' [(b : Int)]) (hla : (lim9 a).length ≤ 60000) (hb0 : 0 < b) (hb9 : b < 1000000000) (hge : b ≤ a) :
    Calls Tryd.prog 47 #[.slice A (lim9 a).length c, .slice A' 1 c'] w fun e w' => ∃ A1 c1 A2 c2, e = .returned (.tuple #[.slice A1 (lim9 (a / b)).length c1, .slice A2 (lim9 (a % b)).length c2]) ∧
      Sl w' .u64 A1 c1 (lim9 (a / b)) ∧ Sl w' .u64 A2 c2 (lim9 (a % b)) ∧ Below w.heap.size w w' := by
  have hl : 0 < (lim9 a).length := by
    rcases Nat.eq_zero_or_pos (lim9 a).length with h | h
    · have := (lim_len_zero 1000000000 (by omega) a).1 h
      omega
    · exact h
  have hbl : lim9 b = [(b : Int)] := by
    unfold lim9
    rw [lim_pos 1000000000 (by omega) b hb0, Nat.mod_eq_of_lt hb9, Nat.div_eq_of_lt hb9, lim_zero]
  obtain ⟨r0, hr0⟩ : ∃ r, cmpN a b = r := ⟨_, rfl⟩
  have hr1 : 0 ≤ r0 := by rw [← hr0]; unfold cmpN; rw [if_neg (by omega)]; split <;> omega
  have ho := fun W hW => order_any A A' c c' a b W (ha.below hW) (by rw [hbl]; exact hb.below hW) (by omega) (by rw [hbl]; simp)
  rw [hr0, hbl] at ho
  have HO := Lib.hid ho
  clear ho hr0 hbl
  obtain ⟨bb, ob, rfl, hbb, hcb⟩ := hb.at_ (by simp)
  have gb : w.cell? ⟨bb, ob + 0, none⟩ = some (.int .u64 (b : Int)) := hcb 0 (by simp)
  obtain ⟨Z, hZ⟩ : ∃ Z, lim9 a = Z := ⟨_, rfl⟩
  have hd : Digs 1000000000 Z := by rw [← hZ]; exact lim9_digs a
  rw [hZ] at ha hla hl HO ⊢
  have HZ := Lib.hid hZ
  have GB := Lib.hid gb
  clear hZ hcb gb
  have hmk := run_mkn Elem64 Z.length (by omega) (Z.length : Int) rfl
  refine (callsIn_wide (n := 9)).1 ?_
  have hro : Fence.wide.round = none := rfl
  refine callsIn_of_wp_marks Tryd.func47 rfl trivial ?_ hro
  simp only [Tryd.ntmps47, List.size_toArray, List.length_cons, List.length_nil, Nat.reduceAdd, Nat.reduceSub, Array.replicate_succ, Array.replicate_zero, List.push_toArray, List.append_toArray, List.nil_append, List.cons_append]
  gi_wp2_with (first
    | (refine ⟨trivial, ?_⟩; gi_at_call 49; refine (callsIn_wide.2 (HO.out _ (((Below.refl _ _).alloc (Nat.le_refl _) _).alloc (by simp) _))).mono ?_; rintro e w' ⟨rfl, n0, rfl⟩)
    | (refine ⟨trivial, ?_⟩; gi_at_call 64; refine (back_in Fence.wide _ trivial hro _ _ _ _).mono ?_; rintro e w' ⟨rfl, rfl⟩))
  obtain ⟨W1, hW1⟩ : ∃ W1, ((((((w.alloc (Obj.cells #[Value.slice (some { block := bb, off := ob }) 1 c'] 54)).alloc (Obj.cells #[Value.slice none 0 0] 54)).drewN n0).setCell { block := w.heap.size + 1, off := 0 } (Value.slice (some { block := w.heap.size + 1 + 1, off := 0 }) Z.length Z.length)).alloc (Obj.cells (zrow IntKind.u64 Z.length) 72)).alloc (Obj.cells #[Value.int IntKind.u64 0] 72)) = W1 := ⟨_, rfl⟩
  rw [hW1]
  have hs1 : W1.heap.size = w.heap.size + 1 + 1 + 1 + 1 := by rw [← hW1]; simp [World.setCell]
  have e1 : ((w.alloc (Obj.cells #[Value.slice (some { block := bb, off := ob }) 1 c'] 54)).alloc (Obj.cells #[Value.slice none 0 0] 54)).heap[w.heap.size + 1]? = some (.cells #[.slice none 0 0] 54 (0, 0)) := by
    have := heap_alloc_new (w.alloc (Obj.cells #[Value.slice (some { block := bb, off := ob }) 1 c'] 54)) (Obj.cells #[Value.slice none 0 0] 54)
    rw [World.size_alloc] at this
    exact this
  have e2 : (w.alloc (Obj.cells #[Value.slice (some { block := bb, off := ob }) 1 c'] 54)).heap[w.heap.size]? = some (.cells #[.slice (some { block := bb, off := ob }) 1 c'] 54 (0, 0)) := heap_alloc_new w _
  have f1 : W1.heap[w.heap.size + 1]? = some (.cells #[.slice (some ⟨w.heap.size + 1 + 1, 0, none⟩) Z.length Z.length] 54 (0, 0)) := by
    rw [← hW1]; exact heap_more (heap_more (heap_set0 (heap_drewN e1 n0) _) _) _
  have f2 : W1.heap[w.heap.size]? = some (.cells #[.slice (some ⟨bb, ob, none⟩) 1 c'] 54 (0, 0)) := by
    rw [← hW1]; exact heap_more (heap_more (heap_far (heap_drewN (heap_more e2 _) n0) (by simp) _) _) _
  have f3 : Tab W1 (w.heap.size + 1 + 1) 72 .u64 (List.replicate Z.length 0) := by
    rw [← hW1]
    refine Tab.alloc ?_ _
    have := Tab.made ((((w.alloc (Obj.cells #[Value.slice (some { block := bb, off := ob }) 1 c'] 54)).alloc (Obj.cells #[Value.slice none 0 0] 54)).drewN n0).setCell { block := w.heap.size + 1, off := 0 } (Value.slice (some { block := w.heap.size + 1 + 1, off := 0 }) Z.length Z.length)) 72 .u64 Z.length
    have hz : ((((w.alloc (Obj.cells #[Value.slice (some { block := bb, off := ob }) 1 c'] 54)).alloc (Obj.cells #[Value.slice none 0 0] 54)).drewN n0).setCell { block := w.heap.size + 1, off := 0 } (Value.slice (some { block := w.heap.size + 1 + 1, off := 0 }) Z.length Z.length)).heap.size = w.heap.size + 1 + 1 := by simp [World.setCell]
    rw [hz] at this
    exact this
  have f4 : W1.heap[w.heap.size + 1 + 1 + 1]? = some (.cells #[.int .u64 0] 72 (0, 0)) := by
    rw [← hW1]
    have := heap_alloc_new (((((w.alloc (Obj.cells #[Value.slice (some { block := bb, off := ob }) 1 c'] 54)).alloc (Obj.cells #[Value.slice none 0 0] 54)).drewN n0).setCell { block := w.heap.size + 1, off := 0 } (Value.slice (some { block := w.heap.size + 1 + 1, off := 0 }) Z.length Z.length)).alloc (Obj.cells (zrow IntKind.u64 Z.length) 72)) (Obj.cells #[Value.int IntKind.u64 0] 72)
    simpa [World.setCell] using this
  have f5 : Below w.heap.size w W1 := by
    rw [← hW1]
    refine Below.alloc (Below.alloc ?_ (by simp [World.setCell]; omega) _) (by simp [World.setCell]; omega) _
    exact (((((Below.refl _ _).alloc (Nat.le_refl _) _).alloc (by simp) _).trans ((Drew.of _ n0).below _)).setCell (p := ⟨w.heap.size + 1, 0, none⟩) (by simp) _)
  rw [show w.heap.size + 1 + 1 + 1 + 1 = W1.heap.size from hs1.symm]
  have F1 := Lib.hid f1
  have F2 := Lib.hid f2
  have F3 := Lib.hid f3
  have F4 := Lib.hid f4
  have F5 := Lib.hid f5
  have hsz : w.heap.size + 3 < W1.heap.size := by omega
  clear e1 e2 f1 f2 f3 f4 f5 hs1 hW1 HO
  refine wpIn_rangeFunc_ownG hro (by omega) (gf := 84) (lb := #[.pointer (some ⟨W1.heap.size, 0, none⟩)]) rfl trivial (enters_of Tryd.func84 (by kernel_rfl) rfl)
    (back_stops (α := P9 Z.length) P9.v (backP Z hd hl) Fence.wide _ trivial hro (by omega) W1.heap.size w.heap.size A c Z (by omega) (fun j hj => backP_eq hd hl hj) (W1.alloc (.cells #[.slice A Z.length c] 54)) (by simp) (by simp; omega) (World.cell?_alloc_at _ _ _ _ rfl) (fun h => ?hcells))
    KeptAt.trans (KeptAt.put (fun g hg => by simp; rcases hg with h | h <;> omega)) (Below.refl _ _) (fun _ => rfl)
    (DivW w W1.heap.size (w.heap.size + 1 + 1) (w.heap.size + 1 + 1 + 1) A Z.length c (.slice (some ⟨bb, ob, none⟩) 1 c') b (fun pre : List (P9 Z.length) => (pre.map P9.v).foldl (dstep b) (List.replicate Z.length 0, 0))) (fun _ _ _ => False) (divW_turn _ (by simp; omega)) (fun _ _ _ _ _ hs _ _ => hs)
    ⟨⟨F3.out.alloc _, by simp⟩, ⟨heap_more F4.out _, by simp, by simp; omega⟩, heap_more F1.out _, heap_more F2.out _, heap_alloc_new W1 _, F5.out.alloc (by omega) _⟩ ?a₁ ?assign ?body ?done ?stop
  case hcells =>
    obtain ⟨b, o, e, hb, hc⟩ := ha.at_ h
    exact ⟨b, o, e, hb, fun j hj => ((F5.out.alloc (by omega) _).cell (p := ⟨b, o + j, none⟩) hb).trans (hc j hj)⟩
  case assign =>
    intro l x W K hK
    gi_wp2
    exact hK
  case body =>
    rintro l pre ⟨⟨i, xv⟩, hx1, hx2, hx3, hx4⟩ W hdw hlt
    obtain ⟨j, rfl⟩ := Int.eq_ofNat_of_zero_le hx1
    dsimp only at hx2 hx3 hx4 ⊢
    unfold DivW at hdw
    dsimp only at hdw
    generalize hst : (pre.map P9.v).foldl (dstep b) (List.replicate Z.length 0, 0) = st at *
    obtain ⟨ql, r⟩ := st
    have HST := Lib.hid hst
    clear hst
    obtain ⟨⟨t1, t2⟩, ⟨r1, r2, r3⟩, q1, b1, s1, bel⟩ := hdw
    dsimp only at t1 t2 r1 r2 r3
    have hj : j < Z.length := by omega
    have cR : W.cell? ⟨w.heap.size + 1 + 1 + 1, 0, none⟩ = some (.int .u64 r) := by rw [Lib.cell_of_heap r1]; rfl
    have fR := Lib.frozen_of_heap r1 0
    have cQ : W.cell? ⟨w.heap.size + 1, 0, none⟩ = some (.slice (some ⟨w.heap.size + 1 + 1, 0, none⟩) Z.length Z.length) := by rw [Lib.cell_of_heap q1]; rfl
    have cB : W.cell? ⟨w.heap.size, 0, none⟩ = some (.slice (some ⟨bb, ob, none⟩) 1 c') := by rw [Lib.cell_of_heap b1]; rfl
    have cb : W.cell? ⟨bb, ob, none⟩ = some (.int .u64 (b : Int)) := (bel.cell (p := ⟨bb, ob, none⟩) hbb).trans GB.out
    have cJ := t1.cell j (by omega)
    have fJ := t1.frozen j
    generalize ql[j]?.getD 0 = oj at *
    have T1 := Lib.hid t1
    have T2 := Lib.hid t2
    have R1 := Lib.hid r1
    have Q1 := Lib.hid q1
    have B1 := Lib.hid b1
    have S1 := Lib.hid s1
    have BEL := Lib.hid bel
    clear t1 t2 r1 q1 b1 s1 bel
    have hrr0 : 0 ≤ r * 1000000000 + xv := by omega
    have hrr1 : r * 1000000000 + xv < 2000000000000000000 := by omega
    gi_wp2
    obtain ⟨rr, hrr⟩ : ∃ rr, r * 1000000000 + xv = rr := ⟨_, rfl⟩
    rw [hrr] at hrr0 hrr1 ⊢
    have HRR := Lib.hid hrr
    refine wpIn_region_any (by kernel_rfl) (anyIn_of_any (by kernel_rfl) (by rintro ⟨_, _, h⟩; exact h) _ _ _ _
      (two_region (by kernel_rfl) (by kernel_rfl) _ _ w.heap.size (w.heap.size + 1) (w.heap.size + 1 + 1) (w.heap.size + 1 + 1 + 1) bb ob c' Z.length j rr b (.int .u64 oj)
        (by simp) rfl rfl rfl rfl ?d1 ?d2 ?d3 ?d4 ?d5 ?d6 ?d7 hj (by omega) hrr0 hrr1 (by omega) (by omega) (by omega) (by omega) (by omega) ?fin))
    case d1 => exact (World.cell?_setCell_other _ _ _ _ (by simp)).trans cB
    case d2 => exact (World.cell?_setCell_other _ _ _ _ (by simp)).trans cQ
    case d3 => exact World.cell?_setCell_same _ _ _ cR
    case d4 => exact (World.frozen?_setCell ..).trans fR
    case d5 => exact (World.cell?_setCell_other _ _ _ _ (fun e => by injection e with e; omega)).trans cb
    case d6 => exact (World.cell?_setCell_other _ _ _ _ (by simp)).trans cJ
    case d7 => exact (World.frozen?_setCell ..).trans fJ
    case fin =>
      intro a
      have hk : KeepsOthers W ((((W.setCell ⟨w.heap.size + 1 + 1 + 1, 0, none⟩ (.int .u64 rr)).drew).setCell ⟨w.heap.size + 1 + 1, j, none⟩ (.int .u64 (rr / b))).setCell ⟨w.heap.size + 1 + 1 + 1, 0, none⟩ (.int .u64 (rr % b))) :=
        (((KeepsOthers.setCell _ _ _).trans (KeepsOthers.drew _)).trans (KeepsOthers.setCell _ _ _)).trans (KeepsOthers.setCell _ _ _)
      refine ⟨hk.from _, fun g hg => ?_, ?_⟩
      · have hgl : g ≠ w.heap.size + 1 + 1 ∧ g ≠ w.heap.size + 1 + 1 + 1 := by rcases hg with h | h <;> omega
        rw [Below.heap_setCell _ _ _ _ hgl.2, Below.heap_setCell _ _ _ _ hgl.1]
        exact Below.heap_setCell _ _ _ _ hgl.2
      · unfold DivW
        have hne : ∀ {g : Nat} {o : Obj}, W.heap[g]? = some o → g ≠ w.heap.size + 1 + 1 → g ≠ w.heap.size + 1 + 1 + 1 →
            ((((W.setCell ⟨w.heap.size + 1 + 1 + 1, 0, none⟩ (.int .u64 rr)).drew).setCell ⟨w.heap.size + 1 + 1, j, none⟩ (.int .u64 (rr / b))).setCell ⟨w.heap.size + 1 + 1 + 1, 0, none⟩ (.int .u64 (rr % b))).heap[g]? = some o := fun {g o} hgo h1 h2 => by
          rw [Below.heap_setCell _ _ _ _ h2, Below.heap_setCell _ _ _ _ h1]
          exact (Below.heap_setCell _ _ _ _ h2).trans hgo
        simp only [List.map_append, List.map_cons, List.map_nil, List.foldl_append, List.foldl_cons, List.foldl_nil, HST.out, dstep, Int.toNat_natCast, HRR.out]
        refine ⟨⟨?_, by simp [T2.out]⟩, ⟨?_, Int.emod_nonneg _ (by omega), Int.emod_lt_of_pos _ (by omega)⟩, hne Q1.out (by omega) (by omega), hne B1.out (by omega) (by omega), hne S1.out (by omega) (by omega), ?_⟩
        · exact ((Tab.far T1.out (by simp) _ : Tab (W.setCell ⟨w.heap.size + 1 + 1 + 1, 0, none⟩ (.int .u64 rr)) _ _ _ _).set j (rr / b) : Tab ((W.setCell ⟨w.heap.size + 1 + 1 + 1, 0, none⟩ (.int .u64 rr)).setCell _ _) _ _ _ _).far (by simp) _
        · exact heap_set0 (heap_far (heap_set0 R1.out (.int .u64 rr)) (by simp) _) _
        · exact (((BEL.out.setCell (p := ⟨w.heap.size + 1 + 1 + 1, 0, none⟩) (by simp; omega) _).drew).setCell (p := ⟨w.heap.size + 1 + 1, j, none⟩) (by simp; omega) _).setCell (p := ⟨w.heap.size + 1 + 1 + 1, 0, none⟩) (by simp; omega) _
  case done =>
    rintro D ys W hD rfl hdw hK
    obtain ⟨ql, r, e, g1, g2, g3, g4⟩ := dstep_end a b hb0 Z HZ.out hd hl
    unfold DivW at hdw
    dsimp only at hdw
    rw [e] at hdw
    obtain ⟨⟨t1, _⟩, ⟨r1, r2, r3⟩, q1, b1, s1, bel⟩ := hdw
    dsimp only at t1 r1 r2 r3
    have cR : W.cell? ⟨w.heap.size + 1 + 1 + 1, 0, none⟩ = some (.int .u64 r) := by rw [Lib.cell_of_heap r1]; rfl
    have cQ : W.cell? ⟨w.heap.size + 1, 0, none⟩ = some (.slice (some ⟨w.heap.size + 1 + 1, 0, none⟩) Z.length Z.length) := by rw [Lib.cell_of_heap q1]; rfl
    have fQ := Lib.frozen_of_heap q1 0
    clear e ha hb hmk
    gi_wp2
    refine wpIn_wide.2 ?_
    have hT1 := fun W' hb => trim_to (some ⟨w.heap.size + 1 + 1, 0, none⟩) Z.length Z.length (a / b) ql W' ((t1.slN g1 (by omega)).below hb) g1 (by omega) g2 g3
    have hT2 := fun W' g (hc : W'.cell? ⟨g, 0, none⟩ = some (.int .u64 r)) (hg : g < W'.heap.size) => trim_to (some ⟨g, 0, none⟩) 1 1 (a % b) [r] W' (sl_one hc hg) rfl (by omega) (Digs.nil.cons r2 (by omega)) (by simp [valB, g4])
    have HG4 := Lib.hid g4
    clear g4
    have HT1 := Lib.hid hT1
    have HT2 := Lib.hid hT2
    have T1 := Lib.hid t1
    have BEL := Lib.hid bel
    have HK := Lib.hid hK
    have Q1 := Lib.hid q1
    have hqs := (Array.getElem?_eq_some_iff.1 q1).1
    have g2' := g2
    have g3' := g3
    clear hT1 hT2 t1 q1 b1 s1 bel hK r1 g2 g3
    refine wp_mono (Q := OnlyN _) ?_ onlyN_le
    go_region_with (first
      | ((with_reducible refine (HT1.out _ ?_).mono ?_); (first | exact (Below.refl _ _).drew | exact ((Below.refl _ _).alloc (Nat.le_refl _) _).drew | exact ((Below.refl _ _).drew.alloc (Nat.le_refl _) _)); rintro e w'' ⟨rfl, rfl⟩)
      | ((with_reducible refine (HT2.out _ _ ?_ ?_).mono ?_); (exact World.cell?_alloc_at _ _ _ _ rfl); simp; rintro e w'' ⟨rfl, rfl⟩))
    all_goals dsimp only [OnlyN]
    all_goals simp only [Act.put, List.getElem_toArray, List.getElem_cons_succ, List.getElem_cons_zero, List.setIfInBounds_toArray, List.set_cons_succ, List.set_cons_zero]
    all_goals gi_wp2
    all_goals
      obtain ⟨W5, hW5⟩ : ∃ W5, ((W.setCell { block := w.heap.size + 1, off := 0 } (Value.slice (some { block := w.heap.size + 1 + 1, off := 0 }) (lim9 (a / b)).length Z.length)).alloc (Obj.cells #[Value.int IntKind.u64 r] 72)).drew = W5 := ⟨_, rfl⟩
      rw [hW5]
      have hk5 : W5.heap[D]? = some (.deferred (some [])) := by
        rw [← hW5]
        exact heap_more (heap_far HK.out (by simp at hD ⊢; omega) _) _
      have hq5 : W5.heap[w.heap.size + 1]? = some (.cells #[.slice (some ⟨w.heap.size + 1 + 1, 0, none⟩) (lim9 (a / b)).length Z.length] 54 (0, 0)) := by
        rw [← hW5]
        exact heap_more (heap_set0 Q1.out _) _
      have ht5 : Tab W5 (w.heap.size + 1 + 1) 72 .u64 ql := by
        rw [← hW5]
        exact (T1.out.far (by simp) _).alloc _
      have hr5 : W5.heap[W.heap.size]? = some (.cells #[.int .u64 r] 72 (0, 0)) := by
        rw [← hW5]
        have := heap_alloc_new (W.setCell { block := w.heap.size + 1, off := 0 } (Value.slice (some { block := w.heap.size + 1 + 1, off := 0 }) (lim9 (a / b)).length Z.length)) (Obj.cells #[Value.int IntKind.u64 r] 72)
        rw [World.size_setCell] at this
        exact this
      have hb5 : Below w.heap.size w W5 := by
        rw [← hW5]
        exact ((BEL.out.setCell (p := ⟨w.heap.size + 1, 0, none⟩) (by simp) _).alloc (by simp; omega) _).drew
      have hDs : D < W.heap.size := (Array.getElem?_eq_some_iff.1 HK.out).1
      have hD2 : w.heap.size + 4 < D := by simp at hD; omega
      have hbk := belowK_b (w := w) (Nat.le_refl _) W5 D _ (.deferred none) (by omega) hk5 rfl rfl
      clear hW5 HK Q1 T1 BEL
      refine ⟨by simp, .inl ⟨_, _, rfl, run_takeDeferred hk5, ?_⟩⟩
      have hq6 : (W5.putObj D (.deferred none)).cell? ⟨w.heap.size + 1, 0, none⟩ = some (.slice (some ⟨w.heap.size + 1 + 1, 0, none⟩) (lim9 (a / b)).length Z.length) := by
        rw [Lib.cell_of_heap (heap_put hq5 (by omega) _)]; rfl
      refine ⟨_, (by rw [results_cell_tmp Tryd.results47]; simp [go_sem, hq6]), some ⟨w.heap.size + 1 + 1, 0, none⟩, Z.length, some ⟨W.heap.size, 0, none⟩, 1, rfl, ?_, ?_, hb5.trans hbk⟩
      · exact ((ht5.put (by omega) _).slN g1 (by omega)).to9 g2' g3'
      · refine Sl.to9 (sl_one (r := r) ?_ ?_) (Digs.nil.cons r2 (by omega)) (by simp [valB, HG4.out])
        · rw [Lib.cell_of_heap (heap_put hr5 (by omega) _)]; rfl
        · exact (Array.getElem?_eq_some_iff.1 (heap_put hr5 (by omega) (.deferred none))).1
  case stop =>
    rintro D cd pre W _ _ h _
    exact h.elim

end Go.Proofs.YtmkeigfckfkifaaDoor
