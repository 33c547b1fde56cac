/- Tables whose rows are made from the last one on; the state of Count. -/
import Derived.Test.YthhkmihjnnfpgaaGreatDoorCorU
import Derived.Test.YthhkmihjnnfpgaaGreatDoorGRefB
import Derived.Test.YthhkmihjnnfpgaaGreatDoorGInt
namespace Go.Proofs.YthhkmihjnnfpgaaGreatDoor
set_option linter.all false
open Go.RowKit

attribute [local go_sem] Oper.semAt_some

structure TabS (W : World) (wb N M k : Nat) (rw_ : Nat → Nat) (c : Nat → Nat → Value) (T1 T2 : TypeId) : Prop where
 out : Blk W wb ((List.range N).map (fun p => if k ≤ p then Value.slice (some ⟨rw_ p, 0, none⟩) M M else Value.slice none 0 0)).toArray T1
 row : ∀ p, k ≤ p → p < N → Blk W (rw_ p) ((List.range M).map (fun r => c p r)).toArray T2
 far : ∀ p, k ≤ p → p < N → rw_ p ≠ wb
 inj : ∀ p r, k ≤ p → p < N → k ≤ r → r < N → rw_ p = rw_ r → p = r
section
variable {W W' : World} {wb N M k : Nat} {rw_ : Nat → Nat} {c : Nat → Nat → Value} {T1 T2 : TypeId}
theorem range_get {β : Type} (f : Nat → β) (n i : Nat) (h : i < n) : ((List.range n).map f)[i]? = some (f i) := by
 rw [List.getElem?_map, List.getElem?_range h]
 rfl
theorem TabS.cell1 (h : TabS W wb N M k rw_ c T1 T2) (p : Nat) (h1 : k ≤ p) (h2 : p < N) : W.cell? ⟨wb, p, none⟩ = some (.slice (some ⟨rw_ p, 0, none⟩) M M) := by
 refine h.out.atL p _ ?_
 rw [range_get _ N p h2, if_pos h1]
theorem TabS.cell0 (h : TabS W wb N M k rw_ c T1 T2) (p : Nat) (h2 : p < N) : ∃ v, W.cell? ⟨wb, p, none⟩ = some v := ⟨_, h.out.atL p _ (range_get _ N p h2)⟩
theorem TabS.cell2 (h : TabS W wb N M k rw_ c T1 T2) (p r : Nat) (h1 : k ≤ p) (h2 : p < N) (h3 : r < M) : W.cell? ⟨rw_ p, r, none⟩ = some (c p r) := (h.row p h1 h2).atL r _ (range_get _ M r h3)
theorem TabS.free (h : TabS W wb N M k rw_ c T1 T2) (p r : Nat) (h1 : k ≤ p) (h2 : p < N) : W.frozen? ⟨rw_ p, r, none⟩ = false := (h.row p h1 h2).free r
theorem TabS.below (h : TabS W wb N M k rw_ c T1 T2) (q : Below W.heap.size W W') : TabS W' wb N M k rw_ c T1 T2 := ⟨h.out.below q, fun p h1 h2 => (h.row p h1 h2).below q, h.far, h.inj⟩
theorem TabS.keptC {S : Nat → TypeId → Prop} (h : TabS W wb N M k rw_ c T1 T2) (q : KeptC S W W') (h1 : S wb T1) (h2 : ∀ p, k ≤ p → p < N → S (rw_ p) T2) : TabS W' wb N M k rw_ c T1 T2 := ⟨h.out.keptC q h1, fun p a b => (h.row p a b).keptC q (h2 p a b), h.far, h.inj⟩
theorem TabS.congr {c' : Nat → Nat → Value} (h : TabS W wb N M k rw_ c T1 T2) (e : ∀ p r, k ≤ p → p < N → r < M → c p r = c' p r) : TabS W wb N M k rw_ c' T1 T2 := by
 refine ⟨h.out, fun p a b => ?_, h.far, h.inj⟩
 have h2 : (List.range M).map (fun r => c p r) = (List.range M).map (fun r => c' p r) := List.map_congr_left (fun r hr => e p r a b (List.mem_range.1 hr))
 rw [← h2]
 exact h.row p a b
theorem TabS.other (h : TabS W wb N M k rw_ c T1 T2) {g : Nat} (q : Wrote g W W') (h1 : wb ≠ g) (h2 : ∀ p, k ≤ p → p < N → rw_ p ≠ g) : TabS W' wb N M k rw_ c T1 T2 := h.keptC q.kept h1 h2
theorem map_set {β : Type} (f : Nat → β) (n j : Nat) (v : β) : ((List.range n).map f).toArray.setIfInBounds j v = ((List.range n).map (fun i => if i = j then v else f i)).toArray := by
 apply Array.ext_getElem?
 intro b
 rw [Array.getElem?_setIfInBounds]
 simp only [List.getElem?_toArray, List.getElem?_map, List.size_toArray, List.length_map, List.length_range]
 by_cases hb : j = b
 ·subst hb
  rw [if_pos rfl]
  by_cases hj : j < n
  ·rw [if_pos hj, List.getElem?_range hj]
   simp
  ·rw [if_neg hj, List.getElem?_eq_none (by simpa using hj)]
   rfl
 ·rw [if_neg hb]
  by_cases hj : b < n
  ·rw [List.getElem?_range hj]
   simp [show ¬ b = j from fun e => hb e.symm]
  ·rw [List.getElem?_eq_none (by simpa using hj)]
   rfl
theorem TabS.set (h : TabS W wb N M k rw_ c T1 T2) (p r : Nat) (h1 : k ≤ p) (h2 : p < N) (v : Value) : TabS (W.setCell ⟨rw_ p, r, none⟩ v) wb N M k rw_ (updV c p r v) T1 T2 ∧ Wrote (rw_ p) W (W.setCell ⟨rw_ p, r, none⟩ v) := by
 have w := Wrote.set (h.row p h1 h2) r v
 refine ⟨⟨h.out.keptC w.kept (Ne.symm (h.far p h1 h2)), fun a ha hb => ?_, h.far, h.inj⟩, w⟩
 by_cases e : a = p
 ·subst e
  have hs := (h.row a h1 h2).set r v
  rw [map_set] at hs
  have e2 : (List.range M).map (fun i => if i = r then v else c a i) = (List.range M).map (fun i => updV c a r v a i) := List.map_congr_left (fun i _ => by
   unfold updV
   by_cases hi : i = r
   ·rw [if_pos hi, if_pos ⟨rfl, hi⟩]
   ·rw [if_neg hi, if_neg (fun h => hi h.2)])
  rw [e2] at hs
  exact hs
 ·have hr := (h.row a ha hb).keptC w.kept (fun e2 => e (h.inj a p ha hb h1 h2 e2))
  have e2 : (List.range M).map (fun i => updV c p r v a i) = (List.range M).map (fun i => c a i) := List.map_congr_left (fun i _ => by
   unfold updV
   rw [if_neg (fun h => e h.1)])
  rw [e2]
  exact hr
theorem TabS.next {g : Nat} {z : Value} (h : TabS W wb N M (k + 1) rw_ c T1 T2) (hk : k < N) (hg : Blk W g ((List.range M).map (fun _ => z)).toArray T2) (hw : g ≠ wb) (hf : ∀ p, k + 1 ≤ p → p < N → rw_ p ≠ g) :
  TabS (W.setCell ⟨wb, k, none⟩ (.slice (some ⟨g, 0, none⟩) M M)) wb N M k (fun p => if p = k then g else rw_ p) (fun p r => if p = k then z else c p r) T1 T2 ∧ Wrote wb W (W.setCell ⟨wb, k, none⟩ (.slice (some ⟨g, 0, none⟩) M M)) := by
 have w := Wrote.set h.out k (.slice (some ⟨g, 0, none⟩) M M)
 refine ⟨⟨?_, fun a ha hb => ?_, fun a ha hb => ?_, fun a b ha hb hc hd e => ?_⟩, w⟩
 ·have hs := h.out.set k (.slice (some ⟨g, 0, none⟩) M M)
  rw [map_set] at hs
  have e2 : (List.range N).map (fun i => if i = k then Value.slice (some ⟨g, 0, none⟩) M M else if k + 1 ≤ i then Value.slice (some ⟨rw_ i, 0, none⟩) M M else Value.slice none 0 0) = (List.range N).map (fun p => if k ≤ p then Value.slice (some ⟨if p = k then g else rw_ p, 0, none⟩) M M else Value.slice none 0 0) := List.map_congr_left (fun i _ => by
   by_cases hi : i = k
   ·subst hi
    rw [if_pos rfl, if_pos (Nat.le_refl _), if_pos rfl]
   ·rw [if_neg hi]
    by_cases h3 : k + 1 ≤ i
    ·rw [if_pos h3, if_pos (by omega), if_neg hi]
    ·rw [if_neg h3, if_neg (by omega)])
  rw [e2] at hs
  exact hs
 ·by_cases e : a = k
  ·subst e
   simp only [if_true]
   exact hg.keptC w.kept hw
  ·simp only [if_neg e]
   exact (h.row a (by omega) hb).keptC w.kept (h.far a (by omega) hb)
 ·by_cases e : a = k
  ·rw [if_pos e]; exact hw
  ·rw [if_neg e]; exact h.far a (by omega) hb
 ·by_cases e1 : a = k <;> by_cases e2 : b = k
  ·omega
  ·rw [if_pos e1, if_neg e2] at e
   exact absurd e.symm (hf b (by omega) hd)
  ·rw [if_neg e1, if_pos e2] at e
   exact absurd e (hf a (by omega) hb)
  ·rw [if_neg e1, if_neg e2] at e
   exact h.inj a b (by omega) hb (by omega) hd e
theorem TabS.nil (h : Blk W wb ((List.range N).map (fun _ => Value.slice none 0 0)).toArray T1) (rw_ : Nat → Nat) (c : Nat → Nat → Value) : TabS W wb N M N rw_ c T1 T2 := by
 refine ⟨?_, fun p h1 h2 => by omega, fun p h1 h2 => by omega, fun p r h1 h2 => by omega⟩
 have e : (List.range N).map (fun p => if N ≤ p then Value.slice (some ⟨rw_ p, 0, none⟩) M M else Value.slice none 0 0) = (List.range N).map (fun _ => Value.slice none 0 0) := List.map_congr_left (fun i hi => by rw [if_neg (by have := List.mem_range.1 hi; omega)])
 rw [e]
 exact h
end
structure StC (w0 : World) (bq bw bi ob wb k : Nat) (rb : List Nat) (rw_ : Nat → Nat) (q : CQ) (sl sr : Value) (i : Int) (c : Nat → Nat → Value) (ds : List Deferred) (W : World) : Prop where
 bb : Below w0.heap.size w0 W
 kq : Blk W bq #[sl, sr, .string (qT (2 * q.ch)), .string (qT (2 * q.mi)), .string (qT (2 * q.ga)), .string (qT (2 * q.re))] 32
 kw : Blk W bw #[.slice (some ⟨wb, 0, none⟩) rb.length rb.length] 105
 ki : Blk W bi #[.int .i64 i] 3
 tab : TabT W ob rb (q.R.length + 1) (rstT q) 71 28
 ways : TabS W wb rb.length (q.R.length + 1) k rw_ c 106 40
 mrk : Marks w0.heap.size W ds
 s1 : w0.heap.size ≤ bq ∧ bq < ob ∧ ob < wb ∧ wb < bw ∧ bw < bi
 s3 : ∀ g ∈ rb, bq < g ∧ g < wb
 s4 : ∀ p, k ≤ p → p < rb.length → bw < rw_ p ∧ rw_ p ≠ bi
section
variable {w0 W W' : World} {bq bw bi ob wb k : Nat} {rb : List Nat} {rw_ : Nat → Nat} {q : CQ} {sl sr : Value} {i : Int} {c : Nat → Nat → Value} {ds : List Deferred}
theorem StC.below (h : StC w0 bq bw bi ob wb k rb rw_ q sl sr i c ds W) (p : Below W.heap.size W W') : StC w0 bq bw bi ob wb k rb rw_ q sl sr i c ds W' :=
 ⟨h.bb.trans (p.mono h.bb.size), h.kq.below p, h.kw.below p, h.ki.below p, h.tab.below p, h.ways.below p, h.mrk.kept (keepsFrom_below p), h.s1, h.s3, h.s4⟩
theorem StC.wrote {g : Nat} {c' : Nat → Nat → Value} (h : StC w0 bq bw bi ob wb k rb rw_ q sl sr i c ds W) (hg : bw < g) (hi : g ≠ bi) (p : Wrote g W W') (t : TabS W' wb rb.length (q.R.length + 1) k rw_ c' 106 40) : StC w0 bq bw bi ob wb k rb rw_ q sl sr i c' ds W' := by
 have h1 := h.s1
 exact ⟨h.bb.trans (p.below.mono (by omega)), h.kq.keptC p.kept (by omega), h.kw.keptC p.kept (by omega), h.ki.keptC p.kept (Ne.symm hi), h.tab.keptC p.kept (by omega) (fun x hx => by have := h.s3 x hx; omega), t, h.mrk.kept (KeepsFrom.mono p.keeps (Nat.zero_le _)), h.s1, h.s3, h.s4⟩
theorem StC.tabC {c' : Nat → Nat → Value} (h : StC w0 bq bw bi ob wb k rb rw_ q sl sr i c ds W) (e : ∀ p r, k ≤ p → p < rb.length → r < q.R.length + 1 → c p r = c' p r) : StC w0 bq bw bi ob wb k rb rw_ q sl sr i c' ds W :=
 ⟨h.bb, h.kq, h.kw, h.ki, h.tab, h.ways.congr e, h.mrk, h.s1, h.s3, h.s4⟩
theorem StC.marks {ds' : List Deferred} (h : StC w0 bq bw bi ob wb k rb rw_ q sl sr i c ds W) (m : Marks w0.heap.size W ds') : StC w0 bq bw bi ob wb k rb rw_ q sl sr i c ds' W := ⟨h.bb, h.kq, h.kw, h.ki, h.tab, h.ways, m, h.s1, h.s3, h.s4⟩
theorem StC.newI {bi' : Nat} {x : Int} (h : StC w0 bq bw bi ob wb k rb rw_ q sl sr i c ds W) (hb : bw < bi') (p : Blk W bi' #[.int .i64 x] 3) : StC w0 bq bw bi' ob wb k rb rw_ q sl sr x c ds W :=
 ⟨h.bb, h.kq, h.kw, p, h.tab, h.ways, h.mrk, by have := h.s1; omega, h.s3, fun p' h1 h2 => ⟨(h.s4 p' h1 h2).1, fun e => by
  have hr := h.ways.row p' h1 h2
  rw [e] at hr
  exact absurd (hr.type_eq p) (by decide)⟩⟩
theorem StC.own {β : Type} {B : Nat} {WB : World} (hB : WB.heap.size = B) (hw : w0.heap.size ≤ B) (hm : Marks w0.heap.size WB ds) (f : β → Nat → Nat → Value) : OwnFrom B (fun (s : β) V => StC w0 bq bw bi ob wb k rb rw_ q sl sr i (f s) ds V ∧ KeepsLow B WB V) := fun s V V' row h hg hr => by
 have hk := KeepsLow.own (β := β) B WB s V V' row h.2 hg hr
 have hb := ownFrom_bb (β := β) hw s V V' row ⟨h.1.bb.size, h.1.bb⟩ hg hr
 have hc := ownFrom_cells (I := fun (_ : Unit) X => (Blk X bq #[sl, sr, .string (qT (2 * q.ch)), .string (qT (2 * q.mi)), .string (qT (2 * q.ga)), .string (qT (2 * q.re))] 32 ∧ Blk X bw #[.slice (some ⟨wb, 0, none⟩) rb.length rb.length] 105 ∧ Blk X bi #[.int .i64 i] 3) ∧ TabT X ob rb (q.R.length + 1) (rstT q) 71 28 ∧ TabS X wb rb.length (q.R.length + 1) k rw_ (f s) 106 40)
  (fun _ X X' h k _ => ⟨⟨h.1.1.keptC k trivial, h.1.2.1.keptC k trivial, h.1.2.2.keptC k trivial⟩, h.2.1.keptC k trivial (fun _ _ => trivial), h.2.2.keptC k trivial (fun _ _ _ => trivial)⟩) B () V V' row ⟨⟨h.1.kq, h.1.kw, h.1.ki⟩, h.1.tab, h.1.ways⟩ hg hr
 exact ⟨⟨hb.2, hc.1.1, hc.1.2.1, hc.1.2.2, hc.2.1, hc.2.2, Marks.low (Nat.le_of_eq hB) hk hm, h.1.s1, h.1.s3, h.1.s4⟩, hk⟩
theorem StC.nextRow {g : Nat} {z : Value} (h : StC w0 bq bw bi ob wb (k + 1) rb rw_ q sl sr i c ds W) (hk : k < rb.length) (hg : Blk W g ((List.range (q.R.length + 1)).map (fun _ => z)).toArray 40) (hb : bw < g) (hi : g ≠ bi) (hf : ∀ p, k + 1 ≤ p → p < rb.length → rw_ p ≠ g) :
  StC w0 bq bw bi ob wb k rb (fun p => if p = k then g else rw_ p) q sl sr i (fun p r => if p = k then z else c p r) ds (W.setCell ⟨wb, k, none⟩ (.slice (some ⟨g, 0, none⟩) (q.R.length + 1) (q.R.length + 1))) := by
 have h1 := h.s1
 obtain ⟨t, p⟩ := h.ways.next hk hg (by omega) hf
 exact ⟨h.bb.trans (p.below.mono (by omega)), h.kq.keptC p.kept (by omega), h.kw.keptC p.kept (by omega), h.ki.keptC p.kept (by omega), h.tab.keptC p.kept (by omega) (fun x hx => by have := h.s3 x hx; omega), t, h.mrk.kept (KeepsFrom.mono p.keeps (Nat.zero_le _)), h.s1, h.s3, fun a h2 h3 => by
  by_cases e : a = k
  ·rw [if_pos e]; exact ⟨hb, hi⟩
  ·rw [if_neg e]; exact h.s4 a (by omega) h3⟩
end
def wayT (q : CQ) (i m : Nat) (p r : Nat) : Value := if i < p ∨ (p = i ∧ m ≤ r) then .string (canon (cnt q p r : Nat)) else .string ⟨#[]⟩
def entW (q : CQ) (i j : Nat) (x : Nat) (p r : Nat) : Value := if p = i ∧ r = j then .string (canon (x : Nat)) else wayT q i (j + 1) p r
theorem entW_upd (q : CQ) (i j x y p r : Nat) : updV (entW q i j x) i j (.string (canon (y : Nat))) p r = entW q i j y p r := by
 unfold updV entW
 by_cases h : p = i ∧ r = j
 ·rw [if_pos h, if_pos h]
 ·rw [if_neg h, if_neg h, if_neg h]
theorem wayT_upd (q : CQ) (i j y p r : Nat) : updV (wayT q i (j + 1)) i j (.string (canon (y : Nat))) p r = entW q i j y p r := rfl
theorem entW_done (q : CQ) (i j p r : Nat) : entW q i j (cnt q i j) p r = wayT q i j p r := by
 unfold entW
 by_cases h : p = i ∧ r = j
 ·rw [if_pos h, h.1, h.2]
  unfold wayT
  rw [if_pos (by omega)]
 ·rw [if_neg h]
  unfold wayT
  by_cases h1 : i < p ∨ (p = i ∧ j + 1 ≤ r)
  ·rw [if_pos h1, if_pos (by omega)]
  ·rw [if_neg h1, if_neg (by omega)]
def cntS (q : CQ) (i j : Nat) (l : List (SK q i j)) : Nat := (if i = q.L.length ∧ j = q.R.length then 1 else 0) + (l.map (fun x => cnt q (nxI x.k i) (nxJ x.k j))).sum
theorem cntS_snoc (q : CQ) (i j : Nat) (l : List (SK q i j)) (x : SK q i j) : cntS q i j (l ++ [x]) = cntS q i j l + cnt q (nxI x.k i) (nxJ x.k j) := by
 unfold cntS
 rw [List.map_append, List.sum_append]
 simp
 omega
theorem cntS_all (q : CQ) (i j : Nat) : cntS q i j (gdS q i j) = cnt q i j := by
 rw [cnt_eq, ← gdS_k, List.map_map]
 rfl
theorem cnt_bdQ (q : CQ) (ok : OkQ q) (i j : Nat) (hi : i ≤ q.L.length) (hj : j ≤ q.R.length) : cnt q i j ≤ 244140625 := by
 have h := cnt_bd q (left q i j) i j rfl hi hj
 have h1 := ok.hl
 have h2 := ok.hr
 have h3 : left q i j ≤ 12 := by unfold left; omega
 exact Nat.le_trans h (Nat.le_trans (Nat.pow_le_pow_right (by omega) h3) (by decide))
theorem cntS_bd (q : CQ) (ok : OkQ q) (i j : Nat) : ∀ (l : List (SK q i j)), cntS q i j l ≤ 1 + l.length * 244140625
 | [] => by unfold cntS; simp; split <;> omega
 | x :: l => by
  have ih := cntS_bd q ok i j l
  have h := cnt_bdQ q ok _ _ x.h2.1 x.h2.2.1
  have e : cntS q i j (x :: l) = cnt q (nxI x.k i) (nxJ x.k j) + cntS q i j l := by
   unfold cntS
   rw [List.map_cons, List.sum_cons]
   omega
  rw [e, List.length_cons, Nat.succ_mul]
  omega
theorem cway_size (n : Nat) (h : n < 10000000000) : (canon (n : Int)).size ≤ 11 := canon_size_lt n 10 (by rw [Int.natAbs_natCast]; exact h) (by omega)

end Go.Proofs.YthhkmihjnnfpgaaGreatDoor
