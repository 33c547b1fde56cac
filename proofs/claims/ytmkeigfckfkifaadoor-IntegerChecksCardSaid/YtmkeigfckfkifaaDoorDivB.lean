/- The walk of integer.divide where the divisor has two pieces or more. -/
import Derived.Test.YtmkeigfckfkifaaDoorSmall
import Derived.Test.YtmkeigfckfkifaaDoorDivM
import Derived.Test.YtmkeigfckfkifaaDoorCons
import Derived.Test.YtmkeigfckfkifaaDoorDivF
import Derived.Deep.CutRange
namespace Go.Proofs.YtmkeigfckfkifaaDoor
open Go.RowKit Go.Shelf

theorem int_u64 {a b : Int} (h : a = b) : Value.int .u64 a = .int .u64 b := by rw [h]

/-- A slice of numbers does not lie in a cell that holds a slice. -/
theorem Sl.ne_slice {w : World} {k : IntKind} {A : Option Addr} {c g n m : Nat} {a : Option Addr} {t : TypeId} {fr : Nat × Nat} {l : List Int} (h : Sl w k A c l) (hl : 0 < l.length) (hg : w.heap[g]? = some (.cells #[.slice a n m] t fr)) (q : Addr) (hq : A = some q) : q.block ≠ g := by
  obtain ⟨b, o, e, hlt, hc⟩ := h.2.2 hl
  rw [hq] at e
  injection e with e
  subst e
  intro hbg
  dsimp only at hbg
  subst hbg
  have h1 := hc 0 hl
  rw [Lib.cell_of_heap hg] at h1
  rcases Nat.eq_zero_or_pos (o + 0) with h2 | h2
  · rw [h2] at h1; simp at h1
  · rw [Array.getElem?_eq_none (by simp; omega)] at h1; cases h1

theorem Sl.put_slice {w : World} {k : IntKind} {A : Option Addr} {c g n m : Nat} {a : Option Addr} {t : TypeId} {fr : Nat × Nat} {l : List Int} (h : Sl w k A c l) (hg : w.heap[g]? = some (.cells #[.slice a n m] t fr)) (u : Value) : Sl (w.setCell ⟨g, 0, none⟩ u) k A c l :=
  ⟨h.1, h.2.1, fun hl => by
    obtain ⟨b, o, e, hlt, hc⟩ := h.2.2 hl
    have hbg := h.ne_slice hl hg _ e
    exact ⟨b, o, e, by simpa [World.setCell] using hlt, fun j hj => (World.cell?_setCell_other _ _ _ _ (fun e => hbg (congrArg Addr.block e).symm)).trans (hc j hj)⟩⟩

/-- A slice that lies elsewhere is not hit. -/
theorem Sl.put_far {w : World} {k : IntKind} {A : Option Addr} {c : Nat} {p : Addr} {l : List Int} (h : Sl w k A c l) (hp : ∀ q : Addr, A = some q → q.block ≠ p.block) (u : Value) : Sl (w.setCell p u) k A c l :=
  ⟨h.1, h.2.1, fun hl => by
    obtain ⟨b, o, e, hlt, hc⟩ := h.2.2 hl
    have hbg : b ≠ p.block := hp _ e
    exact ⟨b, o, e, by simpa [World.setCell] using hlt, fun j hj => (World.cell?_setCell_other _ _ _ _ (fun e => hbg (congrArg Addr.block e).symm)).trans (hc j hj)⟩⟩

theorem Sl.belowB {w w' : World} {k : IntKind} {A : Option Addr} {c B : Nat} {l : List Int} (h : Sl w k A c l) (hb : Below B w w') (hp : ∀ q : Addr, A = some q → q.block < B) : Sl w' k A c l :=
  ⟨h.1, h.2.1, fun hl => by
    obtain ⟨b, o, e, hlt, hc⟩ := h.2.2 hl
    have hbB : b < B := hp _ e
    exact ⟨b, o, e, Nat.lt_of_lt_of_le hlt hb.size, fun j hj => (hb.cell (p := ⟨b, o + j, none⟩) hbB).trans (hc j hj)⟩⟩

theorem Sl.block_lt {w : World} {k : IntKind} {A : Option Addr} {c : Nat} {l : List Int} (h : Sl w k A c l) (hl : 0 < l.length) (q : Addr) (hq : A = some q) : q.block < w.heap.size := by
  obtain ⟨b, o, e, hlt, _⟩ := h.2.2 hl
  rw [hq] at e
  injection e with e
  subst e
  exact hlt

set_option maxRecDepth 100000 in
set_option maxHeartbeats 4000000 in
theorem divide_many (A A' : Option Addr) (c c' a b : Nat) (w : World) (ha : Sl w .u64 A c (lim9 a)) (hb : Sl w .u64 A' c' (lim9 b)) (hla : (lim9 a).length ≤ 20000) (hlb : 2 ≤ (lim9 b).length) (hge : b ≤ a) :
    Calls Tryd.prog 47 #[.slice A (lim9 a).length c, .slice A' (lim9 b).length c'] w fun e w' => ∃ A1 c1 A2 c2, e = .returned (.tuple #[.slice A1 (lim9 (a / b)).length c1, .slice A2 (lim9 (a % b)).length c2]) ∧
      Sl w' .u64 A1 c1 (lim9 (a / b)) ∧ Sl w' .u64 A2 c2 (lim9 (a % b)) ∧ Below w.heap.size w w' := by
  have hb0 : 0 < b := by
    rcases Nat.eq_zero_or_pos b with h | h
    · subst h; simp [lim9, lim_zero] at hlb
    · exact h
  have hle : (lim9 b).length ≤ (lim9 a).length := lim_len_mono 1000000000 (by omega) b a hge
  obtain ⟨r0, hr0⟩ : ∃ r, cmpN a b = r := ⟨_, rfl⟩
  have hr1 : 0 ≤ r0 := by rw [← hr0]; unfold cmpN; rw [if_neg (by omega)]; split <;> omega
  have ho := fun W hW => order_any A A' c c' a b W (ha.below hW) (hb.below hW) (by omega) (by omega)
  rw [hr0] at ho
  obtain ⟨t, ht⟩ : ∃ t, b / 1000000000 ^ ((lim9 b).length - 1) = t := ⟨_, rfl⟩
  have htv := top_val b hb0
  have htd := ((lim9_digs b).at_ (by omega) ((lim9 b).length - 1))
  have htp := lim_last 1000000000 (by omega) b hb0
  rw [show lim 1000000000 b = lim9 b from rfl] at htp
  rw [htv, ht] at htd htp
  rw [ht] at htv
  clear ht
  have ht0 : 0 < t := by omega
  have ht1 : t < 1000000000 := by omega
  obtain ⟨f, hf⟩ : ∃ f, 1000000000 / (t + 1) = f := ⟨_, rfl⟩
  have hf0 : 0 < f := by rw [← hf]; exact Nat.div_pos (by omega) (by omega)
  have hf1 : f < 1000000000 := by rw [← hf]; exact Nat.div_lt_self (by omega) (by omega)
  have eF : (1000000000 : Int) / ((t : Int) + 1) = (f : Int) := by rw [← hf]; simp
  clear hf
  have hs1 := fun W (hW : Below w.heap.size w W) => small_any A c a f W (ha.below hW) (by omega) hf1
  have hs2 := fun W (hW : Below w.heap.size w W) => small_any A' c' b f W (hb.below hW) (by omega) hf1
  obtain ⟨bb, ob, rfl, hbb, hcb⟩ := hb.at_ (by omega)
  have gb : w.cell? ⟨bb, ob + ((lim9 b).length - 1), none⟩ = some (.int .u64 (t : Int)) := by rw [hcb _ (by omega), htv]
  obtain ⟨K, hK⟩ : ∃ K, (lim9 b).length = K + 1 := ⟨(lim9 b).length - 1, by omega⟩
  have eK : ((lim9 b).length : Int) - 1 = (K : Int) := by omega
  have hn1 : (((lim9 b).length : Int) == 1) = false := beq_eq_false_iff_ne.2 (by omega)
  rw [show (lim9 b).length - 1 = K by omega] at gb
  have hKl : K < (lim9 b).length := by omega
  have HO := Lib.hid ho
  have HS1 := Lib.hid hs1
  have HS2 := Lib.hid hs2
  have HK := Lib.hid hK
  clear hs1 hs2 ho hcb htv htd htp hK hr0
  go_enter Tryd.func47, Tryd.ntmps47
  go_upto_region 13 with (go_at_call 49; refine (HO.out _ (((Below.refl _ _).alloc (Nat.le_refl _) _).alloc (by simp) _)).mono ?_; rintro e w' ⟨rfl, n0, rfl⟩)
  rw [eF]
  obtain ⟨W0, hW0⟩ : ∃ W0, ((w.alloc (Obj.cells #[Value.slice (some { block := bb, off := ob }) (lim9 b).length c'] 54)).alloc (Obj.cells #[Value.slice none 0 0] 54)).drewN n0 = W0 := ⟨_, rfl⟩
  rw [hW0]
  have q0 : W0.heap[w.heap.size + 1]? = some (.cells #[.slice none 0 0] 54 (0, 0)) := by
    rw [← hW0]
    have := heap_alloc_new (w.alloc (Obj.cells #[Value.slice (some { block := bb, off := ob }) (lim9 b).length c'] 54)) (Obj.cells #[Value.slice none 0 0] 54)
    rw [World.size_alloc] at this
    exact this
  have b0 : W0.heap[w.heap.size]? = some (.cells #[.slice (some { block := bb, off := ob }) (lim9 b).length c'] 54 (0, 0)) := by
    rw [← hW0]
    exact heap_more (heap_alloc_new w _) _
  have l0 : Below w.heap.size w W0 := by
    rw [← hW0]
    exact (((Below.refl _ _).alloc (Nat.le_refl _) _).alloc (by simp) _).trans ((Drew.of _ n0).below _)
  have Q0 := Lib.hid q0
  have B0 := Lib.hid b0
  have L0 := Lib.hid l0
  have z0 : w.heap.size + 1 < W0.heap.size := (Array.getElem?_eq_some_iff.1 q0).1
  clear q0 b0 l0 hW0 eF eK gb
  go_cut [0] from 59 to 64 (fun s wc => ∃ A1 c1 A2 c2, s = .slice A1 (lim9 (a * f)).length c1 ∧ Sl wc .u64 A1 c1 (lim9 (a * f)) ∧ Sl wc .u64 A2 c2 (lim9 (b * f)) ∧
    wc.heap[w.heap.size]? = some (.cells #[.slice A2 (lim9 (b * f)).length c2] 54 (0, 0)) ∧ wc.heap[w.heap.size + 1]? = some (.cells #[.slice none 0 0] 54 (0, 0)) ∧ Below w.heap.size w wc)
  case first =>
    have b0 : W0.cell? ⟨w.heap.size, 0, none⟩ = some (.slice (some { block := bb, off := ob }) (lim9 b).length c') := by rw [Lib.cell_of_heap B0.out]; rfl
    have zd : w.heap.size ≤ W0.heap.size := by omega
    go_region_with (first
      | ((with_reducible refine (HS1.out _ ?_).mono ?_); (first | exact L0.out | exact L0.out.drew); rintro e w1 ⟨A1, c1, rfl, h1, h2⟩; have g1 := (h2.cell (p := ⟨w.heap.size, 0, none⟩) (show w.heap.size < W0.heap.size from Nat.lt_of_succ_lt z0)).trans b0; have H1 := Lib.hid h1; have H2 := Lib.hid h2; clear h1 h2)
      | ((with_reducible refine (HS2.out _ ?_).mono ?_); (first | exact L0.out.trans (H2.out.mono zd) | exact L0.out.drew.trans (H2.out.mono zd)); rintro e w2 ⟨A2, c2, rfl, h3, h4⟩; have g2 := (h4.cell (p := ⟨w.heap.size, 0, none⟩) (Nat.lt_of_lt_of_le (show w.heap.size < W0.heap.size from Nat.lt_of_succ_lt z0) H2.out.size)).trans g1; have g3 := Lib.frozen_of_heap ((h4.block _ (Nat.lt_of_lt_of_le (show w.heap.size < W0.heap.size from Nat.lt_of_succ_lt z0) H2.out.size)).trans ((H2.out.block _ (show w.heap.size < W0.heap.size from Nat.lt_of_succ_lt z0)).trans B0.out)) 0; have H3 := Lib.hid h3; have H4 := Lib.hid h4; clear h3 h4)
      | fail "arm")
    all_goals
      go_wp2_with fail
      go_meet
      have z1 : w.heap.size + 1 < w1.heap.size := Nat.lt_of_lt_of_le z0 H2.out.size
      have hc2 := (H4.out.block _ (Nat.lt_of_succ_lt z1)).trans ((H2.out.block _ (Nat.lt_of_succ_lt z0)).trans B0.out)
      exact ⟨A1, c1, A2, c2, rfl, (H1.out.below H4.out).put_slice hc2 _, H3.out.put_slice hc2 _, heap_set0 hc2 _, heap_far ((H4.out.block _ z1).trans ((H2.out.block _ z0).trans Q0.out)) (by simp) _, (Below.trans (by first | exact L0.out.trans (H2.out.mono zd) | exact L0.out.drew.trans (H2.out.mono zd)) (H4.out.mono (Nat.le_trans zd H2.out.size))).setCell (by simp) _⟩
  case rest =>
    obtain ⟨A1, c1, A2, c2, rfl, h1, h2, b1, q1, l1⟩ := hcut
    clear HO HS1 HS2 HK Q0 B0 L0 ha hb
    have hla' : (lim9 (a * f)).length ≤ 20001 := by
      have e1 : a < 1000000000 ^ (lim9 a).length := lim_lt_pow 1000000000 (by omega) a
      have e2 : (lim9 (a * f)).length ≤ (lim9 a).length + 1 := by
        refine lim_len_le 1000000000 (by omega) _ _ ?_
        rw [Nat.pow_succ]
        exact Nat.mul_lt_mul_of_lt_of_le e1 (by omega) (by omega)
      omega
    have hbp : 0 < b * f := Nat.mul_pos hb0 hf0
    have hap : b * f ≤ a * f := Nat.mul_le_mul_right _ hge
    have hdv : a * f / (b * f) = a / b := Nat.mul_div_mul_right _ _ hf0
    have hmd : a * f % (b * f) = a % b * f := Nat.mul_mod_mul_right _ _ _
    generalize a * f = a' at *
    generalize b * f = b' at *
    have hle' : (lim9 b').length ≤ (lim9 a').length := lim_len_mono 1000000000 (by omega) b' a' hap
    have hlb' : 0 < (lim9 b').length := by
      rcases Nat.eq_zero_or_pos (lim9 b').length with h | h
      · have := (lim_len_zero 1000000000 (by omega) b').1 h; omega
      · exact h
    obtain ⟨K', hK'⟩ : ∃ K, (lim9 b').length = K + 1 := ⟨(lim9 b').length - 1, by omega⟩
    have htv := top_val b' hbp
    have htd := (lim9_digs b').at_ (by omega) ((lim9 b').length - 1)
    have htp := lim_last 1000000000 (by omega) b' hbp
    rw [show lim 1000000000 b' = lim9 b' from rfl] at htp
    rw [htv, show (lim9 b').length - 1 = K' by omega] at htd htp
    rw [show (lim9 b').length - 1 = K' by omega] at htv
    obtain ⟨t', ht'⟩ : ∃ t, b' / 1000000000 ^ K' = t := ⟨_, rfl⟩
    rw [ht'] at htv htd htp
    have HT' := Lib.hid ht'
    clear ht'
    have hne2 := h2.ne_slice hlb' q1
    obtain ⟨b2, o2, rfl, hb2, hc2⟩ := h2.at_ hlb'
    have hne2 : b2 ≠ w.heap.size + 1 := hne2 _ rfl
    have gt := hc2 K' (by omega)
    rw [htv] at gt
    have eK' : ((lim9 b').length : Int) - 1 = (K' : Int) := by omega
    have cB : wc.cell? ⟨w.heap.size, 0, none⟩ = some (.slice (some ⟨b2, o2, none⟩) (lim9 b').length c2) := by rw [Lib.cell_of_heap b1]; rfl
    have cQ : wc.cell? ⟨w.heap.size + 1, 0, none⟩ = some (.slice none 0 0) := by rw [Lib.cell_of_heap q1]; rfl
    have bsz : w.heap.size + 1 < wc.heap.size := (Array.getElem?_eq_some_iff.1 q1).1
    have bsz0 : w.heap.size < wc.heap.size := by omega
    have fQ := Lib.frozen_of_heap q1 0
    have hmk := run_mkn Elem64 (lim9 a').length (by omega) ((lim9 a').length : Int) rfl
    have hK'l : K' < (lim9 b').length := by omega
    have H1 := Lib.hid h1
    have H2 := Lib.hid h2
    have B1 := Lib.hid b1
    have Q1 := Lib.hid q1
    have L1 := Lib.hid l1
    have HK' := Lib.hid hK'
    have HDV := Lib.hid hdv
    have HMD := Lib.hid hmd
    clear h1 h2 b1 q1 l1 hK' hdv hmd htv hc2
    go_upto_region 17 with fail
    have hla0 : 0 < (lim9 a').length := by omega
    obtain ⟨gq, hgq⟩ : ∃ g, wc.heap.size = g := ⟨_, rfl⟩
    obtain ⟨W1, hW1⟩ : ∃ W1, (wc.setCell { block := w.heap.size + 1, off := 0 } (Value.slice (some { block := wc.heap.size, off := 0 }) (lim9 a').length (lim9 a').length)).alloc (Obj.cells (zrow IntKind.u64 (lim9 a').length) 72) = W1 := ⟨_, rfl⟩
    rw [hW1]
    have hzs : (wc.setCell { block := w.heap.size + 1, off := 0 } (Value.slice (some { block := wc.heap.size, off := 0 }) (lim9 a').length (lim9 a').length)).heap.size = wc.heap.size := by simp [World.setCell]
    have k1 : Sl W1 .u64 A1 c1 (lim9 a') := by
      rw [← hW1]; exact (H1.out.put_slice Q1.out _).below ((Below.refl _ _).alloc (Nat.le_refl _) _)
    have k2 : Sl W1 .u64 (some ⟨b2, o2, none⟩) c2 (lim9 b') := by
      rw [← hW1]; exact (H2.out.put_slice Q1.out _).below ((Below.refl _ _).alloc (Nat.le_refl _) _)
    have k3 : W1.heap[w.heap.size]? = some (.cells #[.slice (some ⟨b2, o2, none⟩) (lim9 b').length c2] 54 (0, 0)) := by
      rw [← hW1]; exact heap_more (heap_far B1.out (by simp) _) _
    have k4 : W1.heap[w.heap.size + 1]? = some (.cells #[.slice (some ⟨gq, 0, none⟩) (lim9 a').length (lim9 a').length] 54 (0, 0)) := by
      rw [← hW1, ← hgq]; exact heap_more (heap_set0 Q1.out _) _
    have k5 : Tab W1 gq 72 .u64 (List.replicate (lim9 a').length 0) := by
      rw [← hW1, ← hgq]
      have := Tab.made (wc.setCell { block := w.heap.size + 1, off := 0 } (Value.slice (some { block := wc.heap.size, off := 0 }) (lim9 a').length (lim9 a').length)) 72 .u64 (lim9 a').length
      rw [hzs] at this
      exact this
    have k6 : Below w.heap.size w W1 := by
      rw [← hW1]; exact (L1.out.setCell (p := ⟨w.heap.size + 1, 0, none⟩) (by simp) _).alloc (by omega) _
    have k7 : ∀ q : Addr, A1 = some q → q.block < gq := fun q hq => by rw [← hgq]; exact H1.out.block_lt hla0 q hq
    have k8 : b2 < gq := by rw [← hgq]; exact hb2
    rw [hgq] at bsz bsz0
    have J1 := Lib.hid k1
    have J2 := Lib.hid k2
    have J3 := Lib.hid k3
    have J4 := Lib.hid k4
    have J5 := Lib.hid k5
    have J6 := Lib.hid k6
    have J7 := Lib.hid k7
    clear k1 k2 k3 k4 k5 k6 k7 hW1 hgq hzs H1 H2 B1 Q1 L1 gt cB cQ fQ hne2 hb2 hmk eK' hn1
    go_loopw [5, 11] (fun rv iv wr => ∃ (m : Nat) (v : Int) (ql : List Int) (r : Nat) (Ar : Option Addr) (cr : Nat), m ≤ (lim9 a').length ∧ v + 1 = (m : Int) ∧ iv = .int .i64 v ∧ rv = .slice Ar (lim9 r).length cr ∧ (Ar = none → cr = 0) ∧
      Sl wr .u64 Ar cr (lim9 r) ∧ Tab wr gq 72 .u64 ql ∧ Below gq W1 wr ∧ DInv (lim9 a') b' m ql r) (fun _ i _ => (intOf i + 1).toNat)
    case atStart =>
      exact ⟨(lim9 a').length, _, _, 0, none, 0, Nat.le_refl _, by omega, rfl, by rw [show lim9 0 = [] from rfl]; rfl, fun _ => rfl, by rw [show lim9 0 = [] from rfl]; exact Sl.nil_, J5.out, Below.refl _ _, dinv_start _ _ hbp⟩
    case round =>
      obtain ⟨m, v, ql, r, Ar, cr, hm, hv, rfl, rfl, hac, hsr, htab, hbel, hinv⟩ := hrel
      have hrb := hinv.2.2.2.1
      have hlr : (lim9 r).length ≤ (lim9 b').length := lim_len_mono 1000000000 (by omega) r b' (Nat.le_of_lt hrb)
      have HSR := Lib.hid hsr
      have HTB := Lib.hid htab
      have HBL := Lib.hid hbel
      have HIN := Lib.hid hinv
      have HAC := Lib.hid hac
      clear hsr htab hinv hac
      cases m with
      | zero =>
        obtain rfl : v = -1 := by omega
        obtain ⟨e1, e2⟩ := dinv_end HIN.out
        rw [HDV.out] at e1
        rw [HMD.out] at e2
        subst e2
        have hql := HIN.out.1
        have hqd := HIN.out.2.1
        have ba1 : Below wr.heap.size wr (wr.alloc (.cells #[.int .u64 (f : Int)] 72)) := (Below.refl _ _).alloc (Nat.le_refl _) _
        have hd := divide_exact Ar (some ⟨wr.heap.size, 0, none⟩) cr 1 (a % b) f (wr.alloc (.cells #[.int .u64 (f : Int)] 72)) (HSR.out.below ba1) (sl_one (by rw [Lib.cell_of_heap (heap_alloc_new wr _)]; rfl) (by simp)) (by omega) hf0 hf1
        have hbw := HBL.out.trans (ba1.mono (Nat.le_of_lt HTB.out.lt))
        have hgw := HTB.out.lt
        have ht := fun W hb => trim_to (some ⟨gq, 0, none⟩) (lim9 a').length (lim9 a').length (a / b) ql W ((HTB.out.slN hql (by omega)).below hb) hql (by omega) hqd e1
        have HD := Lib.hid hd
        have HT := Lib.hid ht
        have HBW := Lib.hid hbw
        have HQL := Lib.hid hql
        have HBA := Lib.hid ba1
        have E1 := Lib.hid e1
        clear hd ht hbw hql e1 hbel ba1
        go_wp2_with (first
          | (go_at_call 47; refine HD.out.mono ?_; rintro e w2 ⟨A3, c3, A4, n4, c4, rfl, h3, h4⟩; have h5 := HBW.out.trans (h4.mono (by simp; omega)); have q2 := (h5.block _ bsz).trans J4.out; have cQ2 : w2.cell? ⟨w.heap.size + 1, 0, none⟩ = some (.slice (some ⟨gq, 0, none⟩) (lim9 a').length (lim9 a').length) := (by rw [Lib.cell_of_heap q2]; rfl); have fQ2 := Lib.frozen_of_heap q2 0; have Q2 := Lib.hid q2; have H3 := Lib.hid h3; have H4 := Lib.hid h4; have H5 := Lib.hid h5; clear q2 h3 h4 h5)
          | (go_at_call 62; refine (HT.out _ (HBA.out.trans (H4.out.mono (by simp)))).mono ?_; rintro e w'' ⟨rfl, rfl⟩))
        have T2 := (HTB.out.below (HBA.out.trans (H4.out.mono (by simp))) HTB.out.lt).slN HQL.out (by omega)
        refine bodyPost_ret (by rw [results_cell_tmp Tryd.results47]; simp [go_sem, cQ2]) rfl ⟨some ⟨gq, 0, none⟩, (lim9 a').length, A3, c3, rfl, ?_, H3.out.put_slice Q2.out _, ?_⟩
        · exact (T2.to9 hqd E1.out).put_far (fun q hq => by injection hq with hq; subst hq; simp; omega) _
        · exact (J6.out.trans (H5.out.mono (by omega))).setCell (by simp) _
      | succ k =>
        obtain rfl : v = (k : Int) := by omega
        have sa := J1.out.belowB HBL.out J7.out
        obtain ⟨ba, oa, rfl, hba, hca⟩ := sa.at_ hla0
        have ga := hca k (by omega)
        have hx0 := (lim9_digs a').at_ (by omega) k
        obtain ⟨x, hx⟩ : ∃ x : Nat, (lim9 a')[k]?.getD 0 = (x : Int) := ⟨((lim9 a')[k]?.getD 0).toNat, by omega⟩
        rw [hx] at ga hx0
        have HX := Lib.hid hx
        have hx9 : x < 1000000000 := by omega
        have hdg : Digs 1000000000 ((x : Int) :: lim9 r) := (lim9_digs r).cons (by omega) (by omega)
        have hvv : valB 1000000000 ((x : Int) :: lim9 r) = ((x + 1000000000 * r : Nat) : Int) := by simp only [valB, lim9_val]; omega
        obtain ⟨r2, hr2⟩ : ∃ r2, x + 1000000000 * r = r2 := ⟨_, rfl⟩
        rw [hr2] at hvv
        have hl2 : (lim9 r2).length ≤ (lim9 r).length + 1 := by
          rw [← trim_eq9 _ r2 hdg hvv]
          exact trimL_len _
        have HR2 := Lib.hid hr2
        have HDG := Lib.hid hdg
        have HVV := Lib.hid hvv
        clear hx hr2 hdg hvv hca sa hbel
        by_cases hlt : r2 < b'
        · have hcm := cmpN_lt hlt
          have ho := fun A' c' W (h1 : Sl W .u64 A' c' (lim9 r2)) (h2 : Below gq W1 W) => order_any A' (some ⟨b2, o2, none⟩) c' c2 r2 b' W h1 (J2.out.belowB h2 (fun q hq => by injection hq with hq; subst hq; exact k8)) (by omega) (by omega)
          rw [hcm] at ho
          have HO := Lib.hid ho
          clear ho hcm
          go_wp2_with (first
            | (at_builtin; refine cons64 rfl (.tmp 85) (.tmp 86) rfl wr (x : Int) (lim9 r) Ar cr rfl rfl HSR.out HAC.out (by omega) ?_; intro A' c' w' hown hb'; have hbw := HBL.out.trans (hb'.mono (Nat.le_of_lt HTB.out.lt)); have cB' : w'.cell? ⟨w.heap.size, 0, none⟩ = some (.slice (some ⟨b2, o2, none⟩) (lim9 b').length c2) := (by rw [Lib.cell_of_heap ((hbw.block _ bsz0).trans J3.out)]; rfl); have HBV := Lib.hid hbw; clear hbw; have HOW := Lib.hid hown; have HBW := Lib.hid hb'; clear hown hb')
            | (go_at_call 62; refine (trim_to _ _ _ r2 ((x : Int) :: lim9 r) _ HOW.out.sl (by simp) (by omega) HDG.out HVV.out).mono ?_; rintro e w'' ⟨rfl, rfl⟩)
            | (go_at_call 49; refine (HO.out _ _ _ (HOW.out.sl.to9 HDG.out HVV.out) HBV.out).mono ?_; rintro e w'' ⟨rfl, n1, rfl⟩))
          go_roundw
          case rel =>
            refine ⟨k, (k : Int) - 1, ql, r2, _, _, by omega, by omega, rfl, rfl, fun e => ?_, HOW.out.sl.to9 HDG.out HVV.out, HTB.out.below (HBW.out.trans ((Drew.of _ n1).below _)) HTB.out.lt, HBV.out.trans ((Drew.of _ n1).below _), ?_⟩
            · rcases HOW.out.form with ⟨_, h, _⟩ | ⟨g, cur, h, _⟩
              · omega
              · rw [h] at e; cases e
            · rw [← HR2.out]
              exact dinv_skip (by omega) HX.out hx9 HIN.out (by rw [HR2.out]; exact hlt)
          case measure => simp [intOf]
        · have hge2 : b' ≤ r2 := by omega
          obtain ⟨r3, hr3⟩ : ∃ z, cmpN r2 b' = z := ⟨_, rfl⟩
          have hr30 : 0 ≤ r3 := by rw [← hr3]; unfold cmpN; rw [if_neg (by omega)]; split <;> omega
          have hlt2 := (dinv_next (by omega) HX.out hx9 HIN.out).1
          rw [HR2.out] at hlt2
          have hlc := len_cases r2 b' hge2 hlt2
          have ho := fun A' c' W (h1 : Sl W .u64 A' c' (lim9 r2)) (h2 : Below gq W1 W) => order_any A' (some ⟨b2, o2, none⟩) c' c2 r2 b' W h1 (J2.out.belowB h2 (fun q hq => by injection hq with hq; subst hq; exact k8)) (by omega) (by omega)
          rw [hr3] at ho
          have HO := Lib.hid ho
          clear ho hr3
          go_upto_region 21 with (first
            | (at_builtin; refine cons64 rfl (.tmp 85) (.tmp 86) rfl wr (x : Int) (lim9 r) Ar cr rfl rfl HSR.out HAC.out (by omega) ?_; intro A' c' w' hown hb'; have hbw := HBL.out.trans (hb'.mono (Nat.le_of_lt HTB.out.lt)); have cB' : w'.cell? ⟨w.heap.size, 0, none⟩ = some (.slice (some ⟨b2, o2, none⟩) (lim9 b').length c2) := (by rw [Lib.cell_of_heap ((hbw.block _ bsz0).trans J3.out)]; rfl); have HBV := Lib.hid hbw; clear hbw; have HOW := Lib.hid hown; have HBW := Lib.hid hb'; clear hown hb')
            | (go_at_call 62; refine (trim_to _ _ _ r2 ((x : Int) :: lim9 r) _ HOW.out.sl (by simp) (by omega) HDG.out HVV.out).mono ?_; rintro e w'' ⟨rfl, rfl⟩)
            | (go_at_call 49; refine (HO.out _ _ _ (HOW.out.sl.to9 HDG.out HVV.out) HBV.out).mono ?_; rintro e w'' ⟨rfl, n1, rfl⟩))
          obtain ⟨W2, hW2⟩ : ∃ W2, w'.drewN n1 = W2 := ⟨_, rfl⟩
          rw [hW2]
          have sR : Sl W2 .u64 A' c' (lim9 r2) := by rw [← hW2]; exact (HOW.out.sl.to9 HDG.out HVV.out).drewN n1
          have lR : ∀ q : Addr, A' = some q → wr.heap.size ≤ q.block := fun q hq => by
            rcases HOW.out.form with ⟨h, _, _⟩ | ⟨g, cur, h, hg, _⟩
            · rw [h] at hq; cases hq
            · rw [h] at hq; injection hq with hq; subst hq; exact hg
          have bW : Below gq W1 W2 := by rw [← hW2]; exact HBV.out.trans ((Drew.of _ n1).below _)
          have tW : Tab W2 gq 72 .u64 ql := by rw [← hW2]; exact HTB.out.below (HBW.out.trans ((Drew.of _ n1).below _)) HTB.out.lt
          have sB : Sl W2 .u64 (some ⟨b2, o2, none⟩) c2 (lim9 b') := J2.out.belowB bW (fun q hq => by injection hq with hq; subst hq; exact k8)
          have q2 := (bW.block _ bsz).trans J4.out
          have p2 := (bW.block _ bsz0).trans J3.out
          have cB2 : W2.cell? ⟨w.heap.size, 0, none⟩ = some (.slice (some ⟨b2, o2, none⟩) (lim9 b').length c2) := by rw [Lib.cell_of_heap p2]; rfl
          have hr2p : 0 < r2 := by omega
          have hlr2 : (lim9 b').length ≤ (lim9 r2).length := by omega
          obtain ⟨br, or_, rfl, hbr, hcr⟩ := sR.at_ (by omega)
          obtain ⟨KR, hKR⟩ : ∃ K, (lim9 r2).length = K + 1 := ⟨(lim9 r2).length - 1, by omega⟩
          have eKR : ((lim9 r2).length : Int) - 1 = (KR : Int) := by omega
          have htR := top_val r2 hr2p
          obtain ⟨tp, htp2⟩ : ∃ z, r2 / 1000000000 ^ ((lim9 r2).length - 1) = z := ⟨_, rfl⟩
          rw [htp2] at htR
          have g1 := hcr ((lim9 r2).length - 1) (by omega)
          rw [htR, show (lim9 r2).length - 1 = KR by omega] at g1
          have htq := (lim9_digs r2).at_ (by omega) ((lim9 r2).length - 1)
          rw [htR] at htq
          have htq0 := htq.1
          have htq1 := htq.2
          have hKRl : KR < (lim9 r2).length := by omega
          have SR := Lib.hid sR
          have LR := Lib.hid lR
          have BW := Lib.hid bW
          have TW := Lib.hid tW
          have SB := Lib.hid sB
          have Q2 := Lib.hid q2
          have HLC := Lib.hid hlc
          have HKR := Lib.hid hKR
          have HCR := Lib.hid hcr
          have HTP := Lib.hid htp2
          have HTR := Lib.hid htR
          clear sR lR bW tW sB q2 p2 hlc hKR hcr htp2 htR htq HOW HBW HBV HO cB' hW2 hv hlt ga hx0 hba
          have HLT := Lib.hid hlt2
          clear hlt2
          obtain ⟨D0, hD0⟩ : ∃ z, r2 / 1000000000 ^ K' = z := ⟨_, rfl⟩
          have HD0 := Lib.hid hD0
          clear hD0
          obtain ⟨dd, hdd⟩ : ∃ z, min (D0 / t') 999999999 = z := ⟨_, rfl⟩
          obtain ⟨hd1, hd2⟩ := tried r2 b' (1000000000 ^ K') D0 t' HD0.out HT'.out (by omega) HLT.out
          rw [hdd] at hd1 hd2
          have hif : min ((D0 : Int) / (t' : Int)) 999999999 = (dd : Int) := by
            rw [← hdd]
            omega
          have hq0 : 0 ≤ (D0 : Int) / (t' : Int) := by omega
          have hlb'2 : ∀ d : Nat, d < 1000000000 → (lim9 (b' * d)).length ≤ (lim9 b').length + 1 := fun d hd => by
            refine lim_len_le 1000000000 (by omega) _ _ ?_
            rw [Nat.pow_succ]
            exact Nat.lt_of_lt_of_le (Nat.mul_lt_mul_of_pos_left hd hbp) (Nat.mul_le_mul_right _ (Nat.le_of_lt (lim_lt_pow 1000000000 (by omega) b')))
          have HLB := Lib.hid hlb'2
          have hs := small_any (some ⟨b2, o2, none⟩) c2 b' dd W2 SB.out (by omega) hd2
          have HSM := Lib.hid hs
          clear hdd hlb'2 hs HSR HBL HTB LR
          rcases HLC.out with hA | hB
          · have hlA : decide ((lim9 b').length < (lim9 r2).length) = false := by simp; omega
            have hx : D0 = tp := by rw [← HTP.out, hA, HK'.out, Nat.add_sub_cancel, HD0.out]
            subst hx
            have hDb : (D0 : Int) < 1000000000000000000 := by omega
            clear hA hlr2
            have hq1 : (D0 : Int) / (t' : Int) < 1000000000000000000 := Int.lt_of_le_of_lt (Int.ediv_le_self _ (by omega)) hDb
            go_upto_region 24 with fail
            go_wp2_with (go_at_call 75; refine HSM.out.mono ?_; rintro e w3 ⟨Ap, cp, rfl, h3, h4⟩; have H3 := Lib.hid h3; have H4 := Lib.hid h4; clear h3 h4)
            clear hlA
            clear hif hq0 hq1 hDb
            go_loopw [12, 13] (fun dv pv wx => ∃ (d : Nat) (Ap : Option Addr) (cp : Nat), dv = .int .u64 d ∧ r2 / b' ≤ d ∧ d < 1000000000 ∧ pv = .slice Ap (lim9 (b' * d)).length cp ∧ Sl wx .u64 Ap cp (lim9 (b' * d)) ∧ Below W2.heap.size W2 wx) (fun dv _ _ => (intOf dv).toNat)
            case atStart => exact ⟨dd, Ap, cp, rfl, hd1, hd2, rfl, H3.out, H4.out⟩
            case round =>
              clear H3 H4 hd1 hd2
              obtain ⟨d, Ap, cp, rfl, hd1, hd2, rfl, hsp, hbx⟩ := hrel
              have hlp := HLB.out d hd2
              have hrx := SR.out.below hbx
              have hbb2 := SB.out.below hbx
              have cB3 := (hbx.cell (p := ⟨w.heap.size, 0, none⟩) (show w.heap.size < W2.heap.size by have := TW.out.lt; omega)).trans cB2
              have hsz := hbx.size
              by_cases hgt : r2 < b' * d
              · have ho := order_any Ap (some ⟨br, or_, none⟩) cp c' (b' * d) r2 wr hsp hrx (by omega) (by omega)
                rw [cmpN_gt hgt] at ho
                have hdp : 0 < d := by
                  rcases Nat.eq_zero_or_pos d with h | h
                  · subst h; omega
                  · exact h
                have hbd : b' ≤ b' * d := Nat.le_mul_of_pos_right _ hdp
                have hm1 := fun n => minus_any Ap (some ⟨b2, o2, none⟩) cp c2 (b' * d) b' (wr.drewN n) hsp hbb2 (by omega) hbd
                rw [show b' * d - b' = b' * (d - 1) by rw [Nat.mul_sub_one]] at hm1
                have hle1 : r2 / b' ≤ d - 1 := by
                  have := Nat.div_lt_of_lt_mul hgt
                  omega
                have HO := Lib.hid ho
                have HM1 := Lib.hid hm1
                have HSP := Lib.hid hsp
                have HBX := Lib.hid hbx
                clear ho hm1 hsp hbx hrx hbb2 hgt hbd
                go_wp2_with (first
                  | (go_at_call 49; refine HO.out.mono ?_; rintro e w'' ⟨rfl, n2, rfl⟩)
                  | (go_at_call 50; refine (HM1.out _).mono ?_; rintro e w'' ⟨A5, c5, rfl, h5, h6⟩; have H5 := Lib.hid h5; have H6 := Lib.hid h6; clear h5 h6))
                go_roundw
                case rel => exact ⟨d - 1, A5, c5, int_u64 (by omega), hle1, by omega, rfl, H5.out, HBX.out.trans (((Drew.of _ _).below _).trans (H6.out.mono (by simpa using hsz)))⟩
                case measure => simp [intOf]; omega
              · obtain ⟨r4, hr4⟩ : ∃ z, cmpN (b' * d) r2 = z := ⟨_, rfl⟩
                have hr5 : decide (0 < r4) = false := by
                  rw [decide_eq_false_iff_not, Int.not_lt, ← hr4]
                  unfold cmpN
                  by_cases hx : b' * d < r2
                  · rw [if_pos hx]; omega
                  · rw [if_neg hx, if_neg hgt]; omega
                have ho := order_any Ap (some ⟨br, or_, none⟩) cp c' (b' * d) r2 wr hsp hrx (by omega) (by omega)
                rw [hr4] at ho
                have hde : r2 / b' = d := by
                  have h1 : d ≤ r2 / b' := by rw [Nat.le_div_iff_mul_le hbp, Nat.mul_comm]; omega
                  omega
                have hmd2 : r2 - b' * d = r2 % b' := by rw [Nat.mod_eq_sub, hde]
                have hm1 := fun W (hW : Below wr.heap.size wr W) => minus_own (some ⟨br, or_, none⟩) Ap c' cp r2 (b' * d) W (hrx.below hW) (hsp.below hW) (by omega) (by omega)
                rw [hmd2] at hm1
                have hbq : gq < wr.heap.size := by have := TW.out.lt; omega
                have tX : Tab wr gq 72 .u64 ql := TW.out.below hbx TW.out.lt
                have bX : Below gq W1 wr := BW.out.trans (hbx.mono (Nat.le_of_lt TW.out.lt))
                have HO := Lib.hid ho
                have HM1 := Lib.hid hm1
                have HDE := Lib.hid hde
                have TX := Lib.hid tX
                have BX := Lib.hid bX
                clear ho hm1 hsp hbx hrx hbb2 hgt hde hmd2 hr4 tX bX
                go_upto_region 29 with (go_at_call 49; refine HO.out.mono ?_; rintro e w'' ⟨rfl, n2, rfl⟩)
                obtain ⟨W6, hW6⟩ : ∃ W6, wr.drewN n2 = W6 := ⟨_, rfl⟩
                rw [hW6]
                have l6 : Below wr.heap.size wr W6 := by rw [← hW6]; exact (Drew.of _ n2).below _
                have z6 : W6.heap.size = wr.heap.size := by rw [← hW6]; rfl
                have t6 : Tab W6 gq 72 .u64 ql := TX.out.below l6 hbq
                have b6 : Below gq W1 W6 := BX.out.trans (l6.mono (Nat.le_of_lt hbq))
                have q6 := (b6.block _ bsz).trans J4.out
                have cQ6 : W6.cell? ⟨w.heap.size + 1, 0, none⟩ = some (.slice (some ⟨gq, 0, none⟩) (lim9 a').length (lim9 a').length) := by rw [Lib.cell_of_heap q6]; rfl
                have hgq6 : gq < W6.heap.size := by omega
                have hbs6 : w.heap.size + 1 < W6.heap.size := by omega
                have hkl : k < ql.length := by rw [HIN.out.1]; omega
                have L6 := Lib.hid l6
                have T6 := Lib.hid t6
                have B6 := Lib.hid b6
                have hka : k < (lim9 a').length := by omega
                clear l6 t6 b6 q6 hW6 z6 HO
                go_region_with (first
                  | ((with_reducible refine (HM1.out _ ?_).mono ?_); (first | exact L6.out | exact L6.out.drew); rintro e w5 ⟨A5, c5, rfl, h5, hb5, ho5, hn5⟩; have cQ5 := (hb5.cell (p := ⟨w.heap.size + 1, 0, none⟩) hbs6).trans (show W6.drew.cell? ⟨w.heap.size + 1, 0, none⟩ = _ from cQ6); have t5 := (T6.out.drewN 1 : Tab W6.drew gq 72 .u64 ql).below hb5 hgq6; have g5 := t5.cell k hkl; have f5 := t5.frozen k; have b5 := B6.out.drew.trans (hb5.mono (Nat.le_of_lt hgq6)); have H5 := Lib.hid h5; have T5 := Lib.hid t5; have HB5 := Lib.hid b5; have HO5 := Lib.hid ho5; have HN5 := Lib.hid hn5; clear h5 t5 b5 ho5 hn5 hb5)
                  | fail "arm")
                all_goals simp only [Act.put, List.getElem_toArray, List.getElem_cons_succ, List.getElem_cons_zero, List.setIfInBounds_toArray, List.set_cons_succ, List.set_cons_zero]
                all_goals
                  go_wp2
                  go_roundw
                  case rel =>
                    refine ⟨k, (k : Int) - 1, ql.set k (d : Int), r2 % b', A5, c5, by omega, by omega, rfl, rfl, HN5.out, H5.out.put_far (fun q hq => ?_) _, T5.out.set _ _, HB5.out.setCell (Nat.le_refl _) _, ?_⟩
                    · have h1 := HO5.out q hq
                      have h2 : W6.drew.heap.size = W6.heap.size := rfl
                      show q.block ≠ gq
                      omega
                    · have h1 := (dinv_next (by omega) HX.out hx9 HIN.out).2
                      rw [HR2.out, HDE.out] at h1
                      exact h1
                  case measure => simp [intOf]
          · have hlB : (lim9 b').length < (lim9 r2).length := by omega
            have e2 : ((lim9 r2).length : Int) - 2 = (K' : Int) := by have := HK'.out; omega
            have g2 := HCR.out K' (by omega)
            have hK2 : (lim9 r2).length - 2 = K' := by have := HK'.out; omega
            have htw := top_val2 r2 (by omega)
            rw [HTR.out, hK2, HD0.out] at htw
            have hK'l2 : K' < (lim9 r2).length := by omega
            have hz := (lim9_digs r2).at_ (by omega) K'
            generalize (lim9 r2)[K']?.getD 0 = z at *
            have hz0 := hz.1
            have hz1 := hz.2
            have hDb : (D0 : Int) < 1000000000000000000 := by omega
            clear hB hz hK2 hlr2
            have hq1 : (D0 : Int) / (t' : Int) < 1000000000000000000 := Int.lt_of_le_of_lt (Int.ediv_le_self _ (by omega)) hDb
            go_upto_region 24 with fail
            go_wp2_with (go_at_call 75; refine HSM.out.mono ?_; rintro e w3 ⟨Ap, cp, rfl, h3, h4⟩; have H3 := Lib.hid h3; have H4 := Lib.hid h4; clear h3 h4)
            clear hlB e2 g2 htw hK'l2 hz0 hz1
            clear hif hq0 hq1 hDb
            go_loopw [12, 13] (fun dv pv wx => ∃ (d : Nat) (Ap : Option Addr) (cp : Nat), dv = .int .u64 d ∧ r2 / b' ≤ d ∧ d < 1000000000 ∧ pv = .slice Ap (lim9 (b' * d)).length cp ∧ Sl wx .u64 Ap cp (lim9 (b' * d)) ∧ Below W2.heap.size W2 wx) (fun dv _ _ => (intOf dv).toNat)
            case atStart => exact ⟨dd, Ap, cp, rfl, hd1, hd2, rfl, H3.out, H4.out⟩
            case round =>
              clear H3 H4 hd1 hd2
              obtain ⟨d, Ap, cp, rfl, hd1, hd2, rfl, hsp, hbx⟩ := hrel
              have hlp := HLB.out d hd2
              have hrx := SR.out.below hbx
              have hbb2 := SB.out.below hbx
              have cB3 := (hbx.cell (p := ⟨w.heap.size, 0, none⟩) (show w.heap.size < W2.heap.size by have := TW.out.lt; omega)).trans cB2
              have hsz := hbx.size
              by_cases hgt : r2 < b' * d
              · have ho := order_any Ap (some ⟨br, or_, none⟩) cp c' (b' * d) r2 wr hsp hrx (by omega) (by omega)
                rw [cmpN_gt hgt] at ho
                have hdp : 0 < d := by
                  rcases Nat.eq_zero_or_pos d with h | h
                  · subst h; omega
                  · exact h
                have hbd : b' ≤ b' * d := Nat.le_mul_of_pos_right _ hdp
                have hm1 := fun n => minus_any Ap (some ⟨b2, o2, none⟩) cp c2 (b' * d) b' (wr.drewN n) hsp hbb2 (by omega) hbd
                rw [show b' * d - b' = b' * (d - 1) by rw [Nat.mul_sub_one]] at hm1
                have hle1 : r2 / b' ≤ d - 1 := by
                  have := Nat.div_lt_of_lt_mul hgt
                  omega
                have HO := Lib.hid ho
                have HM1 := Lib.hid hm1
                have HSP := Lib.hid hsp
                have HBX := Lib.hid hbx
                clear ho hm1 hsp hbx hrx hbb2 hgt hbd
                go_wp2_with (first
                  | (go_at_call 49; refine HO.out.mono ?_; rintro e w'' ⟨rfl, n2, rfl⟩)
                  | (go_at_call 50; refine (HM1.out _).mono ?_; rintro e w'' ⟨A5, c5, rfl, h5, h6⟩; have H5 := Lib.hid h5; have H6 := Lib.hid h6; clear h5 h6))
                go_roundw
                case rel => exact ⟨d - 1, A5, c5, int_u64 (by omega), hle1, by omega, rfl, H5.out, HBX.out.trans (((Drew.of _ _).below _).trans (H6.out.mono (by simpa using hsz)))⟩
                case measure => simp [intOf]; omega
              · obtain ⟨r4, hr4⟩ : ∃ z, cmpN (b' * d) r2 = z := ⟨_, rfl⟩
                have hr5 : decide (0 < r4) = false := by
                  rw [decide_eq_false_iff_not, Int.not_lt, ← hr4]
                  unfold cmpN
                  by_cases hx : b' * d < r2
                  · rw [if_pos hx]; omega
                  · rw [if_neg hx, if_neg hgt]; omega
                have ho := order_any Ap (some ⟨br, or_, none⟩) cp c' (b' * d) r2 wr hsp hrx (by omega) (by omega)
                rw [hr4] at ho
                have hde : r2 / b' = d := by
                  have h1 : d ≤ r2 / b' := by rw [Nat.le_div_iff_mul_le hbp, Nat.mul_comm]; omega
                  omega
                have hmd2 : r2 - b' * d = r2 % b' := by rw [Nat.mod_eq_sub, hde]
                have hm1 := fun W (hW : Below wr.heap.size wr W) => minus_own (some ⟨br, or_, none⟩) Ap c' cp r2 (b' * d) W (hrx.below hW) (hsp.below hW) (by omega) (by omega)
                rw [hmd2] at hm1
                have hbq : gq < wr.heap.size := by have := TW.out.lt; omega
                have tX : Tab wr gq 72 .u64 ql := TW.out.below hbx TW.out.lt
                have bX : Below gq W1 wr := BW.out.trans (hbx.mono (Nat.le_of_lt TW.out.lt))
                have HO := Lib.hid ho
                have HM1 := Lib.hid hm1
                have HDE := Lib.hid hde
                have TX := Lib.hid tX
                have BX := Lib.hid bX
                clear ho hm1 hsp hbx hrx hbb2 hgt hde hmd2 hr4 tX bX
                go_upto_region 29 with (go_at_call 49; refine HO.out.mono ?_; rintro e w'' ⟨rfl, n2, rfl⟩)
                obtain ⟨W6, hW6⟩ : ∃ W6, wr.drewN n2 = W6 := ⟨_, rfl⟩
                rw [hW6]
                have l6 : Below wr.heap.size wr W6 := by rw [← hW6]; exact (Drew.of _ n2).below _
                have z6 : W6.heap.size = wr.heap.size := by rw [← hW6]; rfl
                have t6 : Tab W6 gq 72 .u64 ql := TX.out.below l6 hbq
                have b6 : Below gq W1 W6 := BX.out.trans (l6.mono (Nat.le_of_lt hbq))
                have q6 := (b6.block _ bsz).trans J4.out
                have cQ6 : W6.cell? ⟨w.heap.size + 1, 0, none⟩ = some (.slice (some ⟨gq, 0, none⟩) (lim9 a').length (lim9 a').length) := by rw [Lib.cell_of_heap q6]; rfl
                have hgq6 : gq < W6.heap.size := by omega
                have hbs6 : w.heap.size + 1 < W6.heap.size := by omega
                have hkl : k < ql.length := by rw [HIN.out.1]; omega
                have L6 := Lib.hid l6
                have T6 := Lib.hid t6
                have B6 := Lib.hid b6
                have hka : k < (lim9 a').length := by omega
                clear l6 t6 b6 q6 hW6 z6 HO
                go_region_with (first
                  | ((with_reducible refine (HM1.out _ ?_).mono ?_); (first | exact L6.out | exact L6.out.drew); rintro e w5 ⟨A5, c5, rfl, h5, hb5, ho5, hn5⟩; have cQ5 := (hb5.cell (p := ⟨w.heap.size + 1, 0, none⟩) hbs6).trans (show W6.drew.cell? ⟨w.heap.size + 1, 0, none⟩ = _ from cQ6); have t5 := (T6.out.drewN 1 : Tab W6.drew gq 72 .u64 ql).below hb5 hgq6; have g5 := t5.cell k hkl; have f5 := t5.frozen k; have b5 := B6.out.drew.trans (hb5.mono (Nat.le_of_lt hgq6)); have H5 := Lib.hid h5; have T5 := Lib.hid t5; have HB5 := Lib.hid b5; have HO5 := Lib.hid ho5; have HN5 := Lib.hid hn5; clear h5 t5 b5 ho5 hn5 hb5)
                  | fail "arm")
                all_goals simp only [Act.put, List.getElem_toArray, List.getElem_cons_succ, List.getElem_cons_zero, List.setIfInBounds_toArray, List.set_cons_succ, List.set_cons_zero]
                all_goals
                  go_wp2
                  go_roundw
                  case rel =>
                    refine ⟨k, (k : Int) - 1, ql.set k (d : Int), r2 % b', A5, c5, by omega, by omega, rfl, rfl, HN5.out, H5.out.put_far (fun q hq => ?_) _, T5.out.set _ _, HB5.out.setCell (Nat.le_refl _) _, ?_⟩
                    · have h1 := HO5.out q hq
                      have h2 : W6.drew.heap.size = W6.heap.size := rfl
                      show q.block ≠ gq
                      omega
                    · have h1 := (dinv_next (by omega) HX.out hx9 HIN.out).2
                      rw [HR2.out, HDE.out] at h1
                      exact h1
                  case measure => simp [intOf]
end Go.Proofs.YtmkeigfckfkifaaDoor
