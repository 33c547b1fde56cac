/- The statement 'q[i], rest = rest/b[0], rest%b[0]' of integer.divide, whatever its order: by an invariant over what has come up. -/
import Derived.Test.YtmkeigfckfkifaaDoorRound
import Derived.Test.YtmkeigfckfkifaaDoorTrim
namespace Go.Proofs.YtmkeigfckfkifaaDoor
open Go.RowKit

section
variable {P : Program} {ops : Array Oper} {Q : Exit → Act → World → Prop} {md : Region.Mode}

def lacks (listed : Array Bool) : Nat := (listed.toList.filter (fun b => !b)).length

theorem wpAny_inv (I : Array Bool → Act → World → Prop) (hs : ∀ listed a w, I listed a w → listed.size = ops.size)
    (hstep : ∀ listed a w, I listed a w → ∀ i ∈ Region.ready md ops listed, wpOp P ops Q i (I (listed.setIfInBounds i true)) a w)
    (hdone : ∀ listed a w, I listed a w → Region.ready md ops listed = [] → Q .normal a w) :
    ∀ (fuel : Nat) (listed : Array Bool) (a : Act) (w : World), I listed a w → lacks listed ≤ fuel → wpAny P md ops Q fuel listed a w := by
  intro fuel
  induction fuel with
  | zero =>
    intro listed a w h hf
    have hr : Region.ready md ops listed = [] := by
      cases hrd : Region.ready md ops listed with
      | nil => rfl
      | cons i l =>
        exfalso
        have hi : i ∈ Region.ready md ops listed := by rw [hrd]; simp
        obtain ⟨h0, oi, hoi, _⟩ := mem_ready.1 hi
        have hlt : i < listed.size := by rw [hs _ _ _ h]; exact (Array.getElem?_eq_some_iff.1 hoi).1
        have hm : listed[i] ∈ listed.toList.filter (fun b => !b) := by
          rw [List.mem_filter]
          refine ⟨Array.getElem_mem_toList hlt, ?_⟩
          simp [hlt] at h0
          simp [h0]
        have := List.length_pos_of_mem hm
        unfold lacks at hf
        omega
    exact ⟨hr, hdone _ _ _ h hr⟩
  | succ fuel ih =>
    intro listed a w h hf
    refine ⟨hdone _ _ _ h, fun i hi => ?_⟩
    obtain ⟨h0, oi, hoi, _⟩ := mem_ready.1 hi
    have hlt : i < listed.size := by rw [hs _ _ _ h]; exact (Array.getElem?_eq_some_iff.1 hoi).1
    refine wpOp_mono (fun a' w' h' => ih _ a' w' h' ?_) (hstep _ _ _ h i hi)
    have hb : listed[i] = false := by simpa [hlt] using h0
    have hlt' : i < listed.toList.length := by simpa using hlt
    have e1 : listed.toList = listed.toList.take i ++ false :: listed.toList.drop (i + 1) := by
      conv => lhs; rw [← List.take_append_drop i listed.toList]
      rw [List.drop_eq_getElem_cons hlt']
      congr 2
    have e2 : (listed.setIfInBounds i true).toList = listed.toList.take i ++ true :: listed.toList.drop (i + 1) := by
      rw [Array.toList_setIfInBounds, List.set_eq_take_append_cons_drop, if_pos hlt']
    unfold lacks at *
    rw [e2]
    rw [e1] at hf
    simp only [List.filter_append, List.length_append] at *
    simp at hf ⊢
    omega
end

/-- The region's operations: slot written, what it does. -/
def twoShape : List (Option Tmp × Op) :=
  [(some 33, .load 54 (.tmp 4)), (some 34, .move (.tmp 7)), (some 35, .load 72 (.tmp 6)), (some 36, .load 54 (.tmp 3)), (some 37, .indexAddr 54 (.tmp 36) (.const (.int .i64 0))), (some 38, .load 72 (.tmp 37)),
   (some 39, .binOp .quo 72 (.tmp 35) (.tmp 38) 72), (some 40, .load 72 (.tmp 6)), (some 41, .load 54 (.tmp 3)), (some 42, .indexAddr 54 (.tmp 41) (.const (.int .i64 0))), (some 43, .load 72 (.tmp 42)),
   (some 44, .binOp .rem 72 (.tmp 40) (.tmp 43) 72), (some 45, .indexAddr 54 (.tmp 33) (.tmp 34)), (none, .store 72 (.tmp 45) (.tmp 39)), (none, .store 72 (.tmp 6) (.tmp 44))]

/-- What each operation waits for. -/
def twoWaits (i : Nat) : List Nat :=
  match i with
  | 4 => [3]
  | 5 => [4]
  | 6 => [2, 5]
  | 9 => [8]
  | 10 => [9]
  | 11 => [7, 10]
  | 12 => [0, 1]
  | 13 => [0, 1, 2, 3, 4, 5, 6, 12]
  | 14 => [0, 1, 2, 3, 4, 5, 6, 7, 8, 9, 10, 11, 12, 13]
  | _ => []

def twoOk (ops : Array Oper) : Bool :=
  decide (ops.size = 15) && (ops.toList.all fun o => o.guard == none) && ((List.range 15).all fun i => (twoWaits i).all fun d => Region.waitsFor .any ops i d) && (List.range 15).all fun i => match ops[i]? with
    | some o => o.after.all fun e => decide (e.on < i)
    | none => false

/-- The values that come into the slots 33 .. 45. -/
def twoVals (q bb c' : Nat) (ob L j : Nat) (rr b : Int) : List Value :=
  [.slice (some ⟨q, 0, none⟩) L L, .int .i64 (j : Int), .int .u64 rr, .slice (some ⟨bb, ob, none⟩) 1 c', .pointer (some ⟨bb, ob, none⟩), .int .u64 b,
   .int .u64 (rr / b), .int .u64 rr, .slice (some ⟨bb, ob, none⟩) 1 c', .pointer (some ⟨bb, ob, none⟩), .int .u64 b, .int .u64 (rr % b), .pointer (some ⟨q, j, none⟩)]

structure TwoI (ops : Array Oper) (W0 : World) (T : Array Value) (V : List Value) (q r j : Nat) (x y : Int) (listed : Array Bool) (a : Act) (w : World) : Prop where
  size : listed.size = 15
  w0 : listed.getD 13 false = false → w = W0
  w1 : listed.getD 13 false = true → listed.getD 14 false = false → w = W0.setCell ⟨q, j, none⟩ (.int .u64 x)
  w2 : listed.getD 14 false = true → w = (W0.setCell ⟨q, j, none⟩ (.int .u64 x)).setCell ⟨r, 0, none⟩ (.int .u64 y)
  h14 : listed.getD 14 false = true → ∀ i, i < 15 → listed.getD i false = true
  h13 : listed.getD 14 false = true → listed.getD 13 false = true
  defs : a.defers = []
  sz : a.tmps.size = T.size
  keep : ∀ s, (s < 33 ∨ 45 < s) → a.tmps.getD s undef = T.getD s undef
  vals : ∀ i, i < 13 → listed.getD i false = true → a.tmps.getD (33 + i) undef = V.getD i undef

theorem getD_set_same' (listed : Array Bool) (i : Nat) (h : i < listed.size) (d : Bool) : (listed.setIfInBounds i true).getD i d = true := by
  simp [h]
theorem getD_set_other' (listed : Array Bool) (i j : Nat) (h : j ≠ i) (d : Bool) : (listed.setIfInBounds i true).getD j d = listed.getD j d := by
  simp [Array.getD_eq_getD_getElem?, Ne.symm h]

section
variable {ops : Array Oper} {W0 : World} {T : Array Value} {V : List Value} {q r j : Nat} {x y : Int} {listed : Array Bool} {a : Act} {w : World}

/-- An operation that only yields a value. -/
theorem TwoI.yield (h : TwoI ops W0 T V q r j x y listed a w) {i : Nat} (hi : i < 13) (h0 : listed.getD i true = false) (hT : 46 ≤ T.size) :
    TwoI ops W0 T V q r j x y (listed.setIfInBounds i true) (a.put (some (33 + i)) (V.getD i undef)) w := by
  have hsz := h.size
  have hl : i < listed.size := by omega
  have g13 := getD_set_other' listed i 13 (by omega) false
  have g14 := getD_set_other' listed i 14 (by omega) false
  refine ⟨by simpa using hsz, by rw [g13]; exact h.w0, by rw [g13, g14]; exact h.w1, by rw [g14]; exact h.w2, ?_, by rw [g13, g14]; exact h.h13, h.defs, ?_, ?_, ?_⟩
  · rw [g14]
    intro h14 k hk
    by_cases e : k = i
    · subst e; exact getD_set_same' _ _ hl _
    · rw [getD_set_other' _ _ _ e]; exact h.h14 h14 k hk
  · simp [Act.put, h.sz]
  · intro s hs
    rw [← h.keep s hs]
    simp only [Act.put, Array.getD_eq_getD_getElem?, Array.getElem?_setIfInBounds]
    rw [if_neg (by omega)]
  · intro k hk hkl
    by_cases e : k = i
    · subst e
      have : 33 + k < a.tmps.size := by rw [h.sz]; omega
      simp [Act.put, Array.getD_eq_getD_getElem?, this]
    · rw [getD_set_other' _ _ _ e] at hkl
      rw [← h.vals k hk hkl]
      simp only [Act.put, Array.getD_eq_getD_getElem?, Array.getElem?_setIfInBounds]
      rw [if_neg (by omega)]
end

theorem wpOp_val {P : Program} {ops : Array Oper} {Q : Exit → Act → World → Prop} {i : Nat} {o : Oper} {K : Act → World → Prop} {a : Act} {w w' : World} {v : Value} (ho : ops[i]? = some o) (hg : o.guard = none)
    (hrun : (execOp a.eval o).run P w = .ok (.value v) w') (hK : K (a.put o.dst v) w') : wpOp P ops Q i K a w := by
  unfold wpOp
  rw [ho]
  simp only
  rw [if_pos (by simp [Region.wanted, hg])]
  left
  unfold Oper.wp
  rw [hrun]
  exact hK

theorem wpOp_skip {P : Program} {ops : Array Oper} {Q : Exit → Act → World → Prop} {i : Nat} {o : Oper} {K : Act → World → Prop} {a : Act} {w w' : World} (ho : ops[i]? = some o) (hg : o.guard = none) (hd : o.dst = none)
    (hrun : (execOp a.eval o).run P w = .ok .skip w') (hK : K a w') : wpOp P ops Q i K a w := by
  unfold wpOp
  rw [ho]
  simp only
  rw [if_pos (by simp [Region.wanted, hg])]
  left
  unfold Oper.wp
  rw [hrun]
  show K (a.put o.dst undef) w'
  rw [hd]
  exact hK

set_option maxHeartbeats 2000000 in
theorem two_region {ops : Array Oper} {Q : Exit → Act → World → Prop} (hshape : ops.toList.map (fun o => (o.dst, o.op)) = twoShape) (hok : twoOk ops = true) (T : Array Value) (W0 : World) (pb pq q r bb ob c' L j : Nat) (rr b : Int) (old : Value)
    (hT : 46 ≤ T.size) (t3 : T.getD 3 undef = .pointer (some ⟨pb, 0, none⟩)) (t4 : T.getD 4 undef = .pointer (some ⟨pq, 0, none⟩)) (t6 : T.getD 6 undef = .pointer (some ⟨r, 0, none⟩)) (t7 : T.getD 7 undef = .int .i64 (j : Int))
    (cb : W0.cell? ⟨pb, 0, none⟩ = some (.slice (some ⟨bb, ob, none⟩) 1 c')) (cq : W0.cell? ⟨pq, 0, none⟩ = some (.slice (some ⟨q, 0, none⟩) L L)) (cr : W0.cell? ⟨r, 0, none⟩ = some (.int .u64 rr)) (fr : W0.frozen? ⟨r, 0, none⟩ = false)
    (cbb : W0.cell? ⟨bb, ob, none⟩ = some (.int .u64 b)) (cj : W0.cell? ⟨q, j, none⟩ = some old) (fj : W0.frozen? ⟨q, j, none⟩ = false) (hj : j < L) (hb : 0 < b) (hr0 : 0 ≤ rr) (hr1 : rr < 2000000000000000000) (hb1 : b < 1000000000)
    (n1 : q ≠ pb) (n2 : q ≠ pq) (n3 : q ≠ r) (n4 : q ≠ bb)
    (hQ : ∀ a, Q .normal a ((W0.setCell ⟨q, j, none⟩ (.int .u64 (rr / b))).setCell ⟨r, 0, none⟩ (.int .u64 (rr % b)))) :
    wpAny Tryd.prog .any ops Q ops.size (Array.replicate ops.size false) { tmps := T, defers := [] } W0 := by
  simp only [twoOk, Bool.and_eq_true, decide_eq_true_eq] at hok
  obtain ⟨⟨⟨hsz, hg⟩, hwt⟩, hback⟩ := hok
  have hguard : ∀ (i : Nat) (o : Oper), ops[i]? = some o → o.guard = none := fun i o ho => by
    have := List.all_eq_true.1 hg o (by rw [Array.mem_toList_iff]; exact Array.mem_of_getElem? ho)
    simpa using this
  refine wpAny_inv (TwoI ops W0 T (twoVals q bb c' ob L j rr b) q r j (rr / b) (rr % b)) (fun listed a w h => by rw [h.size, hsz]) ?_ ?_ _ _ _ _ ?_ ?_
  · intro listed a w h i hi
    obtain ⟨h0, o, ho, hall⟩ := mem_ready.1 hi
    have hi15 : i < 15 := by rw [← hsz]; exact (Array.getElem?_eq_some_iff.1 ho).1
    have hdep : ∀ d, d ∈ twoWaits i → listed.getD d false = true := by
      intro d hd
      have h1 := List.all_eq_true.1 hwt i (List.mem_range.2 hi15)
      have h2 := List.all_eq_true.1 h1 d hd
      obtain ⟨oj, hoj, e, he, hb, hon⟩ := Region.waitsFor_spec h2
      rw [ho] at hoj
      injection hoj with hoj
      subst hoj
      rw [← hon]
      exact hall e he hb
    have hsh : some (o.dst, o.op) = twoShape[i]? := by
      rw [← hshape, List.getElem?_map, Array.getElem?_toList, ho]
      rfl
    have hn14 : listed.getD 14 false = false := by
      cases e : listed.getD 14 false with
      | false => rfl
      | true =>
        have h1 := h.h14 e i hi15
        have hl : i < listed.size := by rw [h.size]; exact hi15
        simp [hl] at h0 h1
        rw [h0] at h1
        cases h1
    have hc : ∀ (p : Addr) (v : Value), W0.cell? p = some v → p ≠ ⟨q, j, none⟩ → w.cell? p = some v := by
      intro p v hv hp
      cases e : listed.getD 13 false with
      | false => rw [h.w0 e]; exact hv
      | true => rw [h.w1 e hn14, World.cell?_setCell_other _ _ _ _ (Ne.symm hp)]; exact hv
    have e3 : a.eval (.tmp 3) = .pointer (some ⟨pb, 0, none⟩) := (h.keep 3 (by omega)).trans t3
    have e4 : a.eval (.tmp 4) = .pointer (some ⟨pq, 0, none⟩) := (h.keep 4 (by omega)).trans t4
    have e6 : a.eval (.tmp 6) = .pointer (some ⟨r, 0, none⟩) := (h.keep 6 (by omega)).trans t6
    have e7 : a.eval (.tmp 7) = .int .i64 (j : Int) := (h.keep 7 (by omega)).trans t7
    have ev : ∀ k, k < 13 → listed.getD k false = true → a.eval (.tmp (33 + k)) = (twoVals q bb c' ob L j rr b).getD k undef := fun k hk hl => h.vals k hk hl
    have c3 := hc _ _ cb (fun e => n1 (by injection e with e; exact e.symm))
    have c4 := hc _ _ cq (fun e => n2 (by injection e with e; exact e.symm))
    have c6 := hc _ _ cr (fun e => n3 (by injection e with e; exact e.symm))
    have cbb' := hc _ _ cbb (fun e => n4 (by injection e with e; exact e.symm))
    have hgo := hguard i o ho
    have hwq : IntKind.u64.wrap (rr / b) = rr / b := by
      rw [IntKind.wrap_u64]
      have h1 : 0 ≤ rr / b := Int.ediv_nonneg hr0 (by omega)
      have h2 : rr / b ≤ rr := Int.ediv_le_self _ hr0
      omega
    have hsl : i < listed.size := by rw [h.size]; exact hi15
    have hset := getD_set_same' listed i hsl false
    match i, hi15, h0, ho, hdep, hsh with
    | 0, _, h0, ho, hdep, hsh =>
      injection hsh with hsh
      injection hsh with hd hop
      have hrun : (execOp a.eval o).run Tryd.prog w = .ok (.value (.slice (some ⟨q, 0, none⟩) L L)) w := by
        unfold execOp
        rw [hop]
        simp only [e4]
        go_simp
      have hy := h.yield (i := 0) (by omega) h0 hT
      refine wpOp_val ho hgo hrun ?_
      rw [hd]
      exact hy
    | 1, _, h0, ho, hdep, hsh =>
      injection hsh with hsh
      injection hsh with hd hop
      have hrun : (execOp a.eval o).run Tryd.prog w = .ok (.value (.int .i64 (j : Int))) w := by
        unfold execOp
        rw [hop]
        simp only [e7]
        go_simp
      have hy := h.yield (i := 1) (by omega) h0 hT
      refine wpOp_val ho hgo hrun ?_
      rw [hd]
      exact hy
    | 2, _, h0, ho, hdep, hsh =>
      injection hsh with hsh
      injection hsh with hd hop
      have hrun : (execOp a.eval o).run Tryd.prog w = .ok (.value (.int .u64 rr)) w := by
        unfold execOp
        rw [hop]
        simp only [e6]
        go_simp
      have hy := h.yield (i := 2) (by omega) h0 hT
      refine wpOp_val ho hgo hrun ?_
      rw [hd]
      exact hy
    | 3, _, h0, ho, hdep, hsh =>
      injection hsh with hsh
      injection hsh with hd hop
      have hrun : (execOp a.eval o).run Tryd.prog w = .ok (.value (.slice (some ⟨bb, ob, none⟩) 1 c')) w := by
        unfold execOp
        rw [hop]
        simp only [e3]
        go_simp
      have hy := h.yield (i := 3) (by omega) h0 hT
      refine wpOp_val ho hgo hrun ?_
      rw [hd]
      exact hy
    | 4, _, h0, ho, hdep, hsh =>
      injection hsh with hsh
      injection hsh with hd hop
      have d3 : a.eval (.tmp 36) = (.slice (some ⟨bb, ob, none⟩) 1 c') := ev 3 (by omega) (hdep 3 (by simp [twoWaits]))
      have hrun : (execOp a.eval o).run Tryd.prog w = .ok (.value (.pointer (some ⟨bb, ob, none⟩))) w := by
        unfold execOp
        rw [hop]
        simp only [d3]
        go_simp
      have hy := h.yield (i := 4) (by omega) h0 hT
      refine wpOp_val ho hgo hrun ?_
      rw [hd]
      exact hy
    | 5, _, h0, ho, hdep, hsh =>
      injection hsh with hsh
      injection hsh with hd hop
      have d4 : a.eval (.tmp 37) = (.pointer (some ⟨bb, ob, none⟩)) := ev 4 (by omega) (hdep 4 (by simp [twoWaits]))
      have hrun : (execOp a.eval o).run Tryd.prog w = .ok (.value (.int .u64 b)) w := by
        unfold execOp
        rw [hop]
        simp only [d4]
        go_simp
      have hy := h.yield (i := 5) (by omega) h0 hT
      refine wpOp_val ho hgo hrun ?_
      rw [hd]
      exact hy
    | 6, _, h0, ho, hdep, hsh =>
      injection hsh with hsh
      injection hsh with hd hop
      have d2 : a.eval (.tmp 35) = (.int .u64 rr) := ev 2 (by omega) (hdep 2 (by simp [twoWaits]))
      have d5 : a.eval (.tmp 38) = (.int .u64 b) := ev 5 (by omega) (hdep 5 (by simp [twoWaits]))
      have hrun : (execOp a.eval o).run Tryd.prog w = .ok (.value (.int .u64 (rr / b))) w := by
        unfold execOp
        rw [hop]
        simp only [d2, d5]
        go_simp
        rw [if_neg (by omega), Int.tdiv_eq_ediv_of_nonneg hr0, hwq]
      have hy := h.yield (i := 6) (by omega) h0 hT
      refine wpOp_val ho hgo hrun ?_
      rw [hd]
      exact hy
    | 7, _, h0, ho, hdep, hsh =>
      injection hsh with hsh
      injection hsh with hd hop
      have hrun : (execOp a.eval o).run Tryd.prog w = .ok (.value (.int .u64 rr)) w := by
        unfold execOp
        rw [hop]
        simp only [e6]
        go_simp
      have hy := h.yield (i := 7) (by omega) h0 hT
      refine wpOp_val ho hgo hrun ?_
      rw [hd]
      exact hy
    | 8, _, h0, ho, hdep, hsh =>
      injection hsh with hsh
      injection hsh with hd hop
      have hrun : (execOp a.eval o).run Tryd.prog w = .ok (.value (.slice (some ⟨bb, ob, none⟩) 1 c')) w := by
        unfold execOp
        rw [hop]
        simp only [e3]
        go_simp
      have hy := h.yield (i := 8) (by omega) h0 hT
      refine wpOp_val ho hgo hrun ?_
      rw [hd]
      exact hy
    | 9, _, h0, ho, hdep, hsh =>
      injection hsh with hsh
      injection hsh with hd hop
      have d8 : a.eval (.tmp 41) = (.slice (some ⟨bb, ob, none⟩) 1 c') := ev 8 (by omega) (hdep 8 (by simp [twoWaits]))
      have hrun : (execOp a.eval o).run Tryd.prog w = .ok (.value (.pointer (some ⟨bb, ob, none⟩))) w := by
        unfold execOp
        rw [hop]
        simp only [d8]
        go_simp
      have hy := h.yield (i := 9) (by omega) h0 hT
      refine wpOp_val ho hgo hrun ?_
      rw [hd]
      exact hy
    | 10, _, h0, ho, hdep, hsh =>
      injection hsh with hsh
      injection hsh with hd hop
      have d9 : a.eval (.tmp 42) = (.pointer (some ⟨bb, ob, none⟩)) := ev 9 (by omega) (hdep 9 (by simp [twoWaits]))
      have hrun : (execOp a.eval o).run Tryd.prog w = .ok (.value (.int .u64 b)) w := by
        unfold execOp
        rw [hop]
        simp only [d9]
        go_simp
      have hy := h.yield (i := 10) (by omega) h0 hT
      refine wpOp_val ho hgo hrun ?_
      rw [hd]
      exact hy
    | 11, _, h0, ho, hdep, hsh =>
      injection hsh with hsh
      injection hsh with hd hop
      have d7 : a.eval (.tmp 40) = (.int .u64 rr) := ev 7 (by omega) (hdep 7 (by simp [twoWaits]))
      have d10 : a.eval (.tmp 43) = (.int .u64 b) := ev 10 (by omega) (hdep 10 (by simp [twoWaits]))
      have hrun : (execOp a.eval o).run Tryd.prog w = .ok (.value (.int .u64 (rr % b))) w := by
        unfold execOp
        rw [hop]
        simp only [d7, d10]
        go_simp
        rw [if_neg (by omega), Int.tmod_eq_emod_of_nonneg hr0]
      have hy := h.yield (i := 11) (by omega) h0 hT
      refine wpOp_val ho hgo hrun ?_
      rw [hd]
      exact hy
    | 12, _, h0, ho, hdep, hsh =>
      injection hsh with hsh
      injection hsh with hd hop
      have d0 : a.eval (.tmp 33) = (.slice (some ⟨q, 0, none⟩) L L) := ev 0 (by omega) (hdep 0 (by simp [twoWaits]))
      have d1 : a.eval (.tmp 34) = (.int .i64 (j : Int)) := ev 1 (by omega) (hdep 1 (by simp [twoWaits]))
      have hrun : (execOp a.eval o).run Tryd.prog w = .ok (.value (.pointer (some ⟨q, j, none⟩))) w := by
        unfold execOp
        rw [hop]
        simp only [d0, d1]
        go_simp
      have hy := h.yield (i := 12) (by omega) h0 hT
      refine wpOp_val ho hgo hrun ?_
      rw [hd]
      exact hy
    | 13, _, h0, ho, hdep, hsh =>
      injection hsh with hsh
      injection hsh with hd hop
      have d6 : a.eval (.tmp 39) = .int .u64 (rr / b) := ev 6 (by omega) (hdep 6 (by simp [twoWaits]))
      have d12 : a.eval (.tmp 45) = .pointer (some ⟨q, j, none⟩) := ev 12 (by omega) (hdep 12 (by simp [twoWaits]))
      have hw : w = W0 := h.w0 (by simpa [hsl] using h0)
      subst hw
      have hrun : (execOp a.eval o).run Tryd.prog w = .ok .skip (w.setCell ⟨q, j, none⟩ (.int .u64 (rr / b))) := by
        unfold execOp
        rw [hop]
        simp only [d6, d12]
        go_simp
      refine wpOp_skip ho hgo hd hrun ?_
      have g14 := getD_set_other' listed 13 14 (by omega) false
      refine ⟨by simpa using h.size, fun e => ?_, fun _ _ => rfl, fun e => ?_, fun e => ?_, fun e => ?_, h.defs, h.sz, h.keep, fun k hk hl => ?_⟩
      · rw [hset] at e; cases e
      · rw [g14, hn14] at e; cases e
      · rw [g14, hn14] at e; cases e
      · rw [g14, hn14] at e; cases e
      · rw [getD_set_other' _ _ _ (by omega)] at hl; exact h.vals k hk hl
    | 14, _, h0, ho, hdep, hsh =>
      injection hsh with hsh
      injection hsh with hd hop
      have d11 : a.eval (.tmp 44) = .int .u64 (rr % b) := ev 11 (by omega) (hdep 11 (by simp [twoWaits]))
      have hw : w = W0.setCell ⟨q, j, none⟩ (.int .u64 (rr / b)) := h.w1 (hdep 13 (by simp [twoWaits])) hn14
      subst hw
      have hrun : (execOp a.eval o).run Tryd.prog (W0.setCell ⟨q, j, none⟩ (.int .u64 (rr / b))) = .ok .skip ((W0.setCell ⟨q, j, none⟩ (.int .u64 (rr / b))).setCell ⟨r, 0, none⟩ (.int .u64 (rr % b))) := by
        unfold execOp
        rw [hop]
        simp only [e6, d11]
        go_simp
      refine wpOp_skip ho hgo hd hrun ?_
      have g13 := getD_set_other' listed 14 13 (by omega) false
      have hall15 : ∀ k, k < 15 → (listed.setIfInBounds 14 true).getD k false = true := by
        intro k hk
        by_cases e : k = 14
        · subst e; exact hset
        · rw [getD_set_other' _ _ _ e]
          exact hdep k (by simp [twoWaits]; omega)
      refine ⟨by simpa using h.size, fun e => ?_, fun _ e => ?_, fun _ => rfl, fun _ => hall15, fun _ => hall15 13 (by omega), h.defs, h.sz, h.keep, fun k hk hl => ?_⟩
      · rw [hall15 13 (by omega)] at e; cases e
      · rw [hset] at e; cases e
      · rw [getD_set_other' _ _ _ (by omega)] at hl; exact h.vals k hk hl
    | i + 15, hi15, _, _, _, _ => omega
  · intro listed a w h hr
    have hall : ∀ i, i < 15 → listed.getD i false = true := by
      intro i
      induction i using Nat.strongRecOn with
      | _ i ih =>
        intro hi
        cases e : listed.getD i false with
        | true => rfl
        | false =>
          exfalso
          have hlt : i < ops.size := by omega
          have ho : ops[i]? = some ops[i] := Array.getElem?_eq_getElem hlt
          have hb := List.all_eq_true.1 hback i (List.mem_range.2 hi)
          rw [ho] at hb
          have hm : i ∈ Region.ready .any ops listed := by
            refine mem_ready.2 ⟨?_, ops[i], ho, fun ed he _ => ?_⟩
            · have hl : i < listed.size := by rw [h.size]; exact hi
              simpa [hl] using e
            · have h1 := Array.all_eq_true'.1 hb ed he
              exact ih ed.on (by simpa using h1) (by have := of_decide_eq_true h1; omega)
          rw [hr] at hm
          cases hm
    rw [h.w2 (hall 14 (by omega))]
    exact hQ a
  · exact ⟨by simp [hsz], fun _ => rfl, fun h => by simp [hsz] at h, fun h => by simp [hsz] at h, fun h => by simp [hsz] at h, fun h => by simp [hsz] at h, rfl, rfl, fun _ _ => rfl, fun i hi h => by
      have : i < ops.size := by omega
      simp [this] at h⟩
  · simp [lacks]

end Go.Proofs.YtmkeigfckfkifaaDoor
