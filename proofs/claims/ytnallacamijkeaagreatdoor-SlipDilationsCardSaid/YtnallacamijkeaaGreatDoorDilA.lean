/- Rows of values of whatever form; zeros over a row with room; the plain law of Dilation. -/
import Derived.Test.YtnallacamijkeaaGreatDoorGSlipA
import Derived.Test.YtnallacamijkeaaGreatDoorGSlipR
import Derived.Test.YtnallacamijkeaaGreatDoorApp
namespace Go.Proofs.YtnallacamijkeaaGreatDoor
set_option linter.all false
open Go.RowKit

section
variable {α : Type} {f : α → List Value} {sz : Nat}
theorem flat_len (hf : ∀ u, (f u).length = sz) : ∀ us : List α, (us.flatMap f).length = us.length * sz
 | [] => by simp
 | u :: us => by rw [List.flatMap_cons, List.length_append, hf, flat_len hf us, List.length_cons, Nat.succ_mul]; omega
theorem flat_get (hf : ∀ u, (f u).length = sz) : ∀ (us : List α) (i j : Nat) (u : α) (v : Value), us[i]? = some u → (f u)[j]? = some v → (us.flatMap f)[i * sz + j]? = some v
 | [], i, j, u, v, h, _ => by simp at h
 | x :: us, 0, j, u, v, h, hv => by
  simp at h
  subst h
  rw [List.flatMap_cons, Nat.zero_mul, Nat.zero_add, List.getElem?_append_left (List.getElem?_eq_some_iff.1 hv).1]
  exact hv
 | x :: us, i + 1, j, u, v, h, hv => by
  have ih := flat_get hf us i j u v (by simpa using h) hv
  rw [List.flatMap_cons, List.getElem?_append_right (by rw [hf, Nat.succ_mul]; omega), hf, show (i + 1) * sz + j - sz = i * sz + j by rw [Nat.succ_mul]; omega]
  exact ih
def SRow (f : α → List Value) (sz : Nat) (T : TypeId) (W : World) (base : Nat) (v : Value) (us : List α) : Prop :=
 (us = [] ∧ v = .slice none 0 0) ∨ ∃ d c r, v = .slice (some ⟨d, 0, none⟩) us.length c ∧ base ≤ d ∧ us ≠ [] ∧ Blk W d (us.flatMap f ++ r).toArray T ∧ Room us.length c sz (us.flatMap f) r
def SAt (f : α → List Value) (sz : Nat) (W : World) (v : Value) (us : List α) : Prop :=
 ∃ a c, v = .slice a us.length c ∧ ∀ i t, us[i]? = some t → ∃ d o, a = some ⟨d, o, none⟩ ∧ d < W.heap.size ∧ ∀ j u, (f t)[j]? = some u → W.cell? ⟨d, o + i * sz + j, none⟩ = some u
variable {T : TypeId} {W W' : World} {base : Nat} {v : Value} {us : List α}
theorem SRow.nil (W : World) (base : Nat) : SRow f sz T W base (.slice none 0 0) [] := .inl ⟨rfl, rfl⟩
theorem SRow.below (h : SRow f sz T W base v us) (q : Below W.heap.size W W') : SRow f sz T W' base v us := by
 rcases h with h | ⟨d, c, r, h1, h2, h3, h4, h5⟩
 ·exact .inl h
 ·exact .inr ⟨d, c, r, h1, h2, h3, h4.below q, h5⟩
theorem SRow.len_eval (h : SRow f sz T W base v us) : ∃ a c, v = .slice a us.length c := by
 rcases h with ⟨rfl, rfl⟩ | ⟨d, c, r, h1, _⟩
 ·exact ⟨none, 0, rfl⟩
 ·exact ⟨_, _, h1⟩
theorem SRow.set (h : SRow f sz T W base v us) (p : Addr) (hp : p.block < base) (u : Value) : SRow f sz T (W.setCell p u) base v us := by
 rcases h with h | ⟨d, c, r, h1, h2, h3, h4, h5⟩
 ·exact .inl h
 ·refine .inr ⟨d, c, r, h1, h2, h3, ?_, h5⟩
  unfold Blk World.setCell at *
  simp only [Array.getElem?_modify, if_neg (show ¬ p.block = d by omega)]
  exact h4
theorem SRow.look (hf : ∀ u, (f u).length = sz) (h : SRow f sz T W base v us) : SAt f sz W v us := by
 rcases h with ⟨rfl, rfl⟩ | ⟨d, c, r, rfl, h2, h3, h4, h5⟩
 ·exact ⟨none, 0, rfl, fun i t h => by simp at h⟩
 ·refine ⟨_, c, rfl, fun i t ht => ⟨d, 0, rfl, h4.lt, fun j u hu => ?_⟩⟩
  rw [Nat.zero_add]
  refine h4.atL _ _ ?_
  have := flat_get hf us i j t u ht hu
  rw [List.getElem?_append_left (List.getElem?_eq_some_iff.1 this).1]
  exact this
theorem SAt.below (h : SAt f sz W v us) (q : Below W.heap.size W W') : SAt f sz W' v us := by
 obtain ⟨a, c, h1, h2⟩ := h
 refine ⟨a, c, h1, fun i t ht => ?_⟩
 obtain ⟨d, o, e1, e2, e3⟩ := h2 i t ht
 exact ⟨d, o, e1, Nat.lt_of_lt_of_le e2 q.size, fun j u hu => (q.cell (p := ⟨d, _, none⟩) e2).trans (e3 j u hu)⟩
theorem SAt.cell (h : SAt f sz W v us) (i : Nat) (hi : i < us.length) : ∃ d o c, v = .slice (some ⟨d, o, none⟩) us.length c ∧ d < W.heap.size ∧ ∀ j u, (f us[i])[j]? = some u → W.cell? ⟨d, o + i * sz + j, none⟩ = some u := by
 obtain ⟨a, c, rfl, h2⟩ := h
 obtain ⟨d, o, rfl, hd, hc⟩ := h2 i us[i] (List.getElem?_eq_getElem hi)
 exact ⟨d, o, c, rfl, hd, hc⟩
theorem app_row {P : Program} {t : TypeId} {bytes : Nat} (E : StrElem P t T sz bytes) (hf : ∀ u, (f u).length = sz) (hone : ∀ u, ∀ x ∈ f u, x.oneCell' = true) {ops : Array Oper} {rest : List Oper} {o : Oper} {a : Act} {Q : Exit → Act → World → Prop} (hgd : o.guard = none) (s x : Operand) (ho : o.op = .call { callee := .builtin .append, args := #[s, x], argTypes := #[t, t] })
  (W : World) (base : Nat) (hbase : base ≤ W.heap.size) (v : Value) (us : List α) (row : SRow f sz T W base v us) (hs : a.eval s = v) (hlen : us.length ≤ 5000) (u : α) (hx : a.eval x = .slice (some ⟨W.heap.size, 0, none⟩) 1 1)
  (h : ∀ v' w', SRow f sz T w' base v' (us ++ [u]) → (∀ b cs T, b < base → Blk W b cs T → Blk w' b cs T) → Below base W w' → wpList P ops Q rest (a.put o.dst v') w') :
  wpList P ops Q (o :: rest) a (W.alloc (.cells (f u).toArray T)) := by
 have snoc : ∀ us : List α, (us ++ [u]).flatMap f = us.flatMap f ++ f u := fun us => by simp
 rcases row with ⟨rfl, rfl⟩ | ⟨d, c, r, rfl, h2, h3, h4, h5⟩
 ·refine wpList_app0 E hgd s x ho W hs (f u) (hf u) hx (hone u) ?_
  intro g c r w' kk lg mm qq
  have e : (([] : List α) ++ [u]).flatMap f = f u := by rw [snoc]; rfl
  refine h _ w' (.inr ⟨g, c, r, rfl, by omega, by simp, ?_, ?_⟩) (fun b cs T hb k => k.grown qq (fun h => by cases h)) (below_app0 (Below.refl _ _) qq hbase)
  ·rw [e]; exact kk
  ·rw [e]; exact mm
 ·refine wpList_appN E hgd s x ho W d us.length c hs (us.flatMap f) r h4 h5 (by omega) (f u) (hf u) hx (hone u) ?_
  intro g c' r' w' kk lg mm qq
  have hd := h4.lt
  refine h _ w' (.inr ⟨g, c', r', by rw [List.length_append]; rfl, by omega, by simp, ?_, ?_⟩) (fun b cs T hb k => k.grown qq (ne_row (by omega))) (below_appN (Below.refl _ _) qq hbase h2)
  ·rw [snoc]; exact kk
  ·rw [snoc, List.length_append]; exact mm
end

def Vec3At (W : World) (b : Nat) (vs : List T3) : Prop := ∃ r, Blk W b (vs.flatMap T3.cells ++ r).toArray 29
theorem Vec3At.below {W W' : World} {b : Nat} {vs : List T3} (h : Vec3At W b vs) (q : Below W.heap.size W W') : Vec3At W' b vs := h.elim fun r h => ⟨r, h.below q⟩
theorem Vec3At.cells {W : World} {b : Nat} {l : List T3} (h : Vec3At W b l) (k : Nat) (hk : k < l.length) :
  W.cell? ⟨b, k * 3, none⟩ = some (.string l[k].x) ∧ W.cell? ⟨b, k * 3 + 1, none⟩ = some (.string l[k].y) ∧ W.cell? ⟨b, k * 3 + 2, none⟩ = some (.string l[k].z) := by
 obtain ⟨r, h⟩ := h
 obtain ⟨h1, h2, h3⟩ := flat3_at l k hk
 have go : ∀ (i : Nat) (u : Value), (l.flatMap T3.cells)[i]? = some u → W.cell? ⟨b, i, none⟩ = some u := fun i u hu => h.atL i u (by rw [List.getElem?_append_left (List.getElem?_eq_some_iff.1 hu).1]; exact hu)
 exact ⟨go _ _ h1, go _ _ h2, go _ _ h3⟩
set_option maxRecDepth 100000 in
set_option maxHeartbeats 4000000 in
theorem index_szero2 (vs : List T3) (p : T3 → Bool) (hl : vs.length ≤ 100) (w : World) (b c : Nat) (hb : Vec3At w b vs)
  (hp : ∀ v ∈ vs, ∀ W, Below w.heap.size w W → Calls Tryz.prog 41 #[.agg #[.string v.x, .string v.y, .string v.z]] W fun e w' => e = .returned (.bool (p v)) ∧ Below W.heap.size W w') :
  Calls Tryz.prog 88 #[.slice (some ⟨b, 0, none⟩) vs.length c, .func (.func 41) #[] #[]] w fun e w' =>
   (∃ r : Int, e = .returned (.int .i64 r) ∧ -1 ≤ r ∧ r ≤ 100 ∧ (decide (0 ≤ r) = vs.any p)) ∧ Below w.heap.size w w' := by
 have ck := fun (k : Nat) (hk : k < vs.length) W (hW : Below w.heap.size w W) => hp vs[k] (List.getElem_mem hk) W hW
 have CK := Lib.hid ck
 have HB := Lib.hid hb
 clear hb hp ck
 go_enter Tryz.func88, Tryz.ntmps88
 go_wp2
 go_loopw [8] (fun i wr => ∃ k : Nat, k ≤ vs.length ∧ i = .int .i64 k ∧ (vs.take k).all (fun v => !p v) = true ∧ Below w.heap.size w wr) (fun i _ => vs.length - (intOf i).toNat)
 case atStart => exact ⟨0, Nat.zero_le _, rfl, rfl, Below.refl _ _⟩
 case round =>
  obtain ⟨k, hk, rfl, hall, hB⟩ := hrel
  have B := Lib.hid hB
  have HALL := Lib.hid hall
  clear hB hall
  by_cases hlt : k < vs.length
  ·obtain ⟨c0, c1, c2⟩ := (HB.out.below B.out).cells k hlt
   have hr := CK.out k hlt
   have hsucc := all_take_succ (fun v => !p v) vs k hlt
   cases hq : p vs[k] with
   | false =>
    rw [hq] at hr
    rw [hq, HALL.out] at hsucc
    have HS := Lib.hid hsucc
    generalize vs[k].x = X at *
    generalize vs[k].y = Y at *
    generalize vs[k].z = Z at *
    have HR := Lib.hid hr
    clear hr hq hsucc
    go_wp2_with (go_at_call 41; with_reducible refine (HR.out _ B.out).mono ?_; rintro e wx ⟨rfl, q⟩; replace B := Lib.hid (B.out.trans (q.mono B.out.size)); clear q)
    go_roundw
    case rel => exact ⟨k + 1, by omega, by go_num, HS.out, B.out⟩
    case measure => simp [intOf]; omega
   | true =>
    have hany : vs.any p = true := List.any_eq_true.2 ⟨_, List.getElem_mem hlt, hq⟩
    rw [hq] at hr
    have HY := Lib.hid hany
    generalize vs[k].x = X at *
    generalize vs[k].y = Y at *
    generalize vs[k].z = Z at *
    have HR := Lib.hid hr
    clear hr hq hsucc hany
    go_wp2_with (go_at_call 41; with_reducible refine (HR.out _ B.out).mono ?_; rintro e wx ⟨rfl, q⟩; replace B := Lib.hid (B.out.trans (q.mono B.out.size)); clear q)
    go_ret
    exact ⟨⟨_, rfl, by omega, by omega, by rw [HY.out]; exact decide_eq_true (by omega)⟩, B.out⟩
  ·have hk' : k = vs.length := by omega
   have hno : vs.any p = false := by
    have := HALL.out
    rw [hk', List.take_length, List.all_eq_true] at this
    rw [List.any_eq_false]
    intro x hx
    have := this x hx
    simpa using this
   have HN := Lib.hid hno
   clear hno hk'
   go_wp2
   go_ret
   exact ⟨⟨_, rfl, by omega, by omega, by rw [HN.out]; rfl⟩, B.out⟩

set_option maxRecDepth 100000 in
set_option maxHeartbeats 4000000 in
theorem contains_szero2 (vs : List T3) (p : T3 → Bool) (hl : vs.length ≤ 100) (w : World) (b c : Nat) (hb : Vec3At w b vs)
  (hp : ∀ v ∈ vs, ∀ W, Below w.heap.size w W → Calls Tryz.prog 41 #[.agg #[.string v.x, .string v.y, .string v.z]] W fun e w' => e = .returned (.bool (p v)) ∧ Below W.heap.size W w') :
  Calls Tryz.prog 55 #[.slice (some ⟨b, 0, none⟩) vs.length c, .func (.func 41) #[] #[]] w fun e w' => e = .returned (.bool (vs.any p)) ∧ Below w.heap.size w w' := by
 have HI := Lib.hid (index_szero2 vs p hl w b c hb hp)
 clear hb hp
 go_enter Tryz.func55, Tryz.ntmps55
 go_wp2_with (go_at_call 88; with_reducible refine HI.out.mono ?_; rintro e wx ⟨⟨r, rfl, hr1, hr2, hr3⟩, q⟩; have HR := Lib.hid hr3; have B := Lib.hid q; clear hr3 q)
 go_ret
 exact ⟨ret_b HR.out, B.out⟩

set_option maxRecDepth 100000 in
set_option maxHeartbeats 4000000 in
theorem szeros_any2 (vs : List T3) (hl : vs.length ≤ 100) (w : World) (b c : Nat) (hb : Vec3At w b vs) :
  Calls Tryz.prog 23 #[.slice (some ⟨b, 0, none⟩) vs.length c] w fun e w' => e = .returned (.int .i64 (errZ vs)) ∧ Below w.heap.size w w' := by
 have hi := contains_szero2 vs T3.zero hl w b c hb (fun v _ W _ => szero_any v W)
 unfold errZ
 cases h : vs.any T3.zero with
 | true =>
  rw [h] at hi
  have HI := Lib.hid hi
  clear hi hb h
  go_enter Tryz.func23, Tryz.ntmps23
  go_wp2_with (go_at_call 55; with_reducible refine HI.out.mono ?_; rintro e wx ⟨rfl, q⟩; have B := Lib.hid q; clear q)
  go_ret
  exact ⟨rfl, B.out⟩
 | false =>
  rw [h] at hi
  have HI := Lib.hid hi
  clear hi hb h
  go_enter Tryz.func23, Tryz.ntmps23
  go_wp2_with (go_at_call 55; with_reducible refine HI.out.mono ?_; rintro e wx ⟨rfl, q⟩; have B := Lib.hid q; clear q)
  go_ret
  exact ⟨rfl, B.out⟩


structure DI where
 m : Bool
 a : Int
 b : Int
noncomputable def oT (x : Int) : ByteArray := canonR (mkRat x 2)
def nX (m : Bool) : ByteArray := if m = true then ⟨#[50]⟩ else ⟨#[49]⟩
def nZ (m : Bool) : ByteArray := if m = true then ⟨#[52]⟩ else ⟨#[50]⟩
noncomputable def DI.cells (d : DI) : List Value := [.string (nX d.m), .string ⟨#[48]⟩, .string (nZ d.m), .string (oT d.a), .string (oT d.b), .string ⟨#[]⟩]
theorem DI.len (d : DI) : d.cells.length = 6 := rfl
def badD (f t : Int) (d : DI) : Int := if d.m = true then 7 else if d.b ≤ 0 ∨ d.a < 2 * f ∨ 2 * t < d.a + d.b then 3 else 0
def hitD (d x : DI) : Prop := x.a < d.a + d.b ∧ d.a < x.a + x.b

end Go.Proofs.YtnallacamijkeaaGreatDoor
