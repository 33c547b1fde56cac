/- Package slip and the references over rational numbers. -/
import Derived.Test.YtnallacamijkeaaGreatDoorGSlipA
import Derived.Test.YtnallacamijkeaaGreatDoorGSlipP
import Derived.Test.YtnallacamijkeaaGreatDoorShelf
import Derived.Test.YtnallacamijkeaaGreatDoorGPar
import Derived.Test.YtnallacamijkeaaGreatDoorRfE
import Derived.Deep.RegionHeld3
import Derived.Laws.ResultCell
import Derived.Deep.Cut
import Derived.Deep.CutRange
import Derived.Deep.DeepCutAuto
import Derived.Outline
/- Package slip over rational numbers: errors of any texts, vectors, the place where planes meet. -/
namespace Go.Proofs.YtnallacamijkeaaGreatDoor
set_option linter.all false
open Go.RowKit

noncomputable def e2 (b : Bool) : Int := if b = true then 0 else 2
theorem first_e2 : ∀ (l : List Bool), firstE (l.map e2) = e2 (l.all id)
 | [] => rfl
 | true :: l => by
  have := first_e2 l
  unfold firstE at this ⊢
  rw [List.map_cons, show e2 true = 0 from rfl, List.find?_cons_of_neg (by decide), this]
  rfl
 | false :: l => rfl
theorem e2_zero {b : Bool} : e2 b = 0 ↔ b = true := by
 unfold e2
 cases b <;> simp
theorem errV_one (v : T3) : errV [v] = e2 v.right := by
 unfold errV e2
 rw [List.all_cons, List.all_nil, Bool.and_true]
theorem errN_one (t : ByteArray) : errN [t] = e2 (rightQ t) := by
 unfold errN e2
 rw [List.all_cons, List.all_nil, Bool.and_true]

section
variable (w : World)
theorem sfirst2 (a b : Bool) (W : World) (k : Nat) (hb : Blk W k #[.int .i64 (e2 a), .int .i64 (e2 b)] 38) :
  Calls Tryz.prog 19 #[.slice (some ⟨k, 0, none⟩) 2 2] W fun e w' => e = .returned (.int .i64 (e2 (a && b))) ∧ Below W.heap.size W w' := by
 have h := sfirst_any [e2 a, e2 b] (by simp) W k hb
 rw [show firstE [e2 a, e2 b] = e2 (a && b) by have := first_e2 [a, b]; simpa using this] at h
 exact h
theorem sfirst4 (a b c d : Bool) (W : World) (k : Nat) (hb : Blk W k #[.int .i64 (e2 a), .int .i64 (e2 b), .int .i64 (e2 c), .int .i64 (e2 d)] 38) :
  Calls Tryz.prog 19 #[.slice (some ⟨k, 0, none⟩) 4 4] W fun e w' => e = .returned (.int .i64 (e2 (a && (b && (c && d))))) ∧ Below W.heap.size W w' := by
 have h := sfirst_any [e2 a, e2 b, e2 c, e2 d] (by simp) W k hb
 rw [show firstE [e2 a, e2 b, e2 c, e2 d] = e2 (a && (b && (c && d))) by have := first_e2 [a, b, c, d]; simpa using this] at h
 exact h
theorem sfirst5 (a b c d f : Bool) (W : World) (k : Nat) (hb : Blk W k #[.int .i64 (e2 a), .int .i64 (e2 b), .int .i64 (e2 c), .int .i64 (e2 d), .int .i64 (e2 f)] 38) :
  Calls Tryz.prog 19 #[.slice (some ⟨k, 0, none⟩) 5 5] W fun e w' => e = .returned (.int .i64 (e2 (a && (b && (c && (d && f)))))) ∧ Below W.heap.size W w' := by
 have h := sfirst_any [e2 a, e2 b, e2 c, e2 d, e2 f] (by simp) W k hb
 rw [show firstE [e2 a, e2 b, e2 c, e2 d, e2 f] = e2 (a && (b && (c && (d && f)))) by have := first_e2 [a, b, c, d, f]; simpa using this] at h
 exact h
theorem svec1 (v : T3) (hv : v.small) (W : World) (k : Nat) (he : Env W) (hb : Blk W k #[.string v.x, .string v.y, .string v.z] 29) :
  Calls Tryz.prog 20 #[.slice (some ⟨k, 0, none⟩) 1 1] W fun e w' => e = .returned (.int .i64 (e2 v.right)) ∧ Below W.heap.size W w' := by
 have h := svectors_any [v] (by simpa using hv) (by simp) W k hb he
 rw [errV_one] at h
 exact h
theorem snum1 (t : ByteArray) (ht : t.size ≤ 1000000) (W : World) (k : Nat) (he : Env W) (hb : Blk W k #[.string t] 27) :
  Calls Tryz.prog 21 #[.slice (some ⟨k, 0, none⟩) 1 1] W fun e w' => e = .returned (.int .i64 (e2 (rightQ t))) ∧ Below W.heap.size W w' := by
 have h := snumbers_any [t] (by simpa using ht) (by simp) W k hb he
 rw [errN_one] at h
 exact h
theorem splaneT (v : T3) (o : ByteArray) (hv : v.small) (ho : o.size ≤ 1000000) (he : Env w) :
  Calls Tryz.prog 22 #[.agg #[.string v.x, .string v.y, .string v.z, .string o]] w fun e w' => e = .returned (.int .i64 (e2 (v.right && rightQ o))) ∧ Below w.heap.size w w' :=
 splane_of v.x v.y v.z o _ _ _ w (fun W b hb hW => svec1 v hv W b (he.below hW) hb) (fun W b hb hW => snum1 o ho W b (he.below hW) hb) (fun W b hb _ => sfirst2 _ _ W b hb)
end

def V3.t (v : V3) : T3 := ⟨canonR v.x, canonR v.y, canonR v.z⟩
theorem V3.t_zero (v : V3) : v.t.zero = decide (v.x = 0 ∧ v.y = 0 ∧ v.z = 0) := by
 unfold T3.zero V3.t
 simp only [canonR_beq0]
 by_cases h1 : v.x = 0 <;> by_cases h2 : v.y = 0 <;> by_cases h3 : v.z = 0 <;> simp [h1, h2, h3]

theorem canonR0 : canonR 0 = ⟨#[48]⟩ := by
 rw [canonR_zero, show canon 0 = (⟨#[48]⟩ : ByteArray) from ba_of_list _ _ (by rw [← ByteArray.toList_eq]; exact eq_of_beq (canon_beq0 0))]
theorem Sz.zero (N : Nat) (h : 0 < N) : Sz 0 N := ⟨by show 0 < 10 ^ N; exact Nat.pow_pos (by omega), by show 1 < 10 ^ N; exact Nat.one_lt_pow (by omega) (by omega)⟩
theorem ssum3 (a b c : Rat) (N : Nat) (hN0 : 0 < N) (hN : N ≤ 400) (ha : Sz a N) (hb : Sz b N) (hc : Sz c N) (w : World) (k : Nat) (hk : Blk w k #[.string (canonR a), .string (canonR b), .string (canonR c)] 27) (he : Env w) :
  Calls Tryz.prog 77 #[.slice (some ⟨k, 0, none⟩) 3 3] w fun e w' => e = .returned (.string (canonR (a + b + c))) ∧ Below w.heap.size w w' := by
 have h1 := fun W (hW : Below w.heap.size w W) => radd_any 0 a N (by omega) (by omega) (Sz.zero N hN0) ha W (he.below hW)
 rw [Rat.zero_add, canonR0] at h1
 exact ssum3_of _ _ _ _ _ _ k w hk h1 (fun W hW => radd_any a b N (by omega) (by omega) ha hb W (he.below hW)) (fun W hW => radd_any (a + b) c (N + N + 1) (by omega) (by omega) (ha.add hb) (hc.mono (by omega)) W (he.below hW))

section
variable (u v : V3) (N : Nat) (hN0 : 0 < N)
include hN0
theorem sdotR (hN : N ≤ 200) (hu : Sz3 u N) (hv : Sz3 v N) (w : World) (he : Env w) :
  Calls Tryz.prog 40 #[.agg #[.string (canonR u.x), .string (canonR u.y), .string (canonR u.z)], .agg #[.string (canonR v.x), .string (canonR v.y), .string (canonR v.z)]] w fun e w' => e = .returned (.string (canonR (dotR u v))) ∧ Below w.heap.size w w' :=
 sdot_of _ _ _ _ _ _ _ _ _ _ w (fun W hW => rmul_any u.x v.x N hN0 (by omega) hu.1 hv.1 W (he.below hW)) (fun W hW => rmul_any u.y v.y N hN0 (by omega) hu.2.1 hv.2.1 W (he.below hW)) (fun W hW => rmul_any u.z v.z N hN0 (by omega) hu.2.2 hv.2.2 W (he.below hW))
  (fun W b hb hW => ssum3 (u.x * v.x) (u.y * v.y) (u.z * v.z) (N + N) (by omega) (by omega) (hu.1.mul hv.1) (hu.2.1.mul hv.2.1) (hu.2.2.mul hv.2.2) W b hb (he.below hW))
theorem sminorR (a b c d : Rat) (hN : N ≤ 400) (ha : Sz a N) (hb : Sz b N) (hc : Sz c N) (hd : Sz d N) (w : World) (he : Env w) :
  Calls Tryz.prog 76 #[.string (canonR a), .string (canonR b), .string (canonR c), .string (canonR d)] w fun e w' => e = .returned (.string (canonR (a * d - b * c))) ∧ Below w.heap.size w w' :=
 sminor_of _ _ _ _ _ _ _ w (fun W hW => rmul_any a d N hN0 (by omega) ha hd W (he.below hW)) (fun W hW => rmul_any b c N hN0 (by omega) hb hc W (he.below hW)) (fun W hW => rsub_any (a * d) (b * c) (N + N) (by omega) (by omega) (ha.mul hd) (hb.mul hc) W (he.below hW))
theorem scrossR (hN : N ≤ 400) (hu : Sz3 u N) (hv : Sz3 v N) (w : World) (he : Env w) :
  Calls Tryz.prog 39 #[.agg #[.string (canonR u.x), .string (canonR u.y), .string (canonR u.z)], .agg #[.string (canonR v.x), .string (canonR v.y), .string (canonR v.z)]] w fun e w' => e = .returned (.agg #[.string (canonR (crossR u v).x), .string (canonR (crossR u v).y), .string (canonR (crossR u v).z)]) ∧ Below w.heap.size w w' :=
 scross_of _ _ _ _ _ _ _ _ _ w (fun W hW => sminorR N hN0 u.y u.z v.y v.z hN hu.2.1 hu.2.2 hv.2.1 hv.2.2 W (he.below hW)) (fun W hW => sminorR N hN0 u.z u.x v.z v.x hN hu.2.2 hu.1 hv.2.2 hv.1 W (he.below hW)) (fun W hW => sminorR N hN0 u.x u.y v.x v.y hN hu.1 hu.2.1 hv.1 hv.2.1 W (he.below hW))
theorem saddR (hN : N ≤ 1000) (hu : Sz3 u N) (hv : Sz3 v N) (w : World) (he : Env w) :
  Calls Tryz.prog 79 #[.agg #[.string (canonR u.x), .string (canonR u.y), .string (canonR u.z)], .agg #[.string (canonR v.x), .string (canonR v.y), .string (canonR v.z)]] w fun e w' => e = .returned (.agg #[.string (canonR (u.add v).x), .string (canonR (u.add v).y), .string (canonR (u.add v).z)]) ∧ Below w.heap.size w w' :=
 sadd_of _ _ _ _ _ _ _ _ _ w (fun W hW => radd_any u.x v.x N hN0 hN hu.1 hv.1 W (he.below hW)) (fun W hW => radd_any u.y v.y N hN0 hN hu.2.1 hv.2.1 W (he.below hW)) (fun W hW => radd_any u.z v.z N hN0 hN hu.2.2 hv.2.2 W (he.below hW))
theorem sscaleR (k : Rat) (hN : N ≤ 1000) (hv : Sz3 v N) (hk : Sz k N) (w : World) (he : Env w) :
  Calls Tryz.prog 78 #[.agg #[.string (canonR v.x), .string (canonR v.y), .string (canonR v.z)], .string (canonR k)] w fun e w' => e = .returned (.agg #[.string (canonR (v.scale k).x), .string (canonR (v.scale k).y), .string (canonR (v.scale k).z)]) ∧ Below w.heap.size w w' :=
 sscale_of _ _ _ _ _ _ _ w (fun W hW => rmul_any v.x k N hN0 hN hv.1 hk W (he.below hW)) (fun W hW => rmul_any v.y k N hN0 hN hv.2.1 hk W (he.below hW)) (fun W hW => rmul_any v.z k N hN0 hN hv.2.2 hk W (he.below hW))
end

theorem Sz3.add {u v : V3} {N : Nat} (hu : Sz3 u N) (hv : Sz3 v N) : Sz3 (u.add v) (N + N + 1) := ⟨hu.1.add hv.1, hu.2.1.add hv.2.1, hu.2.2.add hv.2.2⟩
theorem canonR1 : canonR 1 = ⟨#[49]⟩ := k_1

section
variable (n0 n1 n2 : V3) (b0 b1 b2 : Rat) (hn0 : R3 n0 20 18) (hn1 : R3 n1 20 18) (hn2 : R3 n2 20 18)
include hn0 hn1 hn2
theorem smeet_dep (hd : dotR n0 (crossR n1 n2) = 0) (w : World) (he : Env w) :
  Calls Tryz.prog 42 #[.agg #[.string (canonR n0.x), .string (canonR n0.y), .string (canonR n0.z), .string (canonR n1.x), .string (canonR n1.y), .string (canonR n1.z), .string (canonR n2.x), .string (canonR n2.y), .string (canonR n2.z)], .agg #[.string (canonR b0), .string (canonR b1), .string (canonR b2)]] w
   fun e w' => e = .returned (.tuple #[.agg #[.string ⟨#[]⟩, .string ⟨#[]⟩, .string ⟨#[]⟩], .bool false]) ∧ Below w.heap.size w w' := by
 have s0 := hn0.sz (N := 60) (by omega) (by omega)
 have s1 := hn1.sz (N := 60) (by omega) (by omega)
 have s2 := hn2.sz (N := 60) (by omega) (by omega)
 have c0 := (hn1.cross hn2).sz (N := 60) (by omega) (by omega)
 have h0 := fun W (hW : Below w.heap.size w W) => sdotR n0 (crossR n1 n2) 60 (by omega) (by omega) s0 c0 W (he.below hW)
 rw [hd] at h0
 exact smeet_no _ _ _ _ _ _ _ _ _ _ _ _ _ _ _ _ _ _ _ _ _ _ w (fun W hW => scrossR n1 n2 60 (by omega) (by omega) s1 s2 W (he.below hW)) (fun W hW => scrossR n2 n0 60 (by omega) (by omega) s2 s0 W (he.below hW)) (fun W hW => scrossR n0 n1 60 (by omega) (by omega) s0 s1 W (he.below hW)) h0
  (fun W hW => by have := rdiv_zero 1 W; rw [canonR1] at this; exact this.mono fun e w' h => ⟨h.1, by rw [h.2]; exact Below.refl _ _⟩)
theorem smeet_any (hb0 : Sz b0 80) (hb1 : Sz b1 80) (hb2 : Sz b2 80) (hd : dotR n0 (crossR n1 n2) ≠ 0) (w : World) (he : Env w) :
  Calls Tryz.prog 42 #[.agg #[.string (canonR n0.x), .string (canonR n0.y), .string (canonR n0.z), .string (canonR n1.x), .string (canonR n1.y), .string (canonR n1.z), .string (canonR n2.x), .string (canonR n2.y), .string (canonR n2.z)], .agg #[.string (canonR b0), .string (canonR b1), .string (canonR b2)]] w
   fun e w' => e = .returned (.tuple #[.agg #[.string (canonR (meetR n0 n1 n2 b0 b1 b2).x), .string (canonR (meetR n0 n1 n2 b0 b1 b2).y), .string (canonR (meetR n0 n1 n2 b0 b1 b2).z)], .bool true]) ∧ Below w.heap.size w w' := by
 have s0 := hn0.sz (N := 60) (by omega) (by omega)
 have s1 := hn1.sz (N := 60) (by omega) (by omega)
 have s2 := hn2.sz (N := 60) (by omega) (by omega)
 have c0 := (hn1.cross hn2).sz (N := 60) (by omega) (by omega)
 have c1 := (hn2.cross hn0).sz (N := 60) (by omega) (by omega)
 have c2 := (hn0.cross hn1).sz (N := 60) (by omega) (by omega)
 have d0 : Sz (dotR n0 (crossR n1 n2)) 100 := (hn0.dot (hn1.cross hn2)).sz (by omega) (by omega)
 have o1 : Sz 1 100 := ⟨by show 1 < 10 ^ 100; exact Nat.one_lt_pow (by omega) (by omega), by show 1 < 10 ^ 100; exact Nat.one_lt_pow (by omega) (by omega)⟩
 have hk : Sz (1 / dotR n0 (crossR n1 n2)) 200 := o1.div d0 hd
 have f0 : Sz3 ((crossR n1 n2).scale b0) 160 := (c0.mono (by omega : 60 ≤ 80)).scale hb0
 have f1 : Sz3 ((crossR n2 n0).scale b1) 160 := (c1.mono (by omega : 60 ≤ 80)).scale hb1
 have f2 : Sz3 ((crossR n0 n1).scale b2) 160 := (c2.mono (by omega : 60 ≤ 80)).scale hb2
 have g1 := f0.add f1
 have g2 := g1.add (f2.mono (by omega : 160 ≤ 160 + 160 + 1))
 have hd1 := fun W (hW : Below w.heap.size w W) => rdiv_any 1 (dotR n0 (crossR n1 n2)) 100 (by omega) (by omega) o1 d0 hd W (he.below hW)
 rw [canonR1] at hd1
 exact smeet_ok _ _ _ _ _ _ _ _ _ _ _ _ _ _ _ _ _ _ _ _ _ _ _ _ _ _ _ _ _ _ _ _ _ _ _ _ _ _ _ _ _ w (fun W hW => scrossR n1 n2 60 (by omega) (by omega) s1 s2 W (he.below hW)) (fun W hW => scrossR n2 n0 60 (by omega) (by omega) s2 s0 W (he.below hW)) (fun W hW => scrossR n0 n1 60 (by omega) (by omega) s0 s1 W (he.below hW))
  (fun W hW => sdotR n0 (crossR n1 n2) 60 (by omega) (by omega) s0 c0 W (he.below hW)) hd1
  (fun W hW => sscaleR (crossR n1 n2) 80 (by omega) b0 (by omega) (c0.mono (by omega)) hb0 W (he.below hW)) (fun W hW => sscaleR (crossR n2 n0) 80 (by omega) b1 (by omega) (c1.mono (by omega)) hb1 W (he.below hW)) (fun W hW => saddR _ _ 160 (by omega) (by omega) f0 f1 W (he.below hW))
  (fun W hW => sscaleR (crossR n0 n1) 80 (by omega) b2 (by omega) (c2.mono (by omega)) hb2 W (he.below hW)) (fun W hW => saddR _ _ 321 (by omega) (by omega) g1 (f2.mono (by omega)) W (he.below hW)) (fun W hW => sscaleR _ 643 (by omega) _ (by omega) g2 (hk.mono (by omega)) W (he.below hW))
end

end Go.Proofs.YtnallacamijkeaaGreatDoor

/- Loops of the law's side: right numbers, brief vectors, zeros among normals. -/
namespace Go.Proofs.YtnallacamijkeaaGreatDoor
set_option linter.all false
open Go.RowKit

def T3.long (v : T3) : Bool := decide (8 < max (max v.x.size v.y.size) v.z.size)

end Go.Proofs.YtnallacamijkeaaGreatDoor
