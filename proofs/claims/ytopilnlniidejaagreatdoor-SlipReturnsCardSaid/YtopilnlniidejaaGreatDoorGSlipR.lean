/- Package slip and the references over rational numbers. -/
import Derived.Test.YtopilnlniidejaaGreatDoorGSlipA
import Derived.Test.YtopilnlniidejaaGreatDoorGSlipP
import Derived.Test.YtopilnlniidejaaGreatDoorGSlipM
import Derived.Test.YtopilnlniidejaaGreatDoorRfD
import Derived.Test.YtopilnlniidejaaGreatDoorRfE
/- Package slip over rational numbers: errors of any texts, vectors, the place where planes meet. -/
namespace Go.Proofs.YtopilnlniidejaaGreatDoor
set_option linter.all false
open Go.RowKit

noncomputable def e2 (b : Bool) : Int := if b = true then 0 else 2
theorem first_e2 : ∀ (l : List Bool), firstE (l.map e2) = e2 (l.all id)
 | [] => rfl
 | true :: l => by
  have := first_e2 l
  unfold firstE at this ⊢
  rw [List.map_cons, show e2 true = 0 from rfl, List.find?_cons_of_neg (by decide), this]
  rfl
 | false :: l => rfl
theorem errV_one (v : T3) : errV [v] = e2 v.right := by
 unfold errV e2
 rw [List.all_cons, List.all_nil, Bool.and_true]
theorem errN_one (t : ByteArray) : errN [t] = e2 (rightQ t) := by
 unfold errN e2
 rw [List.all_cons, List.all_nil, Bool.and_true]

section
variable (w : World)
theorem sfirst2 (a b : Bool) (W : World) (k : Nat) (hb : Blk W k #[.int .i64 (e2 a), .int .i64 (e2 b)] 31) :
  Calls Tryz.prog 49 #[.slice (some ⟨k, 0, none⟩) 2 2] W fun e w' => e = .returned (.int .i64 (e2 (a && b))) ∧ Below W.heap.size W w' := by
 have h := sfirst_any [e2 a, e2 b] (by simp) W k hb
 rw [show firstE [e2 a, e2 b] = e2 (a && b) by have := first_e2 [a, b]; simpa using this] at h
 exact h
theorem sfirst4 (a b c d : Bool) (W : World) (k : Nat) (hb : Blk W k #[.int .i64 (e2 a), .int .i64 (e2 b), .int .i64 (e2 c), .int .i64 (e2 d)] 31) :
  Calls Tryz.prog 49 #[.slice (some ⟨k, 0, none⟩) 4 4] W fun e w' => e = .returned (.int .i64 (e2 (a && (b && (c && d))))) ∧ Below W.heap.size W w' := by
 have h := sfirst_any [e2 a, e2 b, e2 c, e2 d] (by simp) W k hb
 rw [show firstE [e2 a, e2 b, e2 c, e2 d] = e2 (a && (b && (c && d))) by have := first_e2 [a, b, c, d]; simpa using this] at h
 exact h
theorem sfirst5 (a b c d f : Bool) (W : World) (k : Nat) (hb : Blk W k #[.int .i64 (e2 a), .int .i64 (e2 b), .int .i64 (e2 c), .int .i64 (e2 d), .int .i64 (e2 f)] 31) :
  Calls Tryz.prog 49 #[.slice (some ⟨k, 0, none⟩) 5 5] W fun e w' => e = .returned (.int .i64 (e2 (a && (b && (c && (d && f)))))) ∧ Below W.heap.size W w' := by
 have h := sfirst_any [e2 a, e2 b, e2 c, e2 d, e2 f] (by simp) W k hb
 rw [show firstE [e2 a, e2 b, e2 c, e2 d, e2 f] = e2 (a && (b && (c && (d && f)))) by have := first_e2 [a, b, c, d, f]; simpa using this] at h
 exact h
theorem svec1 (v : T3) (hv : v.small) (W : World) (k : Nat) (he : Env W) (hb : Blk W k #[.string v.x, .string v.y, .string v.z] 24) :
  Calls Tryz.prog 62 #[.slice (some ⟨k, 0, none⟩) 1 1] W fun e w' => e = .returned (.int .i64 (e2 v.right)) ∧ Below W.heap.size W w' := by
 have h := svectors_any [v] (by simpa using hv) (by simp) W k hb he
 rw [errV_one] at h
 exact h
theorem snum1 (t : ByteArray) (ht : t.size ≤ 1000000) (W : World) (k : Nat) (he : Env W) (hb : Blk W k #[.string t] 22) :
  Calls Tryz.prog 51 #[.slice (some ⟨k, 0, none⟩) 1 1] W fun e w' => e = .returned (.int .i64 (e2 (rightQ t))) ∧ Below W.heap.size W w' := by
 have h := snumbers_any [t] (by simpa using ht) (by simp) W k hb he
 rw [errN_one] at h
 exact h
theorem splaneT (v : T3) (o : ByteArray) (hv : v.small) (ho : o.size ≤ 1000000) (he : Env w) :
  Calls Tryz.prog 50 #[.agg #[.string v.x, .string v.y, .string v.z, .string o]] w fun e w' => e = .returned (.int .i64 (e2 (v.right && rightQ o))) ∧ Below w.heap.size w w' :=
 splane_of v.x v.y v.z o _ _ _ w (fun W b hb hW => svec1 v hv W b (he.below hW) hb) (fun W b hb hW => snum1 o ho W b (he.below hW) hb) (fun W b hb _ => sfirst2 _ _ W b hb)
end

def V3.t (v : V3) : T3 := ⟨canonR v.x, canonR v.y, canonR v.z⟩
theorem V3.t_zero (v : V3) : v.t.zero = decide (v.x = 0 ∧ v.y = 0 ∧ v.z = 0) := by
 unfold T3.zero V3.t
 simp only [canonR_beq0]
 by_cases h1 : v.x = 0 <;> by_cases h2 : v.y = 0 <;> by_cases h3 : v.z = 0 <;> simp [h1, h2, h3]

theorem canonR0 : canonR 0 = ⟨#[48]⟩ := by
 rw [canonR_zero, show canon 0 = (⟨#[48]⟩ : ByteArray) from ba_of_list _ _ (by rw [← ByteArray.toList_eq]; exact eq_of_beq (canon_beq0 0))]
theorem Sz.zero (N : Nat) (h : 0 < N) : Sz 0 N := ⟨by show 0 < 10 ^ N; exact Nat.pow_pos (by omega), by show 1 < 10 ^ N; exact Nat.one_lt_pow (by omega) (by omega)⟩
theorem ssum3 (a b c : Rat) (N : Nat) (hN0 : 0 < N) (hN : N ≤ 400) (ha : Sz a N) (hb : Sz b N) (hc : Sz c N) (w : World) (k : Nat) (hk : Blk w k #[.string (canonR a), .string (canonR b), .string (canonR c)] 22) (he : Env w) :
  Calls Tryz.prog 94 #[.slice (some ⟨k, 0, none⟩) 3 3] w fun e w' => e = .returned (.string (canonR (a + b + c))) ∧ Below w.heap.size w w' := by
 have h1 := fun W (hW : Below w.heap.size w W) => radd_any 0 a N (by omega) (by omega) (Sz.zero N hN0) ha W (he.below hW)
 rw [Rat.zero_add, canonR0] at h1
 exact ssum3_of _ _ _ _ _ _ k w hk h1 (fun W hW => radd_any a b N (by omega) (by omega) ha hb W (he.below hW)) (fun W hW => radd_any (a + b) c (N + N + 1) (by omega) (by omega) (ha.add hb) (hc.mono (by omega)) W (he.below hW))

section
variable (u v : V3) (N : Nat) (hN0 : 0 < N)
include hN0
theorem sdotR (hN : N ≤ 200) (hu : Sz3 u N) (hv : Sz3 v N) (w : World) (he : Env w) :
  Calls Tryz.prog 64 #[.agg #[.string (canonR u.x), .string (canonR u.y), .string (canonR u.z)], .agg #[.string (canonR v.x), .string (canonR v.y), .string (canonR v.z)]] w fun e w' => e = .returned (.string (canonR (dotR u v))) ∧ Below w.heap.size w w' :=
 sdot_of _ _ _ _ _ _ _ _ _ _ w (fun W hW => rmul_any u.x v.x N hN0 (by omega) hu.1 hv.1 W (he.below hW)) (fun W hW => rmul_any u.y v.y N hN0 (by omega) hu.2.1 hv.2.1 W (he.below hW)) (fun W hW => rmul_any u.z v.z N hN0 (by omega) hu.2.2 hv.2.2 W (he.below hW))
  (fun W b hb hW => ssum3 (u.x * v.x) (u.y * v.y) (u.z * v.z) (N + N) (by omega) (by omega) (hu.1.mul hv.1) (hu.2.1.mul hv.2.1) (hu.2.2.mul hv.2.2) W b hb (he.below hW))
theorem sminorR (a b c d : Rat) (hN : N ≤ 400) (ha : Sz a N) (hb : Sz b N) (hc : Sz c N) (hd : Sz d N) (w : World) (he : Env w) :
  Calls Tryz.prog 110 #[.string (canonR a), .string (canonR b), .string (canonR c), .string (canonR d)] w fun e w' => e = .returned (.string (canonR (a * d - b * c))) ∧ Below w.heap.size w w' :=
 sminor_of _ _ _ _ _ _ _ w (fun W hW => rmul_any a d N hN0 (by omega) ha hd W (he.below hW)) (fun W hW => rmul_any b c N hN0 (by omega) hb hc W (he.below hW)) (fun W hW => rsub_any (a * d) (b * c) (N + N) (by omega) (by omega) (ha.mul hd) (hb.mul hc) W (he.below hW))
theorem scrossR (hN : N ≤ 400) (hu : Sz3 u N) (hv : Sz3 v N) (w : World) (he : Env w) :
  Calls Tryz.prog 77 #[.agg #[.string (canonR u.x), .string (canonR u.y), .string (canonR u.z)], .agg #[.string (canonR v.x), .string (canonR v.y), .string (canonR v.z)]] w fun e w' => e = .returned (.agg #[.string (canonR (crossR u v).x), .string (canonR (crossR u v).y), .string (canonR (crossR u v).z)]) ∧ Below w.heap.size w w' :=
 scross_of _ _ _ _ _ _ _ _ _ w (fun W hW => sminorR N hN0 u.y u.z v.y v.z hN hu.2.1 hu.2.2 hv.2.1 hv.2.2 W (he.below hW)) (fun W hW => sminorR N hN0 u.z u.x v.z v.x hN hu.2.2 hu.1 hv.2.2 hv.1 W (he.below hW)) (fun W hW => sminorR N hN0 u.x u.y v.x v.y hN hu.1 hu.2.1 hv.1 hv.2.1 W (he.below hW))
theorem saddR (hN : N ≤ 1000) (hu : Sz3 u N) (hv : Sz3 v N) (w : World) (he : Env w) :
  Calls Tryz.prog 65 #[.agg #[.string (canonR u.x), .string (canonR u.y), .string (canonR u.z)], .agg #[.string (canonR v.x), .string (canonR v.y), .string (canonR v.z)]] w fun e w' => e = .returned (.agg #[.string (canonR (u.add v).x), .string (canonR (u.add v).y), .string (canonR (u.add v).z)]) ∧ Below w.heap.size w w' :=
 sadd_of _ _ _ _ _ _ _ _ _ w (fun W hW => radd_any u.x v.x N hN0 hN hu.1 hv.1 W (he.below hW)) (fun W hW => radd_any u.y v.y N hN0 hN hu.2.1 hv.2.1 W (he.below hW)) (fun W hW => radd_any u.z v.z N hN0 hN hu.2.2 hv.2.2 W (he.below hW))
theorem sscaleR (k : Rat) (hN : N ≤ 1000) (hv : Sz3 v N) (hk : Sz k N) (w : World) (he : Env w) :
  Calls Tryz.prog 66 #[.agg #[.string (canonR v.x), .string (canonR v.y), .string (canonR v.z)], .string (canonR k)] w fun e w' => e = .returned (.agg #[.string (canonR (v.scale k).x), .string (canonR (v.scale k).y), .string (canonR (v.scale k).z)]) ∧ Below w.heap.size w w' :=
 sscale_of _ _ _ _ _ _ _ w (fun W hW => rmul_any v.x k N hN0 hN hv.1 hk W (he.below hW)) (fun W hW => rmul_any v.y k N hN0 hN hv.2.1 hk W (he.below hW)) (fun W hW => rmul_any v.z k N hN0 hN hv.2.2 hk W (he.below hW))
end

theorem Sz3.add {u v : V3} {N : Nat} (hu : Sz3 u N) (hv : Sz3 v N) : Sz3 (u.add v) (N + N + 1) := ⟨hu.1.add hv.1, hu.2.1.add hv.2.1, hu.2.2.add hv.2.2⟩
theorem canonR1 : canonR 1 = ⟨#[49]⟩ := k_1

section
variable (n0 n1 n2 : V3) (b0 b1 b2 : Rat) (hn0 : R3 n0 20 18) (hn1 : R3 n1 20 18) (hn2 : R3 n2 20 18)
include hn0 hn1 hn2
theorem smeet_dep (hd : dotR n0 (crossR n1 n2) = 0) (w : World) (he : Env w) :
  Calls Tryz.prog 54 #[.agg #[.string (canonR n0.x), .string (canonR n0.y), .string (canonR n0.z), .string (canonR n1.x), .string (canonR n1.y), .string (canonR n1.z), .string (canonR n2.x), .string (canonR n2.y), .string (canonR n2.z)], .agg #[.string (canonR b0), .string (canonR b1), .string (canonR b2)]] w
   fun e w' => e = .returned (.tuple #[.agg #[.string ⟨#[]⟩, .string ⟨#[]⟩, .string ⟨#[]⟩], .bool false]) ∧ Below w.heap.size w w' := by
 have s0 := hn0.sz (N := 60) (by omega) (by omega)
 have s1 := hn1.sz (N := 60) (by omega) (by omega)
 have s2 := hn2.sz (N := 60) (by omega) (by omega)
 have c0 := (hn1.cross hn2).sz (N := 60) (by omega) (by omega)
 have h0 := fun W (hW : Below w.heap.size w W) => sdotR n0 (crossR n1 n2) 60 (by omega) (by omega) s0 c0 W (he.below hW)
 rw [hd] at h0
 exact smeet_no _ _ _ _ _ _ _ _ _ _ _ _ _ _ _ _ _ _ _ _ _ _ w (fun W hW => scrossR n1 n2 60 (by omega) (by omega) s1 s2 W (he.below hW)) (fun W hW => scrossR n2 n0 60 (by omega) (by omega) s2 s0 W (he.below hW)) (fun W hW => scrossR n0 n1 60 (by omega) (by omega) s0 s1 W (he.below hW)) h0
  (fun W hW => by have := rdiv_zero 1 W; rw [canonR1] at this; exact this.mono fun e w' h => ⟨h.1, by rw [h.2]; exact Below.refl _ _⟩)
theorem smeet_any (hb0 : Sz b0 80) (hb1 : Sz b1 80) (hb2 : Sz b2 80) (hd : dotR n0 (crossR n1 n2) ≠ 0) (w : World) (he : Env w) :
  Calls Tryz.prog 54 #[.agg #[.string (canonR n0.x), .string (canonR n0.y), .string (canonR n0.z), .string (canonR n1.x), .string (canonR n1.y), .string (canonR n1.z), .string (canonR n2.x), .string (canonR n2.y), .string (canonR n2.z)], .agg #[.string (canonR b0), .string (canonR b1), .string (canonR b2)]] w
   fun e w' => e = .returned (.tuple #[.agg #[.string (canonR (meetR n0 n1 n2 b0 b1 b2).x), .string (canonR (meetR n0 n1 n2 b0 b1 b2).y), .string (canonR (meetR n0 n1 n2 b0 b1 b2).z)], .bool true]) ∧ Below w.heap.size w w' := by
 have s0 := hn0.sz (N := 60) (by omega) (by omega)
 have s1 := hn1.sz (N := 60) (by omega) (by omega)
 have s2 := hn2.sz (N := 60) (by omega) (by omega)
 have c0 := (hn1.cross hn2).sz (N := 60) (by omega) (by omega)
 have c1 := (hn2.cross hn0).sz (N := 60) (by omega) (by omega)
 have c2 := (hn0.cross hn1).sz (N := 60) (by omega) (by omega)
 have d0 : Sz (dotR n0 (crossR n1 n2)) 100 := (hn0.dot (hn1.cross hn2)).sz (by omega) (by omega)
 have o1 : Sz 1 100 := ⟨by show 1 < 10 ^ 100; exact Nat.one_lt_pow (by omega) (by omega), by show 1 < 10 ^ 100; exact Nat.one_lt_pow (by omega) (by omega)⟩
 have hk : Sz (1 / dotR n0 (crossR n1 n2)) 200 := o1.div d0 hd
 have f0 : Sz3 ((crossR n1 n2).scale b0) 160 := (c0.mono (by omega : 60 ≤ 80)).scale hb0
 have f1 : Sz3 ((crossR n2 n0).scale b1) 160 := (c1.mono (by omega : 60 ≤ 80)).scale hb1
 have f2 : Sz3 ((crossR n0 n1).scale b2) 160 := (c2.mono (by omega : 60 ≤ 80)).scale hb2
 have g1 := f0.add f1
 have g2 := g1.add (f2.mono (by omega : 160 ≤ 160 + 160 + 1))
 have hd1 := fun W (hW : Below w.heap.size w W) => rdiv_any 1 (dotR n0 (crossR n1 n2)) 100 (by omega) (by omega) o1 d0 hd W (he.below hW)
 rw [canonR1] at hd1
 exact smeet_ok _ _ _ _ _ _ _ _ _ _ _ _ _ _ _ _ _ _ _ _ _ _ _ _ _ _ _ _ _ _ _ _ _ _ _ _ _ _ _ _ _ w (fun W hW => scrossR n1 n2 60 (by omega) (by omega) s1 s2 W (he.below hW)) (fun W hW => scrossR n2 n0 60 (by omega) (by omega) s2 s0 W (he.below hW)) (fun W hW => scrossR n0 n1 60 (by omega) (by omega) s0 s1 W (he.below hW))
  (fun W hW => sdotR n0 (crossR n1 n2) 60 (by omega) (by omega) s0 c0 W (he.below hW)) hd1
  (fun W hW => sscaleR (crossR n1 n2) 80 (by omega) b0 (by omega) (c0.mono (by omega)) hb0 W (he.below hW)) (fun W hW => sscaleR (crossR n2 n0) 80 (by omega) b1 (by omega) (c1.mono (by omega)) hb1 W (he.below hW)) (fun W hW => saddR _ _ 160 (by omega) (by omega) f0 f1 W (he.below hW))
  (fun W hW => sscaleR (crossR n0 n1) 80 (by omega) b2 (by omega) (c2.mono (by omega)) hb2 W (he.below hW)) (fun W hW => saddR _ _ 321 (by omega) (by omega) g1 (f2.mono (by omega)) W (he.below hW)) (fun W hW => sscaleR _ 643 (by omega) _ (by omega) g2 (hk.mono (by omega)) W (he.below hW))
end

end Go.Proofs.YtopilnlniidejaaGreatDoor

/- The references' vectors over rational numbers. -/
namespace Go.Proofs.YtopilnlniidejaaGreatDoor
set_option linter.all false
open Go.RowKit

section
variable (u v : V3) (N : Nat) (hN0 : 0 < N)
include hN0
theorem rdot6R (hN : N ≤ 240) (hu : Sz3 u N) (hv : Sz3 v N) (w : World) (b c : Nat) (hb : Blk w b #[.string (canonR u.x), .string (canonR u.y), .string (canonR u.z)] 22) (hc : Blk w c #[.string (canonR v.x), .string (canonR v.y), .string (canonR v.z)] 22) (he : Env w) :
  Calls Tryz.prog 89 #[.slice (some ⟨b, 0, none⟩) 3 3, .slice (some ⟨c, 0, none⟩) 3 3] w fun e w' => e = .returned (.string (canonR (dotR u v))) ∧ Below w.heap.size w w' := by
 have p1 := hu.1.mul hv.1
 have p2 := hu.2.1.mul hv.2.1
 have p3 := hu.2.2.mul hv.2.2
 have h1 := fun W (hW : Below w.heap.size w W) => raddR_any 0 (u.x * v.x) (N + N) (by omega) (by omega) (Sz.zero _ (by omega)) p1 W (he.below hW)
 rw [Rat.zero_add, canonR0] at h1
 exact rdot6_of _ _ _ _ _ _ _ _ _ _ _ _ b c w hb hc (fun W hW => rmulR_any u.x v.x N hN0 (by omega) hu.1 hv.1 W (he.below hW)) (fun W hW => rmulR_any u.y v.y N hN0 (by omega) hu.2.1 hv.2.1 W (he.below hW)) (fun W hW => rmulR_any u.z v.z N hN0 (by omega) hu.2.2 hv.2.2 W (he.below hW))
  h1 (fun W hW => raddR_any (u.x * v.x) (u.y * v.y) (N + N) (by omega) (by omega) p1 p2 W (he.below hW)) (fun W hW => raddR_any (u.x * v.x + u.y * v.y) (u.z * v.z) (N + N + (N + N) + 1) (by omega) (by omega) (p1.add p2) (p3.mono (by omega)) W (he.below hW))
theorem rdotR (hN : N ≤ 240) (hu : Sz3 u N) (hv : Sz3 v N) (w : World) (he : Env w) :
  Calls Tryz.prog 58 #[.agg #[.string (canonR u.x), .string (canonR u.y), .string (canonR u.z)], .agg #[.string (canonR v.x), .string (canonR v.y), .string (canonR v.z)]] w fun e w' => e = .returned (.string (canonR (dotR u v))) ∧ Below w.heap.size w w' :=
 rdot_of _ _ _ _ _ _ _ w (fun W _ => rlist_of _ _ _ W) (fun W _ => rlist_of _ _ _ W) (fun W b c hb hc hW => rdot6R u v N hN0 hN hu hv W b c hb hc (he.below hW))
theorem ldotR (hN : N ≤ 240) (hu : Sz3 u N) (hv : Sz3 v N) (w : World) (he : Env w) :
  Calls Tryz.prog 17 #[.agg #[.string (canonR u.x), .string (canonR u.y), .string (canonR u.z)], .agg #[.string (canonR v.x), .string (canonR v.y), .string (canonR v.z)]] w fun e w' => e = .returned (.string (canonR (dotR u v))) ∧ Below w.heap.size w w' :=
 ldot42_of _ _ _ _ _ _ _ w (fun W hW => rdotR u v N hN0 hN hu hv W (he.below hW))
theorem rminorR (a b c d : Rat) (hN : N ≤ 400) (ha : Sz a N) (hb : Sz b N) (hc : Sz c N) (hd : Sz d N) (w : World) (he : Env w) :
  Calls Tryz.prog 59 #[.string (canonR a), .string (canonR b), .string (canonR c), .string (canonR d)] w fun e w' => e = .returned (.string (canonR (a * d - b * c))) ∧ Below w.heap.size w w' :=
 rminor_of _ _ _ _ _ _ _ w (fun W hW => rmulR_any a d N hN0 (by omega) ha hd W (he.below hW)) (fun W hW => rmulR_any b c N hN0 (by omega) hb hc W (he.below hW)) (fun W hW => rsubR_any (a * d) (b * c) (N + N) (by omega) (by omega) (ha.mul hd) (hb.mul hc) W (he.below hW))
theorem rcrossR (hN : N ≤ 400) (hu : Sz3 u N) (hv : Sz3 v N) (w : World) (he : Env w) :
  Calls Tryz.prog 18 #[.agg #[.string (canonR u.x), .string (canonR u.y), .string (canonR u.z)], .agg #[.string (canonR v.x), .string (canonR v.y), .string (canonR v.z)]] w fun e w' => e = .returned (.agg #[.string (canonR (crossR u v).x), .string (canonR (crossR u v).y), .string (canonR (crossR u v).z)]) ∧ Below w.heap.size w w' :=
 rcross_of _ _ _ _ _ _ _ _ _ w (fun W hW => rminorR N hN0 u.y u.z v.y v.z hN hu.2.1 hu.2.2 hv.2.1 hv.2.2 W (he.below hW)) (fun W hW => rminorR N hN0 u.z u.x v.z v.x hN hu.2.2 hu.1 hv.2.2 hv.1 W (he.below hW)) (fun W hW => rminorR N hN0 u.x u.y v.x v.y hN hu.1 hu.2.1 hv.1 hv.2.1 W (he.below hW))
theorem radd3R (hN : N ≤ 1000) (hu : Sz3 u N) (hv : Sz3 v N) (w : World) (he : Env w) :
  Calls Tryz.prog 23 #[.agg #[.string (canonR u.x), .string (canonR u.y), .string (canonR u.z)], .agg #[.string (canonR v.x), .string (canonR v.y), .string (canonR v.z)]] w fun e w' => e = .returned (.agg #[.string (canonR (u.add v).x), .string (canonR (u.add v).y), .string (canonR (u.add v).z)]) ∧ Below w.heap.size w w' :=
 radd3_of _ _ _ _ _ _ _ _ _ w (fun W hW => raddR_any u.x v.x N hN0 hN hu.1 hv.1 W (he.below hW)) (fun W hW => raddR_any u.y v.y N hN0 hN hu.2.1 hv.2.1 W (he.below hW)) (fun W hW => raddR_any u.z v.z N hN0 hN hu.2.2 hv.2.2 W (he.below hW))
theorem rscale3R (k : Rat) (hN : N ≤ 1000) (hv : Sz3 v N) (hk : Sz k N) (w : World) (he : Env w) :
  Calls Tryz.prog 24 #[.agg #[.string (canonR v.x), .string (canonR v.y), .string (canonR v.z)], .string (canonR k)] w fun e w' => e = .returned (.agg #[.string (canonR (v.scale k).x), .string (canonR (v.scale k).y), .string (canonR (v.scale k).z)]) ∧ Below w.heap.size w w' :=
 rscale3_of _ _ _ _ _ _ _ w (fun W hW => rmulR_any v.x k N hN0 hN hv.1 hk W (he.below hW)) (fun W hW => rmulR_any v.y k N hN0 hN hv.2.1 hk W (he.below hW)) (fun W hW => rmulR_any v.z k N hN0 hN hv.2.2 hk W (he.below hW))
end

end Go.Proofs.YtopilnlniidejaaGreatDoor

/- Loops of the law's side: right numbers, brief vectors, zeros among normals. -/
namespace Go.Proofs.YtopilnlniidejaaGreatDoor
set_option linter.all false
open Go.RowKit

set_option maxRecDepth 100000 in
set_option maxHeartbeats 4000000 in
theorem rnumbers_any (ts : List ByteArray) (hs : ∀ t ∈ ts, t.size ≤ 1000000) (hl : ts.length ≤ 100) (w : World) (b : Nat) (hb : Blk w b (ts.map Value.string).toArray 22) (he : Env w) :
  Calls Tryz.prog 39 #[.slice (some ⟨b, 0, none⟩) ts.length ts.length] w fun e w' => e = .returned (.bool (ts.all rightQ)) ∧ Below w.heap.size w w' := by
 have ck := fun (k : Nat) (hk : k < ts.length) W (hW : Below w.heap.size w W) => rightR_any ts[k] W (he.below hW).1 (hs _ (List.getElem_mem hk))
 have CK := Lib.hid ck
 have HB := Lib.hid hb
 clear ck hb he
 go_enter Tryz.func39, Tryz.ntmps39
 go_wp2
 go_loopw [3] (fun i wr => ∃ k : Nat, k ≤ ts.length ∧ i = .int .i64 k ∧ (ts.take k).all rightQ = true ∧ Below w.heap.size w wr) (fun i _ => ts.length - (intOf i).toNat)
 case atStart => exact ⟨0, Nat.zero_le _, rfl, rfl, Below.refl _ _⟩
 case round =>
  obtain ⟨k, hk, rfl, hall, hB⟩ := hrel
  have B := Lib.hid hB
  have HALL := Lib.hid hall
  clear hB hall
  by_cases hlt : k < ts.length
  ·have c := cell_of_map (HB.out.below B.out) k hlt
   have hr := CK.out k hlt
   have hsucc := all_take_succ rightQ ts k hlt
   cases hq : rightQ ts[k] with
   | true =>
    rw [hq] at hr
    rw [hq, HALL.out] at hsucc
    have HS := Lib.hid hsucc
    generalize ts[k] = t at *
    have HR := Lib.hid hr
    clear hr hq hsucc
    go_wp2_with (go_at_call 83; with_reducible refine (HR.out _ B.out).mono ?_; rintro e wx ⟨rfl, q⟩; replace B := Lib.hid (B.out.trans (q.mono B.out.size)); clear q)
    go_roundw
    case rel => exact ⟨k + 1, by omega, by go_num, HS.out, B.out⟩
    case measure => simp [intOf]; omega
   | false =>
    have hno := all_at rightQ ts k hlt hq
    rw [hq] at hr
    have HN := Lib.hid hno
    generalize ts[k] = t at *
    have HR := Lib.hid hr
    clear hr hq hsucc hno
    go_wp2_with (go_at_call 83; with_reducible refine (HR.out _ B.out).mono ?_; rintro e wx ⟨rfl, q⟩; replace B := Lib.hid (B.out.trans (q.mono B.out.size)); clear q)
    go_ret
    exact ⟨ret_b HN.out.symm, B.out⟩
  ·have hk' : k = ts.length := by omega
   have hall : ts.all rightQ = true := by have := HALL.out; rwa [hk', List.take_length] at this
   have HA := Lib.hid hall
   clear hall hk'
   go_wp2
   go_ret
   exact ⟨ret_b HA.out.symm, B.out⟩

theorem rright3_any (v : T3) (hs : v.small) (w : World) (he : Env w) :
  Calls Tryz.prog 19 #[.agg #[.string v.x, .string v.y, .string v.z]] w fun e w' => e = .returned (.bool v.right) ∧ Below w.heap.size w w' := by
 have e1 : [v.x, v.y, v.z].all rightQ = v.right := by simp [T3.right]
 refine rright_of v.x v.y v.z v.right w (fun W _ => rlist_of _ _ _ W) (fun W b hb hW => ?_)
 have := rnumbers_any [v.x, v.y, v.z] (fun t ht => by simp at ht; rcases ht with rfl | rfl | rfl; exact hs.1; exact hs.2.1; exact hs.2.2) (by simp) W b hb (he.below hW)
 rw [e1] at this
 exact this
theorem notright_any (v : T3) (hs : v.small) (w : World) (he : Env w) :
  Calls Tryz.prog 56 #[.agg #[.string v.x, .string v.y, .string v.z]] w fun e w' => e = .returned (.bool (!v.right)) ∧ Below w.heap.size w w' := by
 have hr := fun W (hW : Below w.heap.size w W) => rright3_any v hs W (he.below hW)
 generalize v.right = r at *
 generalize v.x = X at *
 generalize v.y = Y at *
 generalize v.z = Z at *
 have HR := Lib.hid hr
 clear hr he hs
 have B := Lib.hid (below_new w (Obj.cells #[.string X, .string Y, .string Z] 24))
 go_enter Tryz.func56, Tryz.ntmps56
 cases r with
 | true =>
  go_wp2_with (go_at_call 19; with_reducible refine (HR.out _ B.out).mono ?_; rintro e wx ⟨rfl, q⟩; replace B := Lib.hid (B.out.trans (q.mono B.out.size)); clear q)
  go_ret
  exact ⟨rfl, B.out⟩
 | false =>
  go_wp2_with (go_at_call 19; with_reducible refine (HR.out _ B.out).mono ?_; rintro e wx ⟨rfl, q⟩; replace B := Lib.hid (B.out.trans (q.mono B.out.size)); clear q)
  go_ret
  exact ⟨rfl, B.out⟩
theorem rzero_any (v : T3) (w : World) : Calls Tryz.prog 16 #[.agg #[.string v.x, .string v.y, .string v.z]] w fun e w' => e = .returned (.bool v.zero) ∧ Below w.heap.size w w' := by
 unfold T3.zero
 cases h1 : (v.x.toList == [48]) with
 | false => exact rzero_x v.x v.y v.z w h1
 | true =>
  cases h2 : (v.y.toList == [48]) with
  | false => exact rzero_y v.x v.y v.z w h1 h2
  | true =>
   cases h3 : (v.z.toList == [48]) with
   | false => exact rzero_z v.x v.y v.z w h1 h2 h3
   | true => exact rzero_t v.x v.y v.z w h1 h2 h3
def T3.long (v : T3) : Bool := decide (8 < max (max v.x.size v.y.size) v.z.size)
set_option maxRecDepth 100000 in
set_option maxHeartbeats 4000000 in
theorem islong_any (v : T3) (w : World) :
  Calls Tryz.prog 48 #[.agg #[.string v.x, .string v.y, .string v.z]] w fun e w' => e = .returned (.bool v.long) ∧ Below w.heap.size w w' := by
 unfold T3.long
 generalize v.x = X at *
 generalize v.y = Y at *
 generalize v.z = Z at *
 have B := Lib.hid (below_new w (Obj.cells #[.string X, .string Y, .string Z] 24))
 go_enter Tryz.func48, Tryz.ntmps48
 go_wp2
 all_goals
  go_ret
  exact ⟨ret_b (by rw [decide_eq_decide]; omega), B.out⟩

set_option maxRecDepth 100000 in
set_option maxHeartbeats 4000000 in
theorem index_notright (vs : List T3) (p : T3 → Bool) (hl : vs.length ≤ 100) (w : World) (b : Nat) (hb : Blk w b (flat3 vs) 24)
  (hp : ∀ v ∈ vs, ∀ W, Below w.heap.size w W → Calls Tryz.prog 56 #[.agg #[.string v.x, .string v.y, .string v.z]] W fun e w' => e = .returned (.bool (p v)) ∧ Below W.heap.size W w') :
  Calls Tryz.prog 57 #[.slice (some ⟨b, 0, none⟩) vs.length vs.length, .func (.func 56) #[] #[]] w fun e w' =>
   (∃ r : Int, e = .returned (.int .i64 r) ∧ -1 ≤ r ∧ r ≤ 100 ∧ (decide (0 ≤ r) = vs.any p)) ∧ Below w.heap.size w w' := by
 have ck := fun (k : Nat) (hk : k < vs.length) W (hW : Below w.heap.size w W) => hp vs[k] (List.getElem_mem hk) W hW
 have CK := Lib.hid ck
 have HB := Lib.hid hb
 clear hb hp ck
 go_enter Tryz.func57, Tryz.ntmps57
 go_wp2
 go_loopw [8] (fun i wr => ∃ k : Nat, k ≤ vs.length ∧ i = .int .i64 k ∧ (vs.take k).all (fun v => !p v) = true ∧ Below w.heap.size w wr) (fun i _ => vs.length - (intOf i).toNat)
 case atStart => exact ⟨0, Nat.zero_le _, rfl, rfl, Below.refl _ _⟩
 case round =>
  obtain ⟨k, hk, rfl, hall, hB⟩ := hrel
  have B := Lib.hid hB
  have HALL := Lib.hid hall
  clear hB hall
  by_cases hlt : k < vs.length
  ·obtain ⟨c0, c1, c2⟩ := cells3 (HB.out.below B.out) k hlt
   have hr := CK.out k hlt
   have hsucc := all_take_succ (fun v => !p v) vs k hlt
   cases hq : p vs[k] with
   | false =>
    rw [hq] at hr
    rw [hq, HALL.out] at hsucc
    have HS := Lib.hid hsucc
    generalize vs[k].x = X at *
    generalize vs[k].y = Y at *
    generalize vs[k].z = Z at *
    have HR := Lib.hid hr
    clear hr hq hsucc
    go_wp2_with (go_at_call 56; with_reducible refine (HR.out _ B.out).mono ?_; rintro e wx ⟨rfl, q⟩; replace B := Lib.hid (B.out.trans (q.mono B.out.size)); clear q)
    go_roundw
    case rel => exact ⟨k + 1, by omega, by go_num, HS.out, B.out⟩
    case measure => simp [intOf]; omega
   | true =>
    have hany : vs.any p = true := List.any_eq_true.2 ⟨_, List.getElem_mem hlt, hq⟩
    rw [hq] at hr
    have HY := Lib.hid hany
    generalize vs[k].x = X at *
    generalize vs[k].y = Y at *
    generalize vs[k].z = Z at *
    have HR := Lib.hid hr
    clear hr hq hsucc hany
    go_wp2_with (go_at_call 56; with_reducible refine (HR.out _ B.out).mono ?_; rintro e wx ⟨rfl, q⟩; replace B := Lib.hid (B.out.trans (q.mono B.out.size)); clear q)
    go_ret
    exact ⟨⟨_, rfl, by omega, by omega, by rw [HY.out]; exact decide_eq_true (by omega)⟩, B.out⟩
  ·have hk' : k = vs.length := by omega
   have hno : vs.any p = false := by
    have := HALL.out
    rw [hk', List.take_length, List.all_eq_true] at this
    rw [List.any_eq_false]
    intro x hx
    have := this x hx
    simpa using this
   have HN := Lib.hid hno
   clear hno hk'
   go_wp2
   go_ret
   exact ⟨⟨_, rfl, by omega, by omega, by rw [HN.out]; rfl⟩, B.out⟩

set_option maxRecDepth 100000 in
set_option maxHeartbeats 4000000 in
theorem contains_notright (vs : List T3) (p : T3 → Bool) (hl : vs.length ≤ 100) (w : World) (b : Nat) (hb : Blk w b (flat3 vs) 24)
  (hp : ∀ v ∈ vs, ∀ W, Below w.heap.size w W → Calls Tryz.prog 56 #[.agg #[.string v.x, .string v.y, .string v.z]] W fun e w' => e = .returned (.bool (p v)) ∧ Below W.heap.size W w') :
  Calls Tryz.prog 15 #[.slice (some ⟨b, 0, none⟩) vs.length vs.length, .func (.func 56) #[] #[]] w fun e w' => e = .returned (.bool (vs.any p)) ∧ Below w.heap.size w w' := by
 have HI := Lib.hid (index_notright vs p hl w b hb hp)
 clear hb hp
 go_enter Tryz.func15, Tryz.ntmps15
 go_wp2_with (go_at_call 57; with_reducible refine HI.out.mono ?_; rintro e wx ⟨⟨r, rfl, hr1, hr2, hr3⟩, q⟩; have HR := Lib.hid hr3; have B := Lib.hid q; clear hr3 q)
 go_ret
 exact ⟨ret_b HR.out, B.out⟩

set_option maxRecDepth 100000 in
set_option maxHeartbeats 4000000 in
theorem index_islong (vs : List T3) (p : T3 → Bool) (hl : vs.length ≤ 100) (w : World) (b : Nat) (hb : Blk w b (flat3 vs) 24)
  (hp : ∀ v ∈ vs, ∀ W, Below w.heap.size w W → Calls Tryz.prog 48 #[.agg #[.string v.x, .string v.y, .string v.z]] W fun e w' => e = .returned (.bool (p v)) ∧ Below W.heap.size W w') :
  Calls Tryz.prog 57 #[.slice (some ⟨b, 0, none⟩) vs.length vs.length, .func (.func 48) #[] #[]] w fun e w' =>
   (∃ r : Int, e = .returned (.int .i64 r) ∧ -1 ≤ r ∧ r ≤ 100 ∧ (decide (0 ≤ r) = vs.any p)) ∧ Below w.heap.size w w' := by
 have ck := fun (k : Nat) (hk : k < vs.length) W (hW : Below w.heap.size w W) => hp vs[k] (List.getElem_mem hk) W hW
 have CK := Lib.hid ck
 have HB := Lib.hid hb
 clear hb hp ck
 go_enter Tryz.func57, Tryz.ntmps57
 go_wp2
 go_loopw [8] (fun i wr => ∃ k : Nat, k ≤ vs.length ∧ i = .int .i64 k ∧ (vs.take k).all (fun v => !p v) = true ∧ Below w.heap.size w wr) (fun i _ => vs.length - (intOf i).toNat)
 case atStart => exact ⟨0, Nat.zero_le _, rfl, rfl, Below.refl _ _⟩
 case round =>
  obtain ⟨k, hk, rfl, hall, hB⟩ := hrel
  have B := Lib.hid hB
  have HALL := Lib.hid hall
  clear hB hall
  by_cases hlt : k < vs.length
  ·obtain ⟨c0, c1, c2⟩ := cells3 (HB.out.below B.out) k hlt
   have hr := CK.out k hlt
   have hsucc := all_take_succ (fun v => !p v) vs k hlt
   cases hq : p vs[k] with
   | false =>
    rw [hq] at hr
    rw [hq, HALL.out] at hsucc
    have HS := Lib.hid hsucc
    generalize vs[k].x = X at *
    generalize vs[k].y = Y at *
    generalize vs[k].z = Z at *
    have HR := Lib.hid hr
    clear hr hq hsucc
    go_wp2_with (go_at_call 48; with_reducible refine (HR.out _ B.out).mono ?_; rintro e wx ⟨rfl, q⟩; replace B := Lib.hid (B.out.trans (q.mono B.out.size)); clear q)
    go_roundw
    case rel => exact ⟨k + 1, by omega, by go_num, HS.out, B.out⟩
    case measure => simp [intOf]; omega
   | true =>
    have hany : vs.any p = true := List.any_eq_true.2 ⟨_, List.getElem_mem hlt, hq⟩
    rw [hq] at hr
    have HY := Lib.hid hany
    generalize vs[k].x = X at *
    generalize vs[k].y = Y at *
    generalize vs[k].z = Z at *
    have HR := Lib.hid hr
    clear hr hq hsucc hany
    go_wp2_with (go_at_call 48; with_reducible refine (HR.out _ B.out).mono ?_; rintro e wx ⟨rfl, q⟩; replace B := Lib.hid (B.out.trans (q.mono B.out.size)); clear q)
    go_ret
    exact ⟨⟨_, rfl, by omega, by omega, by rw [HY.out]; exact decide_eq_true (by omega)⟩, B.out⟩
  ·have hk' : k = vs.length := by omega
   have hno : vs.any p = false := by
    have := HALL.out
    rw [hk', List.take_length, List.all_eq_true] at this
    rw [List.any_eq_false]
    intro x hx
    have := this x hx
    simpa using this
   have HN := Lib.hid hno
   clear hno hk'
   go_wp2
   go_ret
   exact ⟨⟨_, rfl, by omega, by omega, by rw [HN.out]; rfl⟩, B.out⟩

set_option maxRecDepth 100000 in
set_option maxHeartbeats 4000000 in
theorem contains_islong (vs : List T3) (p : T3 → Bool) (hl : vs.length ≤ 100) (w : World) (b : Nat) (hb : Blk w b (flat3 vs) 24)
  (hp : ∀ v ∈ vs, ∀ W, Below w.heap.size w W → Calls Tryz.prog 48 #[.agg #[.string v.x, .string v.y, .string v.z]] W fun e w' => e = .returned (.bool (p v)) ∧ Below W.heap.size W w') :
  Calls Tryz.prog 15 #[.slice (some ⟨b, 0, none⟩) vs.length vs.length, .func (.func 48) #[] #[]] w fun e w' => e = .returned (.bool (vs.any p)) ∧ Below w.heap.size w w' := by
 have HI := Lib.hid (index_islong vs p hl w b hb hp)
 clear hb hp
 go_enter Tryz.func15, Tryz.ntmps15
 go_wp2_with (go_at_call 57; with_reducible refine HI.out.mono ?_; rintro e wx ⟨⟨r, rfl, hr1, hr2, hr3⟩, q⟩; have HR := Lib.hid hr3; have B := Lib.hid q; clear hr3 q)
 go_ret
 exact ⟨ret_b HR.out, B.out⟩

set_option maxRecDepth 100000 in
set_option maxHeartbeats 4000000 in
theorem lnumbers_any (vs : List T3) (ts : List ByteArray) (hv : ∀ v ∈ vs, v.small) (hs : ∀ t ∈ ts, t.size ≤ 1000000) (hl : ts.length ≤ 100) (hl' : vs.length ≤ 100) (w : World) (b c : Nat) (hb : Blk w b (flat3 vs) 24) (hc : Blk w c (ts.map Value.string).toArray 22) (he : Env w) :
  Calls Tryz.prog 14 #[.slice (some ⟨b, 0, none⟩) vs.length vs.length, .slice (some ⟨c, 0, none⟩) ts.length ts.length] w fun e w' => e = .returned (.bool (ts.all rightQ && vs.all T3.right)) ∧ Below w.heap.size w w' := by
 have h1 := rnumbers_any ts hs hl w c hc he
 have h2 := fun W (hW : Below w.heap.size w W) => contains_notright vs (fun v => !v.right) hl' W b (hb.below hW) (fun v hm U hU => notright_any v (hv v hm) U ((he.below hW).below hU))
 have e2 : vs.any (fun v => !v.right) = !vs.all T3.right := by rw [List.not_all_eq_any_not]
 simp only [e2] at h2
 generalize vs.all T3.right = r at *
 have H2 := Lib.hid h2
 cases hq : ts.all rightQ with
 | false =>
  rw [hq] at h1
  have H1 := Lib.hid h1
  clear h1 h2 hq hb hc e2
  go_enter Tryz.func14, Tryz.ntmps14
  go_wp2_with (go_at_call 39; with_reducible refine H1.out.mono ?_; rintro e wx ⟨rfl, q⟩; have B := Lib.hid q; clear q)
  go_ret
  exact ⟨rfl, B.out⟩
 | true =>
  rw [hq] at h1
  have H1 := Lib.hid h1
  clear h1 h2 hq hb hc e2
  cases r with
  | true =>
   go_enter Tryz.func14, Tryz.ntmps14
   go_wp2_with (first
    | (go_at_call 39; with_reducible refine H1.out.mono ?_; rintro e wx ⟨rfl, q⟩; have B := Lib.hid q; clear q)
    | (go_at_call 15; with_reducible refine (H2.out _ B.out).mono ?_; rintro e wx ⟨rfl, q⟩; replace B := Lib.hid (B.out.trans (q.mono B.out.size)); clear q)
    | fail "arm")
   go_ret
   exact ⟨rfl, B.out⟩
  | false =>
   go_enter Tryz.func14, Tryz.ntmps14
   go_wp2_with (first
    | (go_at_call 39; with_reducible refine H1.out.mono ?_; rintro e wx ⟨rfl, q⟩; have B := Lib.hid q; clear q)
    | (go_at_call 15; with_reducible refine (H2.out _ B.out).mono ?_; rintro e wx ⟨rfl, q⟩; replace B := Lib.hid (B.out.trans (q.mono B.out.size)); clear q)
    | fail "arm")
   go_ret
   exact ⟨rfl, B.out⟩

set_option maxRecDepth 100000 in
set_option maxHeartbeats 4000000 in
theorem lbrief_any (vs : List T3) (hl : vs.length ≤ 100) (w : World) (b : Nat) (hb : Blk w b (flat3 vs) 24) :
  Calls Tryz.prog 12 #[.slice (some ⟨b, 0, none⟩) vs.length vs.length] w fun e w' => e = .returned (.bool (vs.all fun v => !v.long)) ∧ Below w.heap.size w w' := by
 have h := contains_islong vs T3.long hl w b hb (fun v _ W _ => islong_any v W)
 have e2 : (vs.all fun v => !v.long) = !vs.any T3.long := by rw [List.not_any_eq_all_not]
 rw [e2]
 generalize vs.any T3.long = r at *
 have H := Lib.hid h
 clear h hb e2
 cases r with
 | true =>
  go_enter Tryz.func12, Tryz.ntmps12
  go_wp2_with (go_at_call 15; with_reducible refine H.out.mono ?_; rintro e wx ⟨rfl, q⟩; have B := Lib.hid q; clear q)
  go_ret
  exact ⟨rfl, B.out⟩
 | false =>
  go_enter Tryz.func12, Tryz.ntmps12
  go_wp2_with (go_at_call 15; with_reducible refine H.out.mono ?_; rintro e wx ⟨rfl, q⟩; have B := Lib.hid q; clear q)
  go_ret
  exact ⟨rfl, B.out⟩

end Go.Proofs.YtopilnlniidejaaGreatDoor
