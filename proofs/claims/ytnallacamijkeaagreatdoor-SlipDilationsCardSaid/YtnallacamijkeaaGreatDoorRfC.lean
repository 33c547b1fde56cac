/- The walks of klipperef02.Parts, at any text and at a number; of Add and Mul. -/
import Derived.Test.YtnallacamijkeaaGreatDoorRfA
import Derived.Test.YtnallacamijkeaaGreatDoorRfB
import Derived.Test.YtnallacamijkeaaGreatDoorShelf
import Derived.Lib.IndexLaws
namespace Go.Proofs.YtnallacamijkeaaGreatDoor
set_option linter.all false
open Go.RowKit

theorem ib_none : ∀ l : List UInt8, (∀ c ∈ l, c ≠ 47) → Lib.indexByte l 47 = -1 := by
 intro l
 induction l with
 | nil => intro _; rfl
 | cons c l ih =>
  intro h
  have hc : c ≠ 47 := h c (List.mem_cons_self ..)
  have ih' := ih (fun z hz => h z (List.mem_cons_of_mem _ hz))
  have hb : (c == 47) = false := beq_eq_false_iff_ne.2 hc
  unfold Lib.indexByte
  rw [hb, ih']
  rfl

theorem ib_at : ∀ (a b : List UInt8), (∀ c ∈ a, c ≠ 47) → Lib.indexByte (a ++ 47 :: b) 47 = a.length := by
 intro a b
 induction a with
 | nil => intro _; simp [Lib.indexByte]
 | cons c a ih =>
  intro h
  have hc : c ≠ 47 := h c (List.mem_cons_self ..)
  have ih' := ih (fun z hz => h z (List.mem_cons_of_mem _ hz))
  have hb : (c == 47) = false := beq_eq_false_iff_ne.2 hc
  have hn : (((a.length : Nat) : Int) == -1) = false := by rw [beq_eq_false_iff_ne]; omega
  rw [List.cons_append]
  unfold Lib.indexByte
  rw [hb, ih', hn]
  simp

theorem split47 (l : List UInt8) : (∀ c ∈ l, c ≠ 47) ∨ ∃ a b, l = a ++ 47 :: b ∧ ∀ c ∈ a, c ≠ 47 := by
 induction l with
 | nil => exact .inl (fun c h => by simp at h)
 | cons c l ih =>
  by_cases hc : c = 47
  ·exact .inr ⟨[], l, by rw [hc]; rfl, fun c h => by simp at h⟩
  ·rcases ih with h | ⟨a, b, h1, h2⟩
   ·refine .inl (fun z hz => ?_)
    rcases List.mem_cons.1 hz with rfl | hz
    ·exact hc
    ·exact h z hz
   ·refine .inr ⟨c :: a, b, by rw [h1]; rfl, fun z hz => ?_⟩
    rcases List.mem_cons.1 hz with rfl | hz
    ·exact hc
    ·exact h2 z hz

theorem ba_of_list (s : ByteArray) (l : List UInt8) (h : s.data.toList = l) : s = ⟨l.toArray⟩ := by
 subst h
 rfl

theorem k47 : (47 : Int).toNat.toUInt8 = 47 := by decide

theorem partsR_none (T : ByteArray) (w : World) (h : ∀ c ∈ T.data.toList, c ≠ 47) :
  Calls Tryz.prog 32 #[.string T] w fun e w' => e = .returned (.tuple #[.string T, .string (canon 1)]) ∧ Drew w w' := by
 have hi := fun W => Tryz.strings_IndexByte T 47 W
 rw [k47, ib_none _ h] at hi
 rw [k_1]
 have HI := Lib.hid hi
 clear hi h
 go_enter Tryz.func32, Tryz.ntmps32
 go_wp2_with (first
  | (go_at_call 66; (with_reducible refine (HI.out _).mono ?_); rintro e w1 ⟨rfl, rfl⟩)
  | fail "arm")
 go_ret2
 exact ⟨rfl, Drew.refl _⟩

set_option maxHeartbeats 1000000 in
theorem partsR_some (T : ByteArray) (a b : List UInt8) (w : World) (h : T.data.toList = a ++ 47 :: b) (ha : ∀ c ∈ a, c ≠ 47) (hs : T.size ≤ 1000000) :
  Calls Tryz.prog 32 #[.string T] w fun e w' => e = .returned (.tuple #[.string ⟨a.toArray⟩, .string ⟨b.toArray⟩]) ∧ Drew w w' := by
 have hi := fun W => Tryz.strings_IndexByte T 47 W
 rw [k47, h, ib_at _ _ ha] at hi
 have hlen : T.size = a.length + (1 + b.length) := by
  rw [Lib.size_eq, h, List.length_append, List.length_cons]; omega
 have e1 : T.extract 0 a.length = ⟨a.toArray⟩ := by
  refine ba_of_list _ _ ?_
  rw [show (T.extract 0 a.length).data.toList = (T.data.toList.take a.length).drop 0 by simp [ByteArray.data_extract], h]
  simp
 have e2 : T.extract (a.length + 1) T.size = ⟨b.toArray⟩ := by
  refine ba_of_list _ _ ?_
  rw [show (T.extract (a.length + 1) T.size).data.toList = (T.data.toList.drop (a.length + 1)).take (T.size - (a.length + 1)) by simp [ByteArray.data_extract], h, show a ++ 47 :: b = (a ++ [47]) ++ b by simp, List.drop_left' (by simp)]
  exact List.take_of_length_le (by omega)
 have hle : a.length + 1 ≤ T.size := by omega
 clear hlen
 generalize a.length = A at *
 generalize (⟨a.toArray⟩ : ByteArray) = TA at *
 generalize (⟨b.toArray⟩ : ByteArray) = TB at *
 have HI := Lib.hid hi
 clear hi h ha
 go_enter Tryz.func32, Tryz.ntmps32
 go_wp2_with (first
  | (go_at_call 66; (with_reducible refine (HI.out _).mono ?_); rintro e w1 ⟨rfl, rfl⟩)
  | fail "arm")
 go_quiet (fail)
 go_wp2
 go_ret2
 exact ⟨rfl, Drew.of _ _⟩

theorem partsR_any (n : Int) (d : Nat) (w : World) (hs : (ratT n d).size ≤ 1000000) :
  Calls Tryz.prog 32 #[.string (ratT n d)] w fun e w' => e = .returned (.tuple #[.string (canon n), .string (canon (d : Int))]) ∧ Drew w w' := by
 by_cases h : d = 1
 ·subst h
  have h0 : (ratT n 1).data.toList = Lib.itoa n := rfl
  exact partsR_none (ratT n 1) w (by rw [h0]; exact itoa_no_slash n)
 ·have h0 : (ratT n d).data.toList = Lib.itoa n ++ 47 :: Lib.decDigits d := by
   show ratL n d = _
   unfold ratL
   rw [if_neg h]
  have h1 := partsR_some (ratT n d) _ _ w h0 (itoa_no_slash n) hs
  rw [canon_nat]
  exact h1

set_option maxRecDepth 100000 in
set_option maxHeartbeats 8000000 in
theorem raddR_any (a b : Rat) (N : Nat) (hN0 : 0 < N) (hN : N ≤ 1000) (ha : Sz a N) (hb : Sz b N) (w : World) (he : Env w) :
  Calls Tryz.prog 8 #[.string (canonR a), .string (canonR b)] w fun e w' => e = .returned (.string (canonR (a + b))) ∧ Below w.heap.size w w' := by
 have hsa := ha.text hN0
 have hsb := hb.text hN0
 have qa := fun W => bref_any a W
 have qb := fun W => bref_any b W
 have pa := fun W => partsR_any a.num a.den W (by have : (ratT a.num a.den).size = (canonR a).size := rfl; omega)
 have pb := fun W => partsR_any b.num b.den W (by have : (ratT b.num b.den).size = (canonR b).size := rfl; omega)
 rw [show ratT a.num a.den = canonR a from rfl] at pa
 rw [show ratT b.num b.den = canonR b from rfl] at pb
 have a1 := ha.num hN0
 have a2 := ha.den hN0
 have b1 := hb.num hN0
 have b2 := hb.den hN0
 have dsz : (canon ((a.den : Int) * (b.den : Int))).size ≤ N + N + 1 := by
  rw [← Int.natCast_mul]
  exact canon_size_lt _ (N + N) (by rw [Int.natAbs_natCast]; exact dens_lt ha hb) (by omega)
 have m3 := fun W (hW : Below w.heap.size w W) => mulR_any (a.den : Int) (b.den : Int) W (he.below hW).1 (by omega) (by omega)
 have c1 := cross_lt ha hb
 have c2 := cross_lt hb ha
 have s1 := canon_size_lt _ (N + N) c1 (by omega)
 have s2 := canon_size_lt _ (N + N) c2 (by omega)
 have s3 := canon_size_lt _ (N + N + 1) (add_abs_lt c1 c2) (by omega)
 have m1 := fun W (hW : Below w.heap.size w W) => mulR_any a.num (b.den : Int) W (he.below hW).1 (by omega) (by omega)
 have m2 := fun W (hW : Below w.heap.size w W) => mulR_any b.num (a.den : Int) W (he.below hW).1 (by omega) (by omega)
 have ad := fun W (hW : Below w.heap.size w W) => addR_any (a.num * (b.den : Int)) (b.num * (a.den : Int)) W (he.below hW).1 (by omega) (by omega)
 have lw := fun W (hW : Below w.heap.size w W) => fraction_any false (a.num * (b.den : Int) + b.num * (a.den : Int)) (a.den * b.den) W (he.below hW).1 (den_mul_pos a b) (by omega) (by rw [Int.natCast_mul]; omega)
 simp only [Bool.false_eq_true, if_false] at lw
 rw [← radd_eq, Int.natCast_mul] at lw
 have sm := fun (h1 : brf a = true) (h2 : brf b = true) W (hW : Below w.heap.size w W) => lowR_of (a.num * (b.den : Int) + b.num * (a.den : Int)) (a.den * b.den) W (he.below hW).1 (den_mul_pos a b)
  (by have := mul_in (x := a.num) (y := (b.den : Int)) (brf_lt a h1).1 (by have := (brf_lt b h2).2; omega); have := mul_in (x := b.num) (y := (a.den : Int)) (brf_lt b h2).1 (by have := (brf_lt a h1).2; omega); omega)
  (by have := mul_in (x := a.num) (y := (b.den : Int)) (brf_lt a h1).1 (by have := (brf_lt b h2).2; omega); have := mul_in (x := b.num) (y := (a.den : Int)) (brf_lt b h2).1 (by have := (brf_lt a h1).2; omega); omega)
  (by have := nat_mul_in (brf_lt a h1).2 (brf_lt b h2).2; omega)
 rw [← radd_eq, Int.natCast_mul] at sm
 have ab1 := fun (h1 : brf a = true) => (⟨(brf_lt a h1).1, by have := (brf_lt a h1).2; omega⟩ : a.num.natAbs < 1000000000 ∧ (a.den : Int) < 1000000000)
 have ab2 := fun (h2 : brf b = true) => (⟨(brf_lt b h2).1, by have := (brf_lt b h2).2; omega⟩ : b.num.natAbs < 1000000000 ∧ (b.den : Int) < 1000000000)
 have ap : 0 ≤ (a.den : Int) := by omega
 have bp : 0 ≤ (b.den : Int) := by omega
 generalize canonR (a + b) = R at *
 generalize canonR a = TA at *
 generalize canonR b = TB at *
 clear hsa hsb a1 a2 b1 b2 dsz s1 c1 c2 s2 s3 ha hb he hN hN0
 generalize a.num = an at *
 generalize b.num = bn at *
 generalize (a.den : Int) = ad' at *
 generalize (b.den : Int) = bd' at *
 have PA := Lib.hid pa
 have PB := Lib.hid pb
 have M1 := Lib.hid m1
 have M2 := Lib.hid m2
 have AD := Lib.hid ad
 have M3 := Lib.hid m3
 have LW := Lib.hid lw
 clear pa pb m1 m2 ad m3 lw
 cases hs1 : brf a with
 | false =>
  rw [hs1] at qa
  simp only [Bool.false_eq_true, if_false] at qa
  have QA := Lib.hid qa
  clear qa qb sm ab1 ab2 hs1
  go_enter Tryz.func8, Tryz.ntmps8
  go_wp2_with (first
   | (go_at_call_of 30 (Value.string TA); (with_reducible refine (QA.out _).mono ?_); rintro e w1 ⟨rfl, rfl⟩)
   | (go_at_call_of 32 (Value.string TA); (with_reducible refine (PA.out _).mono ?_); rintro e w3 ⟨rfl, q⟩; have B3 := Lib.hid (q.below w.heap.size); clear q)
   | (go_at_call_of 32 (Value.string TB); (with_reducible refine (PB.out _).mono ?_); rintro e w4 ⟨rfl, q⟩; have B4 := Lib.hid (B3.out.trans (q.below _)); clear q)
   | (go_at_call 34; (with_reducible refine (M1.out _ B4.out).mono ?_); rintro e w5 ⟨rfl, q⟩; have B5 := Lib.hid (B4.out.trans (q.mono B4.out.size)); clear q)
   | (go_at_call 34; (with_reducible refine (M2.out _ B5.out).mono ?_); rintro e w6 ⟨rfl, q⟩; have B6 := Lib.hid (B5.out.trans (q.mono B5.out.size)); clear q)
   | (go_at_call 33; (with_reducible refine (AD.out _ B6.out).mono ?_); rintro e w7 ⟨rfl, q⟩; have B7 := Lib.hid (B6.out.trans (q.mono B6.out.size)); clear q)
   | (go_at_call 34; (with_reducible refine (M3.out _ B7.out).mono ?_); rintro e w8 ⟨rfl, q⟩; have B8 := Lib.hid (B7.out.trans (q.mono B7.out.size)); clear q)
   | (go_at_call 17; (with_reducible refine (LW.out _ B8.out).mono ?_); rintro e w9 ⟨rfl, q⟩; have B9 := Lib.hid (B8.out.trans (q.mono B8.out.size)); clear q)
   | fail "arm")
  go_ret
  exact ⟨rfl, B9.out⟩
 | true =>
  rw [hs1] at qa
  simp only [if_true] at qa
  have QA := Lib.hid qa
  cases hs2 : brf b with
  | false =>
   rw [hs2] at qb
   simp only [Bool.false_eq_true, if_false] at qb
   have QB := Lib.hid qb
   clear qa qb sm ab1 ab2 hs1 hs2
   go_enter Tryz.func8, Tryz.ntmps8
   go_wp2_with (first
   | (go_at_call_of 30 (Value.string TA); (with_reducible refine (QA.out _).mono ?_); rintro e w1 ⟨rfl, rfl⟩)
   | (go_at_call_of 30 (Value.string TB); (with_reducible refine (QB.out _).mono ?_); rintro e w2 ⟨rfl, rfl⟩)
   | (go_at_call_of 32 (Value.string TA); (with_reducible refine (PA.out _).mono ?_); rintro e w3 ⟨rfl, q⟩; have B3 := Lib.hid (q.below w.heap.size); clear q)
   | (go_at_call_of 32 (Value.string TB); (with_reducible refine (PB.out _).mono ?_); rintro e w4 ⟨rfl, q⟩; have B4 := Lib.hid (B3.out.trans (q.below _)); clear q)
   | (go_at_call 34; (with_reducible refine (M1.out _ B4.out).mono ?_); rintro e w5 ⟨rfl, q⟩; have B5 := Lib.hid (B4.out.trans (q.mono B4.out.size)); clear q)
   | (go_at_call 34; (with_reducible refine (M2.out _ B5.out).mono ?_); rintro e w6 ⟨rfl, q⟩; have B6 := Lib.hid (B5.out.trans (q.mono B5.out.size)); clear q)
   | (go_at_call 33; (with_reducible refine (AD.out _ B6.out).mono ?_); rintro e w7 ⟨rfl, q⟩; have B7 := Lib.hid (B6.out.trans (q.mono B6.out.size)); clear q)
   | (go_at_call 34; (with_reducible refine (M3.out _ B7.out).mono ?_); rintro e w8 ⟨rfl, q⟩; have B8 := Lib.hid (B7.out.trans (q.mono B7.out.size)); clear q)
   | (go_at_call 17; (with_reducible refine (LW.out _ B8.out).mono ?_); rintro e w9 ⟨rfl, q⟩; have B9 := Lib.hid (B8.out.trans (q.mono B8.out.size)); clear q)
   | fail "arm")
   go_ret
   exact ⟨rfl, B9.out⟩
  | true =>
   rw [hs2] at qb
   simp only [if_true] at qb
   have QB := Lib.hid qb
   have SM := Lib.hid (sm hs1 hs2)
   obtain ⟨u1, u2⟩ := ab1 hs1
   obtain ⟨v1, v2⟩ := ab2 hs2
   have g1 := mul_in (x := an) (y := bd') u1 (by omega)
   have g2 := mul_in (x := bn) (y := ad') v1 (by omega)
   obtain ⟨g2a, g2b⟩ := g2
   have g3 := mul_in (x := ad') (y := bd') (by omega) (by omega)
   obtain ⟨g1a, g1b⟩ := g1
   obtain ⟨g3a, g3b⟩ := g3
   clear qa qb sm ab1 ab2 hs1 hs2 u1 u2 v1 v2 PA PB M1 M2 AD M3 LW
   go_enter Tryz.func8, Tryz.ntmps8
   go_wp2_with (first
   | (go_at_call_of 30 (Value.string TA); (with_reducible refine (QA.out _).mono ?_); rintro e w1 ⟨rfl, rfl⟩)
   | (go_at_call_of 30 (Value.string TB); (with_reducible refine (QB.out _).mono ?_); rintro e w2 ⟨rfl, rfl⟩)
   | (go_at_call 31; (with_reducible refine (SM.out _ (Below.refl _ _)).mono ?_); rintro e w9 ⟨rfl, q⟩; have B9 := Lib.hid q; clear q)
   | fail "arm")
   go_ret
   exact ⟨rfl, B9.out⟩

set_option maxRecDepth 100000 in
set_option maxHeartbeats 8000000 in
theorem rmulR_any (a b : Rat) (N : Nat) (hN0 : 0 < N) (hN : N ≤ 1000) (ha : Sz a N) (hb : Sz b N) (w : World) (he : Env w) :
  Calls Tryz.prog 35 #[.string (canonR a), .string (canonR b)] w fun e w' => e = .returned (.string (canonR (a * b))) ∧ Below w.heap.size w w' := by
 have hsa := ha.text hN0
 have hsb := hb.text hN0
 have qa := fun W => bref_any a W
 have qb := fun W => bref_any b W
 have pa := fun W => partsR_any a.num a.den W (by have : (ratT a.num a.den).size = (canonR a).size := rfl; omega)
 have pb := fun W => partsR_any b.num b.den W (by have : (ratT b.num b.den).size = (canonR b).size := rfl; omega)
 rw [show ratT a.num a.den = canonR a from rfl] at pa
 rw [show ratT b.num b.den = canonR b from rfl] at pb
 have a1 := ha.num hN0
 have a2 := ha.den hN0
 have b1 := hb.num hN0
 have b2 := hb.den hN0
 have dsz : (canon ((a.den : Int) * (b.den : Int))).size ≤ N + N + 1 := by
  rw [← Int.natCast_mul]
  exact canon_size_lt _ (N + N) (by rw [Int.natAbs_natCast]; exact dens_lt ha hb) (by omega)
 have m3 := fun W (hW : Below w.heap.size w W) => mulR_any (a.den : Int) (b.den : Int) W (he.below hW).1 (by omega) (by omega)
 have c1 : (a.num * b.num).natAbs < 10 ^ (N + N) := by rw [Int.natAbs_mul]; exact nat_mul_pow ha.1 hb.1
 have s3 := canon_size_lt _ (N + N) c1 (by omega)
 have m1 := fun W (hW : Below w.heap.size w W) => mulR_any a.num b.num W (he.below hW).1 (by omega) (by omega)
 have lw := fun W (hW : Below w.heap.size w W) => fraction_any false (a.num * b.num) (a.den * b.den) W (he.below hW).1 (den_mul_pos a b) (by omega) (by rw [Int.natCast_mul]; omega)
 simp only [Bool.false_eq_true, if_false] at lw
 rw [← rmul_eq, Int.natCast_mul] at lw
 have sm := fun (h1 : brf a = true) (h2 : brf b = true) W (hW : Below w.heap.size w W) => lowR_of (a.num * b.num) (a.den * b.den) W (he.below hW).1 (den_mul_pos a b)
  (by have := mul_in (x := a.num) (y := b.num) (brf_lt a h1).1 (brf_lt b h2).1; omega)
  (by have := mul_in (x := a.num) (y := b.num) (brf_lt a h1).1 (brf_lt b h2).1; omega)
  (by have := nat_mul_in (brf_lt a h1).2 (brf_lt b h2).2; omega)
 rw [← rmul_eq, Int.natCast_mul] at sm
 have ab1 := fun (h1 : brf a = true) => (⟨(brf_lt a h1).1, by have := (brf_lt a h1).2; omega⟩ : a.num.natAbs < 1000000000 ∧ (a.den : Int) < 1000000000)
 have ab2 := fun (h2 : brf b = true) => (⟨(brf_lt b h2).1, by have := (brf_lt b h2).2; omega⟩ : b.num.natAbs < 1000000000 ∧ (b.den : Int) < 1000000000)
 have ap : 0 ≤ (a.den : Int) := by omega
 have bp : 0 ≤ (b.den : Int) := by omega
 generalize canonR (a * b) = R at *
 generalize canonR a = TA at *
 generalize canonR b = TB at *
 clear hsa hsb a1 a2 b1 b2 dsz c1 s3 ha hb he hN hN0
 generalize a.num = an at *
 generalize b.num = bn at *
 generalize (a.den : Int) = ad' at *
 generalize (b.den : Int) = bd' at *
 have PA := Lib.hid pa
 have PB := Lib.hid pb
 have M1 := Lib.hid m1
 have M3 := Lib.hid m3
 have LW := Lib.hid lw
 clear pa pb m1 m3 lw
 cases hs1 : brf a with
 | false =>
  rw [hs1] at qa
  simp only [Bool.false_eq_true, if_false] at qa
  have QA := Lib.hid qa
  clear qa qb sm ab1 ab2 hs1
  go_enter Tryz.func35, Tryz.ntmps35
  go_wp2_with (first
   | (go_at_call_of 30 (Value.string TA); (with_reducible refine (QA.out _).mono ?_); rintro e w1 ⟨rfl, rfl⟩)
   | (go_at_call_of 32 (Value.string TA); (with_reducible refine (PA.out _).mono ?_); rintro e w3 ⟨rfl, q⟩; have B3 := Lib.hid (q.below w.heap.size); clear q)
   | (go_at_call_of 32 (Value.string TB); (with_reducible refine (PB.out _).mono ?_); rintro e w4 ⟨rfl, q⟩; have B4 := Lib.hid (B3.out.trans (q.below _)); clear q)
   | (go_at_call 34; (with_reducible refine (M1.out _ B4.out).mono ?_); rintro e w5 ⟨rfl, q⟩; have B5 := Lib.hid (B4.out.trans (q.mono B4.out.size)); clear q)
   | (go_at_call 34; (with_reducible refine (M3.out _ B5.out).mono ?_); rintro e w8 ⟨rfl, q⟩; have B8 := Lib.hid (B5.out.trans (q.mono B5.out.size)); clear q)
   | (go_at_call 17; (with_reducible refine (LW.out _ B8.out).mono ?_); rintro e w9 ⟨rfl, q⟩; have B9 := Lib.hid (B8.out.trans (q.mono B8.out.size)); clear q)
   | fail "arm")
  go_ret
  exact ⟨rfl, B9.out⟩
 | true =>
  rw [hs1] at qa
  simp only [if_true] at qa
  have QA := Lib.hid qa
  cases hs2 : brf b with
  | false =>
   rw [hs2] at qb
   simp only [Bool.false_eq_true, if_false] at qb
   have QB := Lib.hid qb
   clear qa qb sm ab1 ab2 hs1 hs2
   go_enter Tryz.func35, Tryz.ntmps35
   go_wp2_with (first
   | (go_at_call_of 30 (Value.string TA); (with_reducible refine (QA.out _).mono ?_); rintro e w1 ⟨rfl, rfl⟩)
   | (go_at_call_of 30 (Value.string TB); (with_reducible refine (QB.out _).mono ?_); rintro e w2 ⟨rfl, rfl⟩)
   | (go_at_call_of 32 (Value.string TA); (with_reducible refine (PA.out _).mono ?_); rintro e w3 ⟨rfl, q⟩; have B3 := Lib.hid (q.below w.heap.size); clear q)
   | (go_at_call_of 32 (Value.string TB); (with_reducible refine (PB.out _).mono ?_); rintro e w4 ⟨rfl, q⟩; have B4 := Lib.hid (B3.out.trans (q.below _)); clear q)
   | (go_at_call 34; (with_reducible refine (M1.out _ B4.out).mono ?_); rintro e w5 ⟨rfl, q⟩; have B5 := Lib.hid (B4.out.trans (q.mono B4.out.size)); clear q)
   | (go_at_call 34; (with_reducible refine (M3.out _ B5.out).mono ?_); rintro e w8 ⟨rfl, q⟩; have B8 := Lib.hid (B5.out.trans (q.mono B5.out.size)); clear q)
   | (go_at_call 17; (with_reducible refine (LW.out _ B8.out).mono ?_); rintro e w9 ⟨rfl, q⟩; have B9 := Lib.hid (B8.out.trans (q.mono B8.out.size)); clear q)
   | fail "arm")
   go_ret
   exact ⟨rfl, B9.out⟩
  | true =>
   rw [hs2] at qb
   simp only [if_true] at qb
   have QB := Lib.hid qb
   have SM := Lib.hid (sm hs1 hs2)
   obtain ⟨u1, u2⟩ := ab1 hs1
   obtain ⟨v1, v2⟩ := ab2 hs2
   have g1 := mul_in (x := an) (y := bn) u1 v1
   have g3 := mul_in (x := ad') (y := bd') (by omega) (by omega)
   obtain ⟨g1a, g1b⟩ := g1
   obtain ⟨g3a, g3b⟩ := g3
   clear qa qb sm ab1 ab2 hs1 hs2 u1 u2 v1 v2 PA PB M1 M3 LW
   go_enter Tryz.func35, Tryz.ntmps35
   go_wp2_with (first
   | (go_at_call_of 30 (Value.string TA); (with_reducible refine (QA.out _).mono ?_); rintro e w1 ⟨rfl, rfl⟩)
   | (go_at_call_of 30 (Value.string TB); (with_reducible refine (QB.out _).mono ?_); rintro e w2 ⟨rfl, rfl⟩)
   | (go_at_call 31; (with_reducible refine (SM.out _ (Below.refl _ _)).mono ?_); rintro e w9 ⟨rfl, q⟩; have B9 := Lib.hid q; clear q)
   | fail "arm")
   go_ret
   exact ⟨rfl, B9.out⟩

end Go.Proofs.YtnallacamijkeaaGreatDoor
