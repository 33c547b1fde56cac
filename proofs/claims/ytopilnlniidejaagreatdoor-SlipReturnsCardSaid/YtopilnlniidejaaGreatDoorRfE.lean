/- Which texts are right numbers; the walks of klipperef02.Right and klippelaw02.fits. -/
import Derived.Test.YtopilnlniidejaaGreatDoorRfD
import Derived.Test.YtopilnlniidejaaGreatDoorGRefB
namespace Go.Proofs.YtopilnlniidejaaGreatDoor
set_option linter.all false
open Go.RowKit

theorem u8_48 {c : UInt8} (h : c.toNat = 48) : c = 48 := UInt8.toNat_inj.1 (by rw [h]; rfl)

theorem dec_zero : Lib.decDigits 0 = [48] := by
 have h : (canon 0).toList = [48] := eq_of_beq (canon_beq0 0)
 have h2 : (canon 0).data.toList = Lib.decDigits 0 := by show Lib.itoa ((0 : Nat) : Int) = _; rw [itoa_of_nat]
 rw [← h2, ← ByteArray.toList_eq, h]

theorem rightL_facts {neg : Bool} {t : List UInt8} (h : rightL neg t = true) : ∃ c m, t = c :: m ∧ t.length ≤ 200 ∧ AllDig t ∧ (c.toNat = 48 → neg = false ∧ m = []) := by
 unfold rightL headB at h
 simp only [Bool.and_eq_true] at h
 obtain ⟨⟨⟨h1, h2⟩, h3⟩, h4⟩ := h
 have h4 := (allDigB_iff t).1 h4
 have h2 := of_decide_eq_true h2
 cases t with
 | nil => simp at h1
 | cons c m =>
  refine ⟨c, m, rfl, h2, h4, fun hc => ?_⟩
  have := u8_48 hc
  subst this
  simp at h3
  exact ⟨h3.1, h3.2⟩

theorem rightS_iff (l : List UInt8) : rightS l = true ↔ ∃ z : Int, l = Lib.itoa z ∧ (mdig z).length ≤ 200 := by
 constructor
 ·intro h
  cases l with
  | nil => simp [rightS] at h
  | cons c m =>
   by_cases h45 : c = 45
   ·subst h45
    have h : rightL true m = true := by simpa [rightS] using h
    obtain ⟨d, m', rfl, h2, h3, h4⟩ := rightL_facts h
    have hd : d.toNat ≠ 48 := fun e => by have := (h4 e).1; cases this
    have he := eq_dec h3 hd
    have hp : 0 < dval (d :: m') := (eq_decDigits _ d m' rfl h3 hd).1
    refine ⟨-((dval (d :: m') : Nat) : Int), ?_, ?_⟩
    ·rw [itoa_of_neg _ hp, ← he]
    ·show (Lib.decDigits (-((dval (d :: m') : Nat) : Int)).natAbs).length ≤ 200
     rw [Int.natAbs_neg, Int.natAbs_natCast, ← he]
     exact h2
   ·have h : rightL false (c :: m) = true := by simpa [rightS, h45] using h
    obtain ⟨d, m', h1, h2, h3, h4⟩ := rightL_facts h
    cases h1
    by_cases hd : c.toNat = 48
    ·have := u8_48 hd
     subst this
     rw [(h4 rfl).2]
     have h0 : Lib.decDigits 0 = [48] := dec_zero
     refine ⟨0, ?_, ?_⟩
     ·show [48] = Lib.itoa ((0 : Nat) : Int)
      rw [itoa_of_nat, h0]
     ·show (Lib.decDigits 0).length ≤ 200
      rw [h0]; decide
    ·have he := eq_dec h3 hd
     refine ⟨((dval (c :: m) : Nat) : Int), ?_, ?_⟩
     ·rw [itoa_of_nat, ← he]
     ·show (Lib.decDigits ((dval (c :: m) : Nat) : Int).natAbs).length ≤ 200
      rw [Int.natAbs_natCast, ← he]
      exact h2
 ·rintro ⟨z, rfl, hz⟩
  obtain ⟨f1, f2, c, m, f3, f4, f5⟩ := decDigits_facts z.natAbs
  have hm : mdig z = c :: m := f3
  have hc := f1 c (by rw [f3]; exact List.mem_cons_self ..)
  have hb : allDigB (c :: m) = true := (allDigB_iff _).2 (by rw [← f3]; exact f1)
  rw [hm] at hz
  rcases itoa_cases z with ⟨h1, h2⟩ | ⟨h1, h2⟩
  ·rw [h2, hm]
   have h45 : c ≠ 45 := fun e => by rw [e] at hc; simp at hc
   show (if c = 45 then rightL true m else rightL false (c :: m)) = true
   rw [if_neg h45]
   unfold rightL headB
   rw [hb]
   by_cases h0 : z.natAbs = 0
   ·have := f5 h0
    subst this
    simp
   ·have hn : c ≠ 48 := fun e => f4 (by omega) (by rw [e]; rfl)
    simp [hn]
    simpa using hz
  ·rw [h2, hm]
   show (if (45 : UInt8) = 45 then rightL true (c :: m) else rightL false (45 :: c :: m)) = true
   rw [if_pos rfl]
   unfold rightL headB
   rw [hb]
   have hn : c ≠ 48 := fun e => f4 (by omega) (by rw [e]; rfl)
   simp [hn]
   simpa using hz

def RightQ (T : ByteArray) : Prop := ∃ q : Rat, T = canonR q ∧ (mdig q.num).length ≤ 200 ∧ (Lib.decDigits q.den).length ≤ 200
noncomputable def rightQ (T : ByteArray) : Bool := @decide (RightQ T) (Classical.propDecidable _)

theorem rightQ_true {T : ByteArray} (h : RightQ T) : rightQ T = true := by unfold rightQ; exact @decide_eq_true _ (Classical.propDecidable _) h
theorem rightQ_false {T : ByteArray} (h : ¬ RightQ T) : rightQ T = false := by unfold rightQ; exact @decide_eq_false _ (Classical.propDecidable _) h
theorem rightQ_of {T : ByteArray} (h : rightQ T = true) : RightQ T := @of_decide_eq_true _ (Classical.propDecidable _) h

theorem canonR_list (q : Rat) : (canonR q).data.toList = ratL q.num q.den := rfl

theorem rightQ_whole (T : ByteArray) (h : ∀ c ∈ T.data.toList, c ≠ 47) : RightQ T ↔ rightS T.data.toList = true := by
 rw [rightS_iff]
 constructor
 ·rintro ⟨q, rfl, h1, h2⟩
  rw [canonR_list] at h ⊢
  by_cases hd : q.den = 1
  ·exact ⟨q.num, by unfold ratL; rw [if_pos hd], h1⟩
  ·exfalso
   unfold ratL at h
   rw [if_neg hd] at h
   exact h 47 (by simp) rfl
 ·rintro ⟨z, h1, h2⟩
  refine ⟨(z : Rat), ?_, h2, by show (Lib.decDigits 1).length ≤ 200; have := decDigits_len_le 1 1 (by omega) (by omega); omega⟩
  refine (ba_of_list _ _ ?_)
  rw [h1]
  rfl

theorem split_uniq {a b a' b' : List UInt8} (h : a ++ 47 :: b = a' ++ 47 :: b') (ha : ∀ c ∈ a, c ≠ 47) (ha' : ∀ c ∈ a', c ≠ 47) : a = a' ∧ b = b' := by
 induction a generalizing a' with
 | nil =>
  cases a' with
  | nil => simp at h; exact ⟨rfl, h⟩
  | cons c l =>
   simp at h
   exact absurd h.1.symm (ha' c (List.mem_cons_self ..))
 | cons c l ih =>
  cases a' with
  | nil =>
   simp at h
   exact absurd h.1 (ha c (List.mem_cons_self ..))
  | cons d l' =>
   simp at h
   obtain ⟨h1, h2⟩ := ih h.2 (fun z hz => ha z (List.mem_cons_of_mem _ hz)) (fun z hz => ha' z (List.mem_cons_of_mem _ hz))
   rw [h.1, h1]
   exact ⟨rfl, h2⟩

theorem rightQ_parts (T : ByteArray) (a b : List UInt8) (hT : T.data.toList = a ++ 47 :: b) (ha : ∀ c ∈ a, c ≠ 47) :
  RightQ T ↔ ∃ z m : Int, a = Lib.itoa z ∧ (mdig z).length ≤ 200 ∧ b = Lib.itoa m ∧ (mdig m).length ≤ 200 ∧ 1 < m ∧ z ≠ 0 ∧ Int.gcd z m = 1 := by
 constructor
 ·rintro ⟨q, rfl, h1, h2⟩
  rw [canonR_list] at hT
  by_cases hd : q.den = 1
  ·exfalso
   unfold ratL at hT
   rw [if_pos hd] at hT
   exact itoa_no_slash q.num 47 (by rw [hT]; simp) rfl
  ·unfold ratL at hT
   rw [if_neg hd] at hT
   obtain ⟨e1, e2⟩ := split_uniq hT (itoa_no_slash q.num) ha
   have hr := q.reduced
   have hnz := q.den_nz
   refine ⟨q.num, (q.den : Int), e1.symm, h1, by rw [itoa_of_nat]; exact e2.symm, by show (Lib.decDigits ((q.den : Nat) : Int).natAbs).length ≤ 200; rw [Int.natAbs_natCast]; exact h2, by omega, fun h0 => ?_, ?_⟩
   ·rw [h0] at hr
    simp [Nat.Coprime] at hr
    exact hd hr
   ·unfold Int.gcd
    rw [Int.natAbs_natCast]
    exact hr
 ·rintro ⟨z, m, h1, h2, h3, h4, h5, h6, h7⟩
  have hm : ((m.natAbs : Nat) : Int) = m := by omega
  refine ⟨⟨z, m.natAbs, by omega, h7⟩, ?_, h2, h4⟩
  refine ba_of_list _ _ ?_
  rw [hT]
  show a ++ 47 :: b = ratL z m.natAbs
  unfold ratL
  rw [if_neg (by omega), h1, h3, ← itoa_of_nat, hm]

theorem itoa_size {z : Int} (h : (mdig z).length ≤ 200) : (canon z).size ≤ 201 := by
 show (Lib.itoa z).length ≤ 201
 rcases itoa_cases z with ⟨_, e⟩ | ⟨_, e⟩
 ·rw [e]; omega
 ·rw [e, List.length_cons]; omega

theorem right_one : rightS (canon 1).data.toList = true := by rw [k_1]; decide

set_option maxRecDepth 100000 in
set_option maxHeartbeats 4000000 in
theorem rightR_any (T : ByteArray) (w : World) (ht : Pow10 w) (hs : T.size ≤ 1000000) :
  Calls Tryz.prog 83 #[.string T] w fun e w' => e = .returned (.bool (rightQ T)) ∧ Below w.heap.size w w' := by
 have ib := fun W => Tryz.strings_IndexByte T 47 W
 rw [k47] at ib
 rcases split47 T.data.toList with h | ⟨a, b, h, ha⟩
 ·rw [ib_none _ h] at ib
  have pa := fun W => partsR_none T W h
  have r1 := fun W => right_any T W hs
  have r2 := fun W => right_any (canon 1) W (by rw [k_1]; decide)
  rw [right_one] at r2
  have IB := Lib.hid ib
  have PA := Lib.hid pa
  have R1 := Lib.hid r1
  have R2 := Lib.hid r2
  have hq := rightQ_whole T h
  clear ib pa r1 r2 h ht
  cases hr : rightS T.data.toList with
  | false =>
   have HR := Lib.hid (rightQ_false (fun h => by rw [hq.1 h] at hr; cases hr))
   rw [hr] at R1
   clear hq hr
   generalize rightQ T = r at *
   generalize canon 1 = C1 at *
   go_enter Tryz.func83, Tryz.ntmps83
   go_wp2_with (first
    | (go_at_call 67; (with_reducible refine (PA.out _).mono ?_); rintro e w1 ⟨rfl, q⟩; have B1 := Lib.hid (q.below w.heap.size); clear q)
    | (go_at_call_of 116 (Value.string T); (with_reducible refine (R1.out _).mono ?_); rintro e w2 ⟨rfl, q⟩; have B2 := Lib.hid (B1.out.trans (q.below _)); clear q)
    | fail "arm")
   go_ret
   rw [HR.out]
   exact ⟨rfl, B2.out⟩
  | true =>
   have HR := Lib.hid (rightQ_true (hq.2 hr))
   rw [hr] at R1
   clear hq hr
   generalize rightQ T = r at *
   have hne : (Value.string T = Value.string (canon 1)) ∨ ¬ (Value.string T = Value.string (canon 1)) := Classical.em _
   generalize canon 1 = C1 at *
   rcases hne with hne | hne
   ·cases hne
    go_enter Tryz.func83, Tryz.ntmps83
    go_wp2_with (first
     | (go_at_call 67; (with_reducible refine (PA.out _).mono ?_); rintro e w1 ⟨rfl, q⟩; have B1 := Lib.hid (q.below w.heap.size); clear q)
     | (go_at_call 116; (with_reducible refine (R1.out _).mono ?_); rintro e w2 ⟨rfl, q⟩; replace B1 := Lib.hid (B1.out.trans (q.below _)); clear q)
     | (go_at_call 95; (with_reducible refine (IB.out _).mono ?_); rintro e w4 ⟨rfl, rfl⟩)
     | fail "arm")
    go_ret
    rw [HR.out]
    exact ⟨rfl, B1.out⟩
   ·go_enter Tryz.func83, Tryz.ntmps83
    go_wp2_with (first
     | (go_at_call 67; (with_reducible refine (PA.out _).mono ?_); rintro e w1 ⟨rfl, q⟩; have B1 := Lib.hid (q.below w.heap.size); clear q)
     | (go_at_call_of 116 (Value.string T); (with_reducible refine (R1.out _).mono ?_); rintro e w2 ⟨rfl, q⟩; have B2 := Lib.hid (B1.out.trans (q.below _)); clear q)
     | (go_at_call 116; (with_reducible refine (R2.out _).mono ?_); rintro e w3 ⟨rfl, q⟩; have B3 := Lib.hid (B2.out.trans (q.below _)); clear q)
     | (go_at_call 95; (with_reducible refine (IB.out _).mono ?_); rintro e w4 ⟨rfl, rfl⟩)
     | fail "arm")
    go_ret
    rw [HR.out]
    exact ⟨rfl, B3.out⟩
 ·rw [h, ib_at _ _ ha] at ib
  have pa := fun W => partsR_some T a b W h ha hs
  have hlen : T.size = a.length + (1 + b.length) := by rw [Lib.size_eq, h, List.length_append, List.length_cons]; omega
  have r1 := fun W => right_any ⟨a.toArray⟩ W (by show a.length ≤ 1000000; omega)
  have r2 := fun W => right_any ⟨b.toArray⟩ W (by show b.length ≤ 1000000; omega)
  rw [show (⟨a.toArray⟩ : ByteArray).data.toList = a from rfl] at r1
  rw [show (⟨b.toArray⟩ : ByteArray).data.toList = b from rfl] at r2
  have hq := rightQ_parts T a b h ha
  have IB := Lib.hid ib
  have PA := Lib.hid pa
  have R1 := Lib.hid r1
  have R2 := Lib.hid r2
  have la : a.length ≤ 1000000 := by omega
  have tn : decide ((a.length : Int) < 0) = false := decide_eq_false (by omega)
  generalize a.length = A at *
  clear ib pa r1 r2 h hs hlen
  cases hra : rightS a with
  | false =>
   have HR := Lib.hid (rightQ_false (fun h => by
    obtain ⟨z, m, e1, e2, _⟩ := hq.1 h
    rw [(rightS_iff a).2 ⟨z, e1, e2⟩] at hra
    cases hra))
   rw [hra] at R1
   clear hq hra ha
   generalize rightQ T = r at *
   generalize (⟨a.toArray⟩ : ByteArray) = CN at *
   generalize (⟨b.toArray⟩ : ByteArray) = CD at *
   go_enter Tryz.func83, Tryz.ntmps83
   go_wp2_with (first
    | (go_at_call 67; (with_reducible refine (PA.out _).mono ?_); rintro e w1 ⟨rfl, q⟩; have B1 := Lib.hid (q.below w.heap.size); clear q)
    | (go_at_call_of 116 (Value.string CN); (with_reducible refine (R1.out _).mono ?_); rintro e w2 ⟨rfl, q⟩; have B2 := Lib.hid (B1.out.trans (q.below _)); clear q)
    | fail "arm")
   go_ret
   rw [HR.out]
   exact ⟨rfl, B2.out⟩
  | true =>
   rw [hra] at R1
   cases hrb : rightS b with
   | false =>
    have HR := Lib.hid (rightQ_false (fun h => by
     obtain ⟨z, m, _, _, e1, e2, _⟩ := hq.1 h
     rw [(rightS_iff b).2 ⟨m, e1, e2⟩] at hrb
     cases hrb))
    rw [hrb] at R2
    clear hq hra hrb ha
    generalize rightQ T = r at *
    generalize (⟨a.toArray⟩ : ByteArray) = CN at *
    generalize (⟨b.toArray⟩ : ByteArray) = CD at *
    go_enter Tryz.func83, Tryz.ntmps83
    go_wp2_with (first
     | (go_at_call 67; (with_reducible refine (PA.out _).mono ?_); rintro e w1 ⟨rfl, q⟩; have B1 := Lib.hid (q.below w.heap.size); clear q)
     | (go_at_call_of 116 (Value.string CN); (with_reducible refine (R1.out _).mono ?_); rintro e w2 ⟨rfl, q⟩; have B2 := Lib.hid (B1.out.trans (q.below _)); clear q)
     | (go_at_call_of 116 (Value.string CD); (with_reducible refine (R2.out _).mono ?_); rintro e w3 ⟨rfl, q⟩; have B3 := Lib.hid (B2.out.trans (q.below _)); clear q)
     | fail "arm")
    go_ret
    rw [HR.out]
    exact ⟨rfl, B3.out⟩
   | true =>
    rw [hrb] at R2
    obtain ⟨z, ez, lz⟩ := (rightS_iff a).1 hra
    obtain ⟨m, em, lm⟩ := (rightS_iff b).1 hrb
    have hq2 : RightQ T ↔ 1 < m ∧ z ≠ 0 ∧ Int.gcd z m = 1 := by
     rw [hq]
     constructor
     ·rintro ⟨z', m', e1, _, e2, _, e3⟩
      have f1 : z' = z := itoa_inj (e1.symm.trans ez)
      have f2 : m' = m := itoa_inj (e2.symm.trans em)
      rw [f1, f2] at e3
      exact e3
     ·intro h
      exact ⟨z, m, ez, lz, em, lm, h⟩
    subst ez
    subst em
    rw [show (⟨(Lib.itoa z).toArray⟩ : ByteArray) = canon z from rfl] at PA R1
    rw [show (⟨(Lib.itoa m).toArray⟩ : ByteArray) = canon m from rfl] at PA R2
    have sz : (canon z).size ≤ 201 := itoa_size lz
    have sm : (canon m).size ≤ 201 := itoa_size lm
    have s1 : (canon 1).size ≤ 1 := by rw [k_1]; decide
    have cm := fun W (hW : Below w.heap.size w W) => compareR_any m 1 W (ht.below hW) (by omega) (by omega)
    rw [k_1] at cm
    have gc := fun W (hW : Below w.heap.size w W) => gcdR_any z m W (ht.below hW) (by omega) (by omega)
    have CM := Lib.hid cm
    have GC := Lib.hid gc
    have hz0 := canon_beq0 z
    have hg1 := canon_beq1 ((Int.gcd z m : Nat) : Int)
    clear cm gc hq hra hrb ha lz lm s1
    by_cases hm : 1 < m
    ·have t1 : decide ((m - 1).sign > 0) = true := by rw [Int.sign_eq_one_of_pos (by omega)]; rfl
     by_cases hz : z = 0
     ·have HR := Lib.hid (rightQ_false (fun h => (hq2.1 h).2.1 hz))
      have t2 : ((canon z).toList != [48]) = false := by rw [bne, hz0, decide_eq_true hz]; rfl
      have t4 : ((canon z).toList == [48]) = true := by rw [hz0, decide_eq_true hz]
      clear hq2 hz0 hg1 hz hm GC
      generalize rightQ T = r at *
      generalize canon z = CN at *
      generalize canon m = CD at *
      generalize (m - 1).sign = sg at *
      go_enter Tryz.func83, Tryz.ntmps83
      go_wp2_with (first
       | (go_at_call 67; (with_reducible refine (PA.out _).mono ?_); rintro e w1 ⟨rfl, q⟩; have B1 := Lib.hid (q.below w.heap.size); clear q)
       | (go_at_call_of 116 (Value.string CN); (with_reducible refine (R1.out _).mono ?_); rintro e w2 ⟨rfl, q⟩; have B2 := Lib.hid (B1.out.trans (q.below _)); clear q)
       | (go_at_call_of 116 (Value.string CD); (with_reducible refine (R2.out _).mono ?_); rintro e w3 ⟨rfl, q⟩; have B3 := Lib.hid (B2.out.trans (q.below _)); clear q)
       | (go_at_call 95; (with_reducible refine (IB.out _).mono ?_); rintro e w4 ⟨rfl, rfl⟩)
       | (go_at_call 117; (with_reducible refine (CM.out _ B3.out).mono ?_); rintro e w5 ⟨rfl, q⟩; have B4 := Lib.hid (B3.out.trans (q.mono B3.out.size)); clear q)
       | fail "arm")
      go_ret
      rw [HR.out]
      exact ⟨rfl, B4.out⟩
     ·have t2 : ((canon z).toList != [48]) = true := by rw [bne, hz0, decide_eq_false hz]; rfl
      have t4 : ((canon z).toList == [48]) = false := by rw [hz0, decide_eq_false hz]
      have t3 : ((canon ((Int.gcd z m : Nat) : Int)).toList == [49]) = decide (Int.gcd z m = 1) := by rw [hg1]; exact decide_eq_decide.2 (by omega)
      have HR : Hid (rightQ T = decide (Int.gcd z m = 1)) := by
       by_cases h : Int.gcd z m = 1
       ·rw [decide_eq_true h]; exact Lib.hid (rightQ_true (hq2.2 ⟨hm, hz, h⟩))
       ·rw [decide_eq_false h]; exact Lib.hid (rightQ_false (fun h2 => h (hq2.1 h2).2.2))
      clear hq2 hz0 hg1 hz hm
      generalize decide (Int.gcd z m = 1) = gb at *
      generalize rightQ T = r at *
      generalize canon ((Int.gcd z m : Nat) : Int) = CG at *
      generalize canon z = CN at *
      generalize canon m = CD at *
      generalize (m - 1).sign = sg at *
      go_enter Tryz.func83, Tryz.ntmps83
      go_wp2_with (first
       | (go_at_call 67; (with_reducible refine (PA.out _).mono ?_); rintro e w1 ⟨rfl, q⟩; have B1 := Lib.hid (q.below w.heap.size); clear q)
       | (go_at_call_of 116 (Value.string CN); (with_reducible refine (R1.out _).mono ?_); rintro e w2 ⟨rfl, q⟩; have B2 := Lib.hid (B1.out.trans (q.below _)); clear q)
       | (go_at_call_of 116 (Value.string CD); (with_reducible refine (R2.out _).mono ?_); rintro e w3 ⟨rfl, q⟩; have B3 := Lib.hid (B2.out.trans (q.below _)); clear q)
       | (go_at_call 95; (with_reducible refine (IB.out _).mono ?_); rintro e w4 ⟨rfl, rfl⟩)
       | (go_at_call 117; (with_reducible refine (CM.out _ B3.out).mono ?_); rintro e w5 ⟨rfl, q⟩; have B4 := Lib.hid (B3.out.trans (q.mono B3.out.size)); clear q)
       | (go_at_call 99; (with_reducible refine (GC.out _ B4.out).mono ?_); rintro e w6 ⟨rfl, q⟩; have B5 := Lib.hid (B4.out.trans (q.mono B4.out.size)); clear q)
       | fail "arm")
      go_ret
      rw [HR.out]
      exact ⟨rfl, B5.out⟩
    ·have HR := Lib.hid (rightQ_false (fun h => hm (hq2.1 h).1))
     have t1 : decide ((m - 1).sign > 0) = false := decide_eq_false (by
      rcases Int.lt_or_eq_of_le (show m - 1 ≤ 0 by omega) with h | h
      ·rw [Int.sign_eq_neg_one_of_neg h]; omega
      ·rw [h]; decide)
     clear hq2 hz0 hg1 hm GC
     generalize rightQ T = r at *
     generalize canon z = CN at *
     generalize canon m = CD at *
     generalize (m - 1).sign = sg at *
     go_enter Tryz.func83, Tryz.ntmps83
     go_wp2_with (first
      | (go_at_call 67; (with_reducible refine (PA.out _).mono ?_); rintro e w1 ⟨rfl, q⟩; have B1 := Lib.hid (q.below w.heap.size); clear q)
       | (go_at_call_of 116 (Value.string CN); (with_reducible refine (R1.out _).mono ?_); rintro e w2 ⟨rfl, q⟩; have B2 := Lib.hid (B1.out.trans (q.below _)); clear q)
       | (go_at_call_of 116 (Value.string CD); (with_reducible refine (R2.out _).mono ?_); rintro e w3 ⟨rfl, q⟩; have B3 := Lib.hid (B2.out.trans (q.below _)); clear q)
       | (go_at_call 95; (with_reducible refine (IB.out _).mono ?_); rintro e w4 ⟨rfl, rfl⟩)
       | (go_at_call 117; (with_reducible refine (CM.out _ B3.out).mono ?_); rintro e w5 ⟨rfl, q⟩; have B4 := Lib.hid (B3.out.trans (q.mono B3.out.size)); clear q)
      | fail "arm")
     go_ret
     rw [HR.out]
     exact ⟨rfl, B4.out⟩

end Go.Proofs.YtopilnlniidejaaGreatDoor
