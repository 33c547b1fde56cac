/- The walks of rational.Decimal and klipperef02.Decimal, by shapes: with or without places, with or without filling zeros, by the sign. -/
import Derived.Test.YtjkbgjjfchhpfaaGreatDoorRfK
namespace Go.Proofs.YtjkbgjjfchhpfaaGreatDoor
open Go.RowKit

set_option maxRecDepth 100000 in
set_option maxHeartbeats 4000000 in
theorem rdec_zero_full_pos (T P M C S0  R : ByteArray) (p k : Nat) (sg : Int) (w : World) (hp : p ≤ 12) (hp0 : p = 0) (hsg : 0 ≤ sg) (hl : S0.size ≤ 400) (hk : S0.size = k + p) (hk0 : 0 < k) (hR : ((⟨#[]⟩ : ByteArray) ++ S0) = R) 
    (pw : ∀ W, Below w.heap.size w W → Calls Tryz.prog 79 #[.int .i64 p] W fun e w' => e = .returned (.string P) ∧ Below W.heap.size W w')
    (mu : ∀ W, Below w.heap.size w W → Calls Tryz.prog 38 #[.string T, .string P] W fun e w' => e = .returned (.string M) ∧ Below W.heap.size W w')
    (nr : ∀ W, Below w.heap.size w W → Calls Tryz.prog 78 #[.string M] W fun e w' => e = .returned (.string C) ∧ Below W.heap.size W w')
    (ab : ∀ W, Calls Tryz.prog 80 #[.string C] W fun e w' => e = .returned (.string S0) ∧ Below W.heap.size W w')
    (sn : ∀ W, Calls Tryz.prog 81 #[.string C] W fun e w' => e = .returned (.int .i64 sg) ∧ W = w') :
    Calls Tryz.prog 19 #[.string T, .int .i64 p] w fun e w' => e = .returned (.tuple #[.string R, .int .i64 0]) ∧ Below w.heap.size w w' := by
  have PW := Lib.hid pw
  have MU := Lib.hid mu
  have NR := Lib.hid nr
  have AB := Lib.hid ab
  have SN := Lib.hid sn
  have HR := Lib.hid hR
  have z1 : (⟨#[48]⟩ : ByteArray).size = 1 := rfl
  have z45 : (⟨#[45]⟩ : ByteArray).size = 1 := rfl
  have z46 : (⟨#[46]⟩ : ByteArray).size = 1 := rfl
  have z0 : (⟨#[]⟩ : ByteArray).size = 0 := rfl
  have B0 := Lib.hid (Below.refl w.heap.size w)
  have tsg : decide (sg < 0) = false := decide_eq_false (by omega)
  have tp0 : ((p : Int) == 0) = true := beq_iff_eq.2 (by omega)
  have tlp : decide ((k : Int) + (p : Int) ≤ (p : Int)) = false := decide_eq_false (by omega)
  clear hp0
  clear pw mu nr ab sn hR hsg
  go_enter Tryz.func19, Tryz.ntmps19
  go_wp2_with (first
    | (go_at_call 79; (with_reducible refine (PW.out _ B0.out).mono ?_); rintro e w1 ⟨rfl, q⟩; have B1 := Lib.hid (B0.out.trans (q.mono B0.out.size)); clear q)
    | (go_at_call 38; (with_reducible refine (MU.out _ B1.out).mono ?_); rintro e w2 ⟨rfl, q⟩; have B2 := Lib.hid (B1.out.trans (q.mono B1.out.size)); clear q)
    | (go_at_call 78; (with_reducible refine (NR.out _ B2.out).mono ?_); rintro e w3 ⟨rfl, q⟩; have B3 := Lib.hid (B2.out.trans (q.mono B2.out.size)); clear q)
    | (go_at_call 80; (with_reducible refine (AB.out _).mono ?_); rintro e w4 ⟨rfl, q⟩; have B4 := Lib.hid (B3.out.trans (q.mono B3.out.size)); clear q)
    | (go_at_call 81; (with_reducible refine (SN.out _).mono ?_); rintro e w6 ⟨rfl, rfl⟩)
    | fail "arm")
  go_ret2
  rw [← HR.out]
  exact ⟨rfl, B4.out⟩

set_option maxRecDepth 100000 in
set_option maxHeartbeats 4000000 in
theorem rdec_zero_full_neg (T P M C S0  R : ByteArray) (p k : Nat) (sg : Int) (w : World) (hp : p ≤ 12) (hp0 : p = 0) (hsg : sg < 0) (hl : S0.size ≤ 400) (hk : S0.size = k + p) (hk0 : 0 < k) (hR : ((⟨#[45]⟩ : ByteArray) ++ S0) = R) 
    (pw : ∀ W, Below w.heap.size w W → Calls Tryz.prog 79 #[.int .i64 p] W fun e w' => e = .returned (.string P) ∧ Below W.heap.size W w')
    (mu : ∀ W, Below w.heap.size w W → Calls Tryz.prog 38 #[.string T, .string P] W fun e w' => e = .returned (.string M) ∧ Below W.heap.size W w')
    (nr : ∀ W, Below w.heap.size w W → Calls Tryz.prog 78 #[.string M] W fun e w' => e = .returned (.string C) ∧ Below W.heap.size W w')
    (ab : ∀ W, Calls Tryz.prog 80 #[.string C] W fun e w' => e = .returned (.string S0) ∧ Below W.heap.size W w')
    (sn : ∀ W, Calls Tryz.prog 81 #[.string C] W fun e w' => e = .returned (.int .i64 sg) ∧ W = w') :
    Calls Tryz.prog 19 #[.string T, .int .i64 p] w fun e w' => e = .returned (.tuple #[.string R, .int .i64 0]) ∧ Below w.heap.size w w' := by
  have PW := Lib.hid pw
  have MU := Lib.hid mu
  have NR := Lib.hid nr
  have AB := Lib.hid ab
  have SN := Lib.hid sn
  have HR := Lib.hid hR
  have z1 : (⟨#[48]⟩ : ByteArray).size = 1 := rfl
  have z45 : (⟨#[45]⟩ : ByteArray).size = 1 := rfl
  have z46 : (⟨#[46]⟩ : ByteArray).size = 1 := rfl
  have z0 : (⟨#[]⟩ : ByteArray).size = 0 := rfl
  have B0 := Lib.hid (Below.refl w.heap.size w)
  have tsg : decide (sg < 0) = true := decide_eq_true hsg
  have tp0 : ((p : Int) == 0) = true := beq_iff_eq.2 (by omega)
  have tlp : decide ((k : Int) + (p : Int) ≤ (p : Int)) = false := decide_eq_false (by omega)
  clear hp0
  clear pw mu nr ab sn hR hsg
  go_enter Tryz.func19, Tryz.ntmps19
  go_wp2_with (first
    | (go_at_call 79; (with_reducible refine (PW.out _ B0.out).mono ?_); rintro e w1 ⟨rfl, q⟩; have B1 := Lib.hid (B0.out.trans (q.mono B0.out.size)); clear q)
    | (go_at_call 38; (with_reducible refine (MU.out _ B1.out).mono ?_); rintro e w2 ⟨rfl, q⟩; have B2 := Lib.hid (B1.out.trans (q.mono B1.out.size)); clear q)
    | (go_at_call 78; (with_reducible refine (NR.out _ B2.out).mono ?_); rintro e w3 ⟨rfl, q⟩; have B3 := Lib.hid (B2.out.trans (q.mono B2.out.size)); clear q)
    | (go_at_call 80; (with_reducible refine (AB.out _).mono ?_); rintro e w4 ⟨rfl, q⟩; have B4 := Lib.hid (B3.out.trans (q.mono B3.out.size)); clear q)
    | (go_at_call 81; (with_reducible refine (SN.out _).mono ?_); rintro e w6 ⟨rfl, rfl⟩)
    | fail "arm")
  go_ret2
  rw [← HR.out]
  exact ⟨rfl, B4.out⟩

set_option maxRecDepth 100000 in
set_option maxHeartbeats 4000000 in
theorem rdec_some_full_pos (T P M C S0  R : ByteArray) (p k : Nat) (sg : Int) (w : World) (hp : p ≤ 12) (hp0 : 0 < p) (hsg : 0 ≤ sg) (hl : S0.size ≤ 400) (hk : S0.size = k + p) (hk0 : 0 < k) (hR : ((⟨#[]⟩ : ByteArray) ++ S0.extract 0 k) ++ (⟨#[46]⟩ : ByteArray) ++ S0.extract k (k + p) = R) (_ : S0.size ≤ 400) 
    (pw : ∀ W, Below w.heap.size w W → Calls Tryz.prog 79 #[.int .i64 p] W fun e w' => e = .returned (.string P) ∧ Below W.heap.size W w')
    (mu : ∀ W, Below w.heap.size w W → Calls Tryz.prog 38 #[.string T, .string P] W fun e w' => e = .returned (.string M) ∧ Below W.heap.size W w')
    (nr : ∀ W, Below w.heap.size w W → Calls Tryz.prog 78 #[.string M] W fun e w' => e = .returned (.string C) ∧ Below W.heap.size W w')
    (ab : ∀ W, Calls Tryz.prog 80 #[.string C] W fun e w' => e = .returned (.string S0) ∧ Below W.heap.size W w')
    (sn : ∀ W, Calls Tryz.prog 81 #[.string C] W fun e w' => e = .returned (.int .i64 sg) ∧ W = w') :
    Calls Tryz.prog 19 #[.string T, .int .i64 p] w fun e w' => e = .returned (.tuple #[.string R, .int .i64 0]) ∧ Below w.heap.size w w' := by
  have PW := Lib.hid pw
  have MU := Lib.hid mu
  have NR := Lib.hid nr
  have AB := Lib.hid ab
  have SN := Lib.hid sn
  have HR := Lib.hid hR
  have z1 : (⟨#[48]⟩ : ByteArray).size = 1 := rfl
  have z45 : (⟨#[45]⟩ : ByteArray).size = 1 := rfl
  have z46 : (⟨#[46]⟩ : ByteArray).size = 1 := rfl
  have z0 : (⟨#[]⟩ : ByteArray).size = 0 := rfl
  have B0 := Lib.hid (Below.refl w.heap.size w)
  have tsg : decide (sg < 0) = false := decide_eq_false (by omega)
  have tp0 : ((p : Int) == 0) = false := beq_eq_false_iff_ne.2 (by omega)
  have tlp : decide ((k : Int) + (p : Int) ≤ (p : Int)) = false := decide_eq_false (by omega)
  clear pw mu nr ab sn hR hsg
  go_enter Tryz.func19, Tryz.ntmps19
  go_wp2_with (first
    | (go_at_call 79; (with_reducible refine (PW.out _ B0.out).mono ?_); rintro e w1 ⟨rfl, q⟩; have B1 := Lib.hid (B0.out.trans (q.mono B0.out.size)); clear q)
    | (go_at_call 38; (with_reducible refine (MU.out _ B1.out).mono ?_); rintro e w2 ⟨rfl, q⟩; have B2 := Lib.hid (B1.out.trans (q.mono B1.out.size)); clear q)
    | (go_at_call 78; (with_reducible refine (NR.out _ B2.out).mono ?_); rintro e w3 ⟨rfl, q⟩; have B3 := Lib.hid (B2.out.trans (q.mono B2.out.size)); clear q)
    | (go_at_call 80; (with_reducible refine (AB.out _).mono ?_); rintro e w4 ⟨rfl, q⟩; have B4 := Lib.hid (B3.out.trans (q.mono B3.out.size)); clear q)
    | (go_at_call 81; (with_reducible refine (SN.out _).mono ?_); rintro e w6 ⟨rfl, rfl⟩)
    | fail "arm")
  go_quiet (fail)
  go_wp2
  go_ret2
  rw [← HR.out]
  exact ⟨rfl, B4.out.trans ((Drew.of _ _).below _)⟩

set_option maxRecDepth 100000 in
set_option maxHeartbeats 4000000 in
theorem rdec_some_full_neg (T P M C S0  R : ByteArray) (p k : Nat) (sg : Int) (w : World) (hp : p ≤ 12) (hp0 : 0 < p) (hsg : sg < 0) (hl : S0.size ≤ 400) (hk : S0.size = k + p) (hk0 : 0 < k) (hR : ((⟨#[45]⟩ : ByteArray) ++ S0.extract 0 k) ++ (⟨#[46]⟩ : ByteArray) ++ S0.extract k (k + p) = R) (_ : S0.size ≤ 400) 
    (pw : ∀ W, Below w.heap.size w W → Calls Tryz.prog 79 #[.int .i64 p] W fun e w' => e = .returned (.string P) ∧ Below W.heap.size W w')
    (mu : ∀ W, Below w.heap.size w W → Calls Tryz.prog 38 #[.string T, .string P] W fun e w' => e = .returned (.string M) ∧ Below W.heap.size W w')
    (nr : ∀ W, Below w.heap.size w W → Calls Tryz.prog 78 #[.string M] W fun e w' => e = .returned (.string C) ∧ Below W.heap.size W w')
    (ab : ∀ W, Calls Tryz.prog 80 #[.string C] W fun e w' => e = .returned (.string S0) ∧ Below W.heap.size W w')
    (sn : ∀ W, Calls Tryz.prog 81 #[.string C] W fun e w' => e = .returned (.int .i64 sg) ∧ W = w') :
    Calls Tryz.prog 19 #[.string T, .int .i64 p] w fun e w' => e = .returned (.tuple #[.string R, .int .i64 0]) ∧ Below w.heap.size w w' := by
  have PW := Lib.hid pw
  have MU := Lib.hid mu
  have NR := Lib.hid nr
  have AB := Lib.hid ab
  have SN := Lib.hid sn
  have HR := Lib.hid hR
  have z1 : (⟨#[48]⟩ : ByteArray).size = 1 := rfl
  have z45 : (⟨#[45]⟩ : ByteArray).size = 1 := rfl
  have z46 : (⟨#[46]⟩ : ByteArray).size = 1 := rfl
  have z0 : (⟨#[]⟩ : ByteArray).size = 0 := rfl
  have B0 := Lib.hid (Below.refl w.heap.size w)
  have tsg : decide (sg < 0) = true := decide_eq_true hsg
  have tp0 : ((p : Int) == 0) = false := beq_eq_false_iff_ne.2 (by omega)
  have tlp : decide ((k : Int) + (p : Int) ≤ (p : Int)) = false := decide_eq_false (by omega)
  clear pw mu nr ab sn hR hsg
  go_enter Tryz.func19, Tryz.ntmps19
  go_wp2_with (first
    | (go_at_call 79; (with_reducible refine (PW.out _ B0.out).mono ?_); rintro e w1 ⟨rfl, q⟩; have B1 := Lib.hid (B0.out.trans (q.mono B0.out.size)); clear q)
    | (go_at_call 38; (with_reducible refine (MU.out _ B1.out).mono ?_); rintro e w2 ⟨rfl, q⟩; have B2 := Lib.hid (B1.out.trans (q.mono B1.out.size)); clear q)
    | (go_at_call 78; (with_reducible refine (NR.out _ B2.out).mono ?_); rintro e w3 ⟨rfl, q⟩; have B3 := Lib.hid (B2.out.trans (q.mono B2.out.size)); clear q)
    | (go_at_call 80; (with_reducible refine (AB.out _).mono ?_); rintro e w4 ⟨rfl, q⟩; have B4 := Lib.hid (B3.out.trans (q.mono B3.out.size)); clear q)
    | (go_at_call 81; (with_reducible refine (SN.out _).mono ?_); rintro e w6 ⟨rfl, rfl⟩)
    | fail "arm")
  go_quiet (fail)
  go_wp2
  go_ret2
  rw [← HR.out]
  exact ⟨rfl, B4.out.trans ((Drew.of _ _).below _)⟩

set_option maxRecDepth 100000 in
set_option maxHeartbeats 4000000 in
theorem rdec_some_pad_pos (T P M C S0 Rp S R : ByteArray) (p k : Nat) (sg : Int) (w : World) (hp : p ≤ 12) (hp0 : 0 < p) (hsg : 0 ≤ sg) (hl : S0.size ≤ 400) (hlp : S0.size ≤ p) (_ : Rp.size ≤ 400) (hS : Rp ++ S0 = S) (hk : S.size = k + p) (_ : 0 < k) (hR : ((⟨#[]⟩ : ByteArray) ++ S.extract 0 k) ++ (⟨#[46]⟩ : ByteArray) ++ S.extract k (k + p) = R) (_ : S.size ≤ 400) 
    (pw : ∀ W, Below w.heap.size w W → Calls Tryz.prog 79 #[.int .i64 p] W fun e w' => e = .returned (.string P) ∧ Below W.heap.size W w')
    (mu : ∀ W, Below w.heap.size w W → Calls Tryz.prog 38 #[.string T, .string P] W fun e w' => e = .returned (.string M) ∧ Below W.heap.size W w')
    (nr : ∀ W, Below w.heap.size w W → Calls Tryz.prog 78 #[.string M] W fun e w' => e = .returned (.string C) ∧ Below W.heap.size W w')
    (ab : ∀ W, Calls Tryz.prog 80 #[.string C] W fun e w' => e = .returned (.string S0) ∧ Below W.heap.size W w')
    (sn : ∀ W, Calls Tryz.prog 81 #[.string C] W fun e w' => e = .returned (.int .i64 sg) ∧ W = w') 
    (rp : ∀ W, Calls Tryz.prog 14 #[.string ⟨#[48]⟩, .int .i64 ((p : Int) + 1 - (S0.size : Int))] W fun e w' => e = .returned (.string Rp) ∧ Below W.heap.size W w') :
    Calls Tryz.prog 19 #[.string T, .int .i64 p] w fun e w' => e = .returned (.tuple #[.string R, .int .i64 0]) ∧ Below w.heap.size w w' := by
  have HK := Lib.hid hk
  have HS := Lib.hid hS
  have PW := Lib.hid pw
  have MU := Lib.hid mu
  have NR := Lib.hid nr
  have AB := Lib.hid ab
  have SN := Lib.hid sn
  have RP := Lib.hid rp
  have HR := Lib.hid hR
  have z1 : (⟨#[48]⟩ : ByteArray).size = 1 := rfl
  have z45 : (⟨#[45]⟩ : ByteArray).size = 1 := rfl
  have z46 : (⟨#[46]⟩ : ByteArray).size = 1 := rfl
  have z0 : (⟨#[]⟩ : ByteArray).size = 0 := rfl
  have B0 := Lib.hid (Below.refl w.heap.size w)
  have tsg : decide (sg < 0) = false := decide_eq_false (by omega)
  have tp0 : ((p : Int) == 0) = false := beq_eq_false_iff_ne.2 (by omega)
  have tlp : decide ((S0.size : Int) ≤ (p : Int)) = true := decide_eq_true (by omega)
  have tlq : decide (S0.size ≤ p) = true := decide_eq_true hlp
  clear pw mu nr ab sn rp hR hsg hk hS
  go_enter Tryz.func19, Tryz.ntmps19
  go_upto_region 7 with (first
    | (go_at_call 79; (with_reducible refine (PW.out _ B0.out).mono ?_); rintro e w1 ⟨rfl, q⟩; have B1 := Lib.hid (B0.out.trans (q.mono B0.out.size)); clear q)
    | (go_at_call 38; (with_reducible refine (MU.out _ B1.out).mono ?_); rintro e w2 ⟨rfl, q⟩; have B2 := Lib.hid (B1.out.trans (q.mono B1.out.size)); clear q)
    | (go_at_call 78; (with_reducible refine (NR.out _ B2.out).mono ?_); rintro e w3 ⟨rfl, q⟩; have B3 := Lib.hid (B2.out.trans (q.mono B2.out.size)); clear q)
    | (go_at_call 80; (with_reducible refine (AB.out _).mono ?_); rintro e w4 ⟨rfl, q⟩; have B4 := Lib.hid (B3.out.trans (q.mono B3.out.size)); clear q)
    | (go_at_call 14; (with_reducible refine (RP.out _).mono ?_); rintro e w5 ⟨rfl, q⟩; have B5 := Lib.hid (B4.out.trans (q.mono B4.out.size)); clear q)
    | fail "arm")
  generalize Rp ++ S0 = S1 at *
  obtain rfl := HS.out
  have hk := HK.out
  clear hlp tlp tlq
  go_wp2_with (first
    | (go_at_call 81; (with_reducible refine (SN.out _).mono ?_); rintro e w6 ⟨rfl, rfl⟩)
    | fail "arm")
  go_quiet (fail)
  go_wp2
  go_ret2
  rw [← HR.out]
  exact ⟨rfl, B5.out.trans ((Drew.of _ _).below _)⟩

set_option maxRecDepth 100000 in
set_option maxHeartbeats 4000000 in
theorem rdec_some_pad_neg (T P M C S0 Rp S R : ByteArray) (p k : Nat) (sg : Int) (w : World) (hp : p ≤ 12) (hp0 : 0 < p) (hsg : sg < 0) (hl : S0.size ≤ 400) (hlp : S0.size ≤ p) (_ : Rp.size ≤ 400) (hS : Rp ++ S0 = S) (hk : S.size = k + p) (_ : 0 < k) (hR : ((⟨#[45]⟩ : ByteArray) ++ S.extract 0 k) ++ (⟨#[46]⟩ : ByteArray) ++ S.extract k (k + p) = R) (_ : S.size ≤ 400) 
    (pw : ∀ W, Below w.heap.size w W → Calls Tryz.prog 79 #[.int .i64 p] W fun e w' => e = .returned (.string P) ∧ Below W.heap.size W w')
    (mu : ∀ W, Below w.heap.size w W → Calls Tryz.prog 38 #[.string T, .string P] W fun e w' => e = .returned (.string M) ∧ Below W.heap.size W w')
    (nr : ∀ W, Below w.heap.size w W → Calls Tryz.prog 78 #[.string M] W fun e w' => e = .returned (.string C) ∧ Below W.heap.size W w')
    (ab : ∀ W, Calls Tryz.prog 80 #[.string C] W fun e w' => e = .returned (.string S0) ∧ Below W.heap.size W w')
    (sn : ∀ W, Calls Tryz.prog 81 #[.string C] W fun e w' => e = .returned (.int .i64 sg) ∧ W = w') 
    (rp : ∀ W, Calls Tryz.prog 14 #[.string ⟨#[48]⟩, .int .i64 ((p : Int) + 1 - (S0.size : Int))] W fun e w' => e = .returned (.string Rp) ∧ Below W.heap.size W w') :
    Calls Tryz.prog 19 #[.string T, .int .i64 p] w fun e w' => e = .returned (.tuple #[.string R, .int .i64 0]) ∧ Below w.heap.size w w' := by
  have HK := Lib.hid hk
  have HS := Lib.hid hS
  have PW := Lib.hid pw
  have MU := Lib.hid mu
  have NR := Lib.hid nr
  have AB := Lib.hid ab
  have SN := Lib.hid sn
  have RP := Lib.hid rp
  have HR := Lib.hid hR
  have z1 : (⟨#[48]⟩ : ByteArray).size = 1 := rfl
  have z45 : (⟨#[45]⟩ : ByteArray).size = 1 := rfl
  have z46 : (⟨#[46]⟩ : ByteArray).size = 1 := rfl
  have z0 : (⟨#[]⟩ : ByteArray).size = 0 := rfl
  have B0 := Lib.hid (Below.refl w.heap.size w)
  have tsg : decide (sg < 0) = true := decide_eq_true hsg
  have tp0 : ((p : Int) == 0) = false := beq_eq_false_iff_ne.2 (by omega)
  have tlp : decide ((S0.size : Int) ≤ (p : Int)) = true := decide_eq_true (by omega)
  have tlq : decide (S0.size ≤ p) = true := decide_eq_true hlp
  clear pw mu nr ab sn rp hR hsg hk hS
  go_enter Tryz.func19, Tryz.ntmps19
  go_upto_region 7 with (first
    | (go_at_call 79; (with_reducible refine (PW.out _ B0.out).mono ?_); rintro e w1 ⟨rfl, q⟩; have B1 := Lib.hid (B0.out.trans (q.mono B0.out.size)); clear q)
    | (go_at_call 38; (with_reducible refine (MU.out _ B1.out).mono ?_); rintro e w2 ⟨rfl, q⟩; have B2 := Lib.hid (B1.out.trans (q.mono B1.out.size)); clear q)
    | (go_at_call 78; (with_reducible refine (NR.out _ B2.out).mono ?_); rintro e w3 ⟨rfl, q⟩; have B3 := Lib.hid (B2.out.trans (q.mono B2.out.size)); clear q)
    | (go_at_call 80; (with_reducible refine (AB.out _).mono ?_); rintro e w4 ⟨rfl, q⟩; have B4 := Lib.hid (B3.out.trans (q.mono B3.out.size)); clear q)
    | (go_at_call 14; (with_reducible refine (RP.out _).mono ?_); rintro e w5 ⟨rfl, q⟩; have B5 := Lib.hid (B4.out.trans (q.mono B4.out.size)); clear q)
    | fail "arm")
  generalize Rp ++ S0 = S1 at *
  obtain rfl := HS.out
  have hk := HK.out
  clear hlp tlp tlq
  go_wp2_with (first
    | (go_at_call 81; (with_reducible refine (SN.out _).mono ?_); rintro e w6 ⟨rfl, rfl⟩)
    | fail "arm")
  go_quiet (fail)
  go_wp2
  go_ret2
  rw [← HR.out]
  exact ⟨rfl, B5.out.trans ((Drew.of _ _).below _)⟩

set_option maxRecDepth 100000 in
set_option maxHeartbeats 4000000 in
theorem pdec_zero_pos (T P M C S0 SF Rp R : ByteArray) (p k : Nat) (w : World) (hp : p ≤ 12) (hp0 : p = 0) (_ : S0.size ≤ 400) (hk : SF.size = k + p) (_ : 0 < k) (_ : SF.size ≤ 400) 
    (hfin : ∀ (S : ByteArray) (j : Nat), S.data.toList = List.replicate j 48 ++ S0.data.toList → p < S.size → (j = 0 ∨ S0.size + j ≤ p + 1) → S = SF) (hR : SF = R) 
    (rp : ∀ W, Calls Tryz.prog 14 #[.string ⟨#[48]⟩, .int .i64 p] W fun e w' => e = .returned (.string Rp) ∧ Below W.heap.size W w') (hP : (⟨#[49]⟩ : ByteArray) ++ Rp = P) (_ : Rp.size ≤ 12)
    (mu : ∀ W, Below w.heap.size w W → Calls Tryz.prog 23 #[.string T, .string P] W fun e w' => e = .returned (.string M) ∧ Below W.heap.size W w')
    (nr : ∀ W, Below w.heap.size w W → Calls Tryz.prog 22 #[.string M] W fun e w' => e = .returned (.string C) ∧ Below W.heap.size W w')
    (sp : ∀ W, Calls Tryz.prog 82 #[.string C] W fun e w' => e = .returned (.tuple #[.bool false, .string S0]) ∧ Drew W w') :
    Calls Tryz.prog 20 #[.string T, .int .i64 p] w fun e w' => e = .returned (.string R) ∧ Below w.heap.size w w' := by
  have RP1 := Lib.hid rp
  have HP1 := Lib.hid hP
  have MU1 := Lib.hid mu
  have NR1 := Lib.hid nr
  have SP1 := Lib.hid sp
  have HFIN1 := Lib.hid hfin
  have HR1 := Lib.hid hR
  have HK1 := Lib.hid hk
  have z1 : (⟨#[48]⟩ : ByteArray).size = 1 := rfl
  have z45 : (⟨#[45]⟩ : ByteArray).size = 1 := rfl
  have z46 : (⟨#[46]⟩ : ByteArray).size = 1 := rfl
  have z49 : (⟨#[49]⟩ : ByteArray).size = 1 := rfl
  have B0 := Lib.hid (Below.refl w.heap.size w)
  have tp0 : decide ((p : Int) > 0) = false := decide_eq_false (by omega)
  have tp1 : decide (p > 0) = false := decide_eq_false (by omega)
  clear hp0 rp hP mu nr sp hfin hR hk
  go_enter Tryz.func20, Tryz.ntmps20
  go_wp2_with (first
    | (go_at_call 14; (with_reducible refine (RP1.out _).mono ?_); rintro e w1 ⟨rfl, q⟩; have B1 := Lib.hid q; clear q)
    | (rw [HP1.out]; go_at_call 23; (with_reducible refine (MU1.out _ B1.out).mono ?_); rintro e w2 ⟨rfl, q⟩; have B2 := Lib.hid (B1.out.trans (q.mono B1.out.size)); clear q)
    | (go_at_call 22; (with_reducible refine (NR1.out _ B2.out).mono ?_); rintro e w3 ⟨rfl, q⟩; have B3 := Lib.hid (B2.out.trans (q.mono B2.out.size)); clear q)
    | (go_at_call 82; (with_reducible refine (SP1.out _).mono ?_); rintro e w4 ⟨rfl, q⟩; have B4 := Lib.hid (B3.out.trans (q.below _)); clear q)
    | fail "arm")
  go_loop [7] (fun v => ∃ (S : ByteArray) (j : Nat), v = .string S ∧ Hid (S.data.toList = List.replicate j 48 ++ S0.data.toList) ∧ S.size = j + S0.size ∧ (j = 0 ∨ S0.size + j ≤ p + 1)) (fun v => p + 1 - strLen v)
  case atStart => exact ⟨S0, 0, rfl, Lib.hid rfl, by omega, .inl rfl⟩
  case round =>
    obtain ⟨S, j, rfl, HL, hs, hj⟩ := hrel
    by_cases hlt : S.size ≤ p
    · have t1 : decide ((S.size : Int) ≤ (p : Int)) = true := decide_eq_true (by omega)
      have HJ := Lib.hid hs
      have hs4 : S.size ≤ 20 := by omega
      clear hs
      go_wp2
      go_round
      case rel => exact ⟨(⟨#[48]⟩ : ByteArray) ++ S, j + 1, rfl, Lib.hid (by rw [ByteArray.data_append, Array.toList_append, HL.out]; rfl), by rw [ByteArray.size_append, HJ.out]; omega, .inr (by have := HJ.out; omega)⟩
      case measure => have := ByteArray.size_append (a := (⟨#[48]⟩ : ByteArray)) (b := S); simp [strLen]; omega
    · obtain rfl := HFIN1.out S j HL.out (by omega) hj
      have t1 : decide ((S.size : Int) ≤ (p : Int)) = false := decide_eq_false (by omega)
      have hk := HK1.out
      clear HL hj hs
      go_wp2
      go_ret
      rw [← HR1.out]
      exact ⟨rfl, B4.out⟩

set_option maxRecDepth 100000 in
set_option maxHeartbeats 4000000 in
theorem pdec_zero_neg (T P M C S0 SF Rp R : ByteArray) (p k : Nat) (w : World) (hp : p ≤ 12) (hp0 : p = 0) (_ : S0.size ≤ 400) (hk : SF.size = k + p) (_ : 0 < k) (_ : SF.size ≤ 400) 
    (hfin : ∀ (S : ByteArray) (j : Nat), S.data.toList = List.replicate j 48 ++ S0.data.toList → p < S.size → (j = 0 ∨ S0.size + j ≤ p + 1) → S = SF) (hR : (⟨#[45]⟩ : ByteArray) ++ (SF) = R) 
    (rp : ∀ W, Calls Tryz.prog 14 #[.string ⟨#[48]⟩, .int .i64 p] W fun e w' => e = .returned (.string Rp) ∧ Below W.heap.size W w') (hP : (⟨#[49]⟩ : ByteArray) ++ Rp = P) (_ : Rp.size ≤ 12)
    (mu : ∀ W, Below w.heap.size w W → Calls Tryz.prog 23 #[.string T, .string P] W fun e w' => e = .returned (.string M) ∧ Below W.heap.size W w')
    (nr : ∀ W, Below w.heap.size w W → Calls Tryz.prog 22 #[.string M] W fun e w' => e = .returned (.string C) ∧ Below W.heap.size W w')
    (sp : ∀ W, Calls Tryz.prog 82 #[.string C] W fun e w' => e = .returned (.tuple #[.bool true, .string S0]) ∧ Drew W w') :
    Calls Tryz.prog 20 #[.string T, .int .i64 p] w fun e w' => e = .returned (.string R) ∧ Below w.heap.size w w' := by
  have RP1 := Lib.hid rp
  have HP1 := Lib.hid hP
  have MU1 := Lib.hid mu
  have NR1 := Lib.hid nr
  have SP1 := Lib.hid sp
  have HFIN1 := Lib.hid hfin
  have HR1 := Lib.hid hR
  have HK1 := Lib.hid hk
  have z1 : (⟨#[48]⟩ : ByteArray).size = 1 := rfl
  have z45 : (⟨#[45]⟩ : ByteArray).size = 1 := rfl
  have z46 : (⟨#[46]⟩ : ByteArray).size = 1 := rfl
  have z49 : (⟨#[49]⟩ : ByteArray).size = 1 := rfl
  have B0 := Lib.hid (Below.refl w.heap.size w)
  have tp0 : decide ((p : Int) > 0) = false := decide_eq_false (by omega)
  have tp1 : decide (p > 0) = false := decide_eq_false (by omega)
  clear hp0 rp hP mu nr sp hfin hR hk
  go_enter Tryz.func20, Tryz.ntmps20
  go_wp2_with (first
    | (go_at_call 14; (with_reducible refine (RP1.out _).mono ?_); rintro e w1 ⟨rfl, q⟩; have B1 := Lib.hid q; clear q)
    | (rw [HP1.out]; go_at_call 23; (with_reducible refine (MU1.out _ B1.out).mono ?_); rintro e w2 ⟨rfl, q⟩; have B2 := Lib.hid (B1.out.trans (q.mono B1.out.size)); clear q)
    | (go_at_call 22; (with_reducible refine (NR1.out _ B2.out).mono ?_); rintro e w3 ⟨rfl, q⟩; have B3 := Lib.hid (B2.out.trans (q.mono B2.out.size)); clear q)
    | (go_at_call 82; (with_reducible refine (SP1.out _).mono ?_); rintro e w4 ⟨rfl, q⟩; have B4 := Lib.hid (B3.out.trans (q.below _)); clear q)
    | fail "arm")
  go_loop [7] (fun v => ∃ (S : ByteArray) (j : Nat), v = .string S ∧ Hid (S.data.toList = List.replicate j 48 ++ S0.data.toList) ∧ S.size = j + S0.size ∧ (j = 0 ∨ S0.size + j ≤ p + 1)) (fun v => p + 1 - strLen v)
  case atStart => exact ⟨S0, 0, rfl, Lib.hid rfl, by omega, .inl rfl⟩
  case round =>
    obtain ⟨S, j, rfl, HL, hs, hj⟩ := hrel
    by_cases hlt : S.size ≤ p
    · have t1 : decide ((S.size : Int) ≤ (p : Int)) = true := decide_eq_true (by omega)
      have HJ := Lib.hid hs
      have hs4 : S.size ≤ 20 := by omega
      clear hs
      go_wp2
      go_round
      case rel => exact ⟨(⟨#[48]⟩ : ByteArray) ++ S, j + 1, rfl, Lib.hid (by rw [ByteArray.data_append, Array.toList_append, HL.out]; rfl), by rw [ByteArray.size_append, HJ.out]; omega, .inr (by have := HJ.out; omega)⟩
      case measure => have := ByteArray.size_append (a := (⟨#[48]⟩ : ByteArray)) (b := S); simp [strLen]; omega
    · obtain rfl := HFIN1.out S j HL.out (by omega) hj
      have t1 : decide ((S.size : Int) ≤ (p : Int)) = false := decide_eq_false (by omega)
      have hk := HK1.out
      clear HL hj hs
      go_wp2
      go_ret
      rw [← HR1.out]
      exact ⟨rfl, B4.out⟩

set_option maxRecDepth 100000 in
set_option maxHeartbeats 4000000 in
theorem pdec_some_pos (T P M C S0 SF Rp R : ByteArray) (p k : Nat) (w : World) (hp : p ≤ 12) (hp0 : 0 < p) (_ : S0.size ≤ 400) (hk : SF.size = k + p) (_ : 0 < k) (_ : SF.size ≤ 400) 
    (hfin : ∀ (S : ByteArray) (j : Nat), S.data.toList = List.replicate j 48 ++ S0.data.toList → p < S.size → (j = 0 ∨ S0.size + j ≤ p + 1) → S = SF) (hR : (SF.extract 0 k ++ (⟨#[46]⟩ : ByteArray)) ++ SF.extract k (k + p) = R) 
    (rp : ∀ W, Calls Tryz.prog 14 #[.string ⟨#[48]⟩, .int .i64 p] W fun e w' => e = .returned (.string Rp) ∧ Below W.heap.size W w') (hP : (⟨#[49]⟩ : ByteArray) ++ Rp = P) (_ : Rp.size ≤ 12)
    (mu : ∀ W, Below w.heap.size w W → Calls Tryz.prog 23 #[.string T, .string P] W fun e w' => e = .returned (.string M) ∧ Below W.heap.size W w')
    (nr : ∀ W, Below w.heap.size w W → Calls Tryz.prog 22 #[.string M] W fun e w' => e = .returned (.string C) ∧ Below W.heap.size W w')
    (sp : ∀ W, Calls Tryz.prog 82 #[.string C] W fun e w' => e = .returned (.tuple #[.bool false, .string S0]) ∧ Drew W w') :
    Calls Tryz.prog 20 #[.string T, .int .i64 p] w fun e w' => e = .returned (.string R) ∧ Below w.heap.size w w' := by
  have RP1 := Lib.hid rp
  have HP1 := Lib.hid hP
  have MU1 := Lib.hid mu
  have NR1 := Lib.hid nr
  have SP1 := Lib.hid sp
  have HFIN1 := Lib.hid hfin
  have HR1 := Lib.hid hR
  have HK1 := Lib.hid hk
  have z1 : (⟨#[48]⟩ : ByteArray).size = 1 := rfl
  have z45 : (⟨#[45]⟩ : ByteArray).size = 1 := rfl
  have z46 : (⟨#[46]⟩ : ByteArray).size = 1 := rfl
  have z49 : (⟨#[49]⟩ : ByteArray).size = 1 := rfl
  have B0 := Lib.hid (Below.refl w.heap.size w)
  have tp0 : decide ((p : Int) > 0) = true := decide_eq_true (by omega)
  have tp1 : decide (p > 0) = true := decide_eq_true (by omega)
  clear hp0 rp hP mu nr sp hfin hR hk
  go_enter Tryz.func20, Tryz.ntmps20
  go_wp2_with (first
    | (go_at_call 14; (with_reducible refine (RP1.out _).mono ?_); rintro e w1 ⟨rfl, q⟩; have B1 := Lib.hid q; clear q)
    | (rw [HP1.out]; go_at_call 23; (with_reducible refine (MU1.out _ B1.out).mono ?_); rintro e w2 ⟨rfl, q⟩; have B2 := Lib.hid (B1.out.trans (q.mono B1.out.size)); clear q)
    | (go_at_call 22; (with_reducible refine (NR1.out _ B2.out).mono ?_); rintro e w3 ⟨rfl, q⟩; have B3 := Lib.hid (B2.out.trans (q.mono B2.out.size)); clear q)
    | (go_at_call 82; (with_reducible refine (SP1.out _).mono ?_); rintro e w4 ⟨rfl, q⟩; have B4 := Lib.hid (B3.out.trans (q.below _)); clear q)
    | fail "arm")
  go_loop [7] (fun v => ∃ (S : ByteArray) (j : Nat), v = .string S ∧ Hid (S.data.toList = List.replicate j 48 ++ S0.data.toList) ∧ S.size = j + S0.size ∧ (j = 0 ∨ S0.size + j ≤ p + 1)) (fun v => p + 1 - strLen v)
  case atStart => exact ⟨S0, 0, rfl, Lib.hid rfl, by omega, .inl rfl⟩
  case round =>
    obtain ⟨S, j, rfl, HL, hs, hj⟩ := hrel
    by_cases hlt : S.size ≤ p
    · have t1 : decide ((S.size : Int) ≤ (p : Int)) = true := decide_eq_true (by omega)
      have HJ := Lib.hid hs
      have hs4 : S.size ≤ 20 := by omega
      clear hs
      go_wp2
      go_round
      case rel => exact ⟨(⟨#[48]⟩ : ByteArray) ++ S, j + 1, rfl, Lib.hid (by rw [ByteArray.data_append, Array.toList_append, HL.out]; rfl), by rw [ByteArray.size_append, HJ.out]; omega, .inr (by have := HJ.out; omega)⟩
      case measure => have := ByteArray.size_append (a := (⟨#[48]⟩ : ByteArray)) (b := S); simp [strLen]; omega
    · obtain rfl := HFIN1.out S j HL.out (by omega) hj
      have t1 : decide ((S.size : Int) ≤ (p : Int)) = false := decide_eq_false (by omega)
      have hk := HK1.out
      clear HL hj hs
      go_upto_region 6 with (fail)
      go_quiet (fail)
      go_wp2
      go_ret
      rw [← HR1.out]
      exact ⟨rfl, B4.out.trans ((Drew.of _ _).below _)⟩

set_option maxRecDepth 100000 in
set_option maxHeartbeats 4000000 in
theorem pdec_some_neg (T P M C S0 SF Rp R : ByteArray) (p k : Nat) (w : World) (hp : p ≤ 12) (hp0 : 0 < p) (_ : S0.size ≤ 400) (hk : SF.size = k + p) (_ : 0 < k) (_ : SF.size ≤ 400) 
    (hfin : ∀ (S : ByteArray) (j : Nat), S.data.toList = List.replicate j 48 ++ S0.data.toList → p < S.size → (j = 0 ∨ S0.size + j ≤ p + 1) → S = SF) (hR : (⟨#[45]⟩ : ByteArray) ++ ((SF.extract 0 k ++ (⟨#[46]⟩ : ByteArray)) ++ SF.extract k (k + p)) = R) 
    (rp : ∀ W, Calls Tryz.prog 14 #[.string ⟨#[48]⟩, .int .i64 p] W fun e w' => e = .returned (.string Rp) ∧ Below W.heap.size W w') (hP : (⟨#[49]⟩ : ByteArray) ++ Rp = P) (_ : Rp.size ≤ 12)
    (mu : ∀ W, Below w.heap.size w W → Calls Tryz.prog 23 #[.string T, .string P] W fun e w' => e = .returned (.string M) ∧ Below W.heap.size W w')
    (nr : ∀ W, Below w.heap.size w W → Calls Tryz.prog 22 #[.string M] W fun e w' => e = .returned (.string C) ∧ Below W.heap.size W w')
    (sp : ∀ W, Calls Tryz.prog 82 #[.string C] W fun e w' => e = .returned (.tuple #[.bool true, .string S0]) ∧ Drew W w') :
    Calls Tryz.prog 20 #[.string T, .int .i64 p] w fun e w' => e = .returned (.string R) ∧ Below w.heap.size w w' := by
  have RP1 := Lib.hid rp
  have HP1 := Lib.hid hP
  have MU1 := Lib.hid mu
  have NR1 := Lib.hid nr
  have SP1 := Lib.hid sp
  have HFIN1 := Lib.hid hfin
  have HR1 := Lib.hid hR
  have HK1 := Lib.hid hk
  have z1 : (⟨#[48]⟩ : ByteArray).size = 1 := rfl
  have z45 : (⟨#[45]⟩ : ByteArray).size = 1 := rfl
  have z46 : (⟨#[46]⟩ : ByteArray).size = 1 := rfl
  have z49 : (⟨#[49]⟩ : ByteArray).size = 1 := rfl
  have B0 := Lib.hid (Below.refl w.heap.size w)
  have tp0 : decide ((p : Int) > 0) = true := decide_eq_true (by omega)
  have tp1 : decide (p > 0) = true := decide_eq_true (by omega)
  clear hp0 rp hP mu nr sp hfin hR hk
  go_enter Tryz.func20, Tryz.ntmps20
  go_wp2_with (first
    | (go_at_call 14; (with_reducible refine (RP1.out _).mono ?_); rintro e w1 ⟨rfl, q⟩; have B1 := Lib.hid q; clear q)
    | (rw [HP1.out]; go_at_call 23; (with_reducible refine (MU1.out _ B1.out).mono ?_); rintro e w2 ⟨rfl, q⟩; have B2 := Lib.hid (B1.out.trans (q.mono B1.out.size)); clear q)
    | (go_at_call 22; (with_reducible refine (NR1.out _ B2.out).mono ?_); rintro e w3 ⟨rfl, q⟩; have B3 := Lib.hid (B2.out.trans (q.mono B2.out.size)); clear q)
    | (go_at_call 82; (with_reducible refine (SP1.out _).mono ?_); rintro e w4 ⟨rfl, q⟩; have B4 := Lib.hid (B3.out.trans (q.below _)); clear q)
    | fail "arm")
  go_loop [7] (fun v => ∃ (S : ByteArray) (j : Nat), v = .string S ∧ Hid (S.data.toList = List.replicate j 48 ++ S0.data.toList) ∧ S.size = j + S0.size ∧ (j = 0 ∨ S0.size + j ≤ p + 1)) (fun v => p + 1 - strLen v)
  case atStart => exact ⟨S0, 0, rfl, Lib.hid rfl, by omega, .inl rfl⟩
  case round =>
    obtain ⟨S, j, rfl, HL, hs, hj⟩ := hrel
    by_cases hlt : S.size ≤ p
    · have t1 : decide ((S.size : Int) ≤ (p : Int)) = true := decide_eq_true (by omega)
      have HJ := Lib.hid hs
      have hs4 : S.size ≤ 20 := by omega
      clear hs
      go_wp2
      go_round
      case rel => exact ⟨(⟨#[48]⟩ : ByteArray) ++ S, j + 1, rfl, Lib.hid (by rw [ByteArray.data_append, Array.toList_append, HL.out]; rfl), by rw [ByteArray.size_append, HJ.out]; omega, .inr (by have := HJ.out; omega)⟩
      case measure => have := ByteArray.size_append (a := (⟨#[48]⟩ : ByteArray)) (b := S); simp [strLen]; omega
    · obtain rfl := HFIN1.out S j HL.out (by omega) hj
      have t1 : decide ((S.size : Int) ≤ (p : Int)) = false := decide_eq_false (by omega)
      have hk := HK1.out
      clear HL hj hs
      go_upto_region 6 with (fail)
      go_quiet (fail)
      go_wp2
      go_ret
      rw [← HR1.out]
      exact ⟨rfl, B4.out.trans ((Drew.of _ _).below _)⟩

end Go.Proofs.YtjkbgjjfchhpfaaGreatDoor
