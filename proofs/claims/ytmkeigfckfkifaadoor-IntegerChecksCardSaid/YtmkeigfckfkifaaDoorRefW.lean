/- The walks of klipperef01.Canonical and Right at whatever text. -/
import Derived.Test.YtmkeigfckfkifaaDoorCheck
import Derived.Test.YtmkeigfckfkifaaDoorRefS
import Derived.Test.YtmkeigfckfkifaaDoorRefG
namespace Go.Proofs.YtmkeigfckfkifaaDoor
open Go.RowKit

/-- The digits of a canonical integer. -/
def canonL (neg : Bool) (t : List UInt8) : Bool := !t.isEmpty && allDigB t && !(t.head? == some 48 && (neg || decide (1 < t.length)))

theorem rightL_eq (neg : Bool) (t : List UInt8) : rightL neg t = (canonL neg t && decide (t.length ≤ 200)) := by
  unfold rightL headB canonL
  cases t.isEmpty <;> cases allDigB t <;> cases decide (t.length ≤ 200) <;> simp

theorem ret_bl {a b : Bool} (h : a = b) : Ending.returned (.bool a) = .returned (.bool b) := by rw [h]

set_option maxHeartbeats 2000000 in
theorem canonical_of (s T : ByteArray) (neg : Bool) (w : World) (hT : T.size ≤ 1000000)
    (hsp : Calls Tryd.prog 39 #[.string s] w fun e w' => e = .returned (.tuple #[.bool neg, .string T]) ∧ Drew w w') :
    Calls Tryd.prog 44 #[.string s] w fun e w' => e = .returned (.bool (canonL neg T.data.toList)) ∧ Drew w w' := by
  have HSP := Lib.hid hsp
  clear hsp
  have hl : T.data.toList.length = T.size := (Lib.size_eq T).symm
  have hdig : allDigB T.data.toList = false → canonL neg T.data.toList = false := fun h => by unfold canonL; rw [h]; simp
  have hemp : T.size = 0 → canonL neg T.data.toList = false := fun h => by
    have hn : T.data.toList = [] := List.length_eq_zero_iff.1 (by omega)
    rw [hn]; rfl
  have hfin : ∀ h0 : 0 < T.size, allDigB T.data.toList = true → canonL neg T.data.toList = !(T[0] == 48 && (neg || decide (1 < T.size))) := fun h0 ha => by
    have hne : T.data.toList.isEmpty = false := by
      cases h : T.data.toList with
      | nil => rw [h] at hl; simp at hl; omega
      | cons c l => rfl
    unfold canonL
    rw [ha, hne, head_of T h0, hl]
    have e : (some T[0] == some (48 : UInt8)) = (T[0] == 48) := by simp
    rw [e]; rfl
  obtain ⟨Z, hZ⟩ : ∃ Z, canonL neg T.data.toList = Z := ⟨_, rfl⟩
  rw [hZ] at hdig hemp hfin ⊢
  have HB := Lib.hid hdig
  have HE := Lib.hid hemp
  have HF := Lib.hid hfin
  clear hdig hemp hfin hZ hl
  go_enter Tryd.func44, Tryd.ntmps44
  go_wp2_with (go_at_call 39; (with_reducible refine HSP.out.mono ?_); rintro e w1 ⟨rfl, nd, rfl⟩)
  go_loop [5] (fun iv => ∃ k : Nat, k ≤ T.size ∧ iv = .int .i64 k ∧ Hid (AllDig (T.data.toList.take k))) (fun iv => T.size - (intOf iv).toNat)
  case atStart => exact ⟨0, Nat.zero_le _, rfl, Lib.hid (by intro c hc; simp at hc)⟩
  case round =>
    obtain ⟨k, hk, rfl, HK⟩ := hrel
    by_cases hlt : k < T.size
    · by_cases hlo : T[k].toNat < 48
      · have HV := Lib.hid (HB.out (notDig_of_get T k hlt (by omega)))
        go_wp2
        go_ret
        exact ⟨ret_bl HV.out.symm, Drew.of _ _⟩
      · have hlo' : decide ((T[k].toNat : Int) < 48) = false := decide_eq_false (by omega)
        by_cases hhi : 57 < T[k].toNat
        · have HV := Lib.hid (HB.out (notDig_of_get T k hlt (by omega)))
          go_wp2
          go_ret
          exact ⟨ret_bl HV.out.symm, Drew.of _ _⟩
        · have hhi' : decide ((57 : Int) < (T[k].toNat : Int)) = false := decide_eq_false (by omega)
          have HN : Hid (AllDig (T.data.toList.take (k + 1))) := Lib.hid (allDig_succ T k hlt HK.out ⟨by omega, by omega⟩)
          clear hlo hhi
          go_wp2
          go_round
          case rel => exact ⟨k + 1, by omega, by go_num, HN⟩
          case measure => simp [intOf]; omega
    · obtain rfl : k = T.size := by omega
      have HA := Lib.hid (allDig_whole T HK.out)
      clear HK
      by_cases h0 : T.size = 0
      · have HV := Lib.hid (HE.out h0)
        go_wp2
        go_ret
        exact ⟨ret_bl HV.out.symm, Drew.of _ _⟩
      · have h0' : 0 < T.size := by omega
        have hf := HF.out h0' HA.out
        have hz : ((T.size : Int) == 0) = false := beq_eq_false_iff_ne.2 (by omega)
        by_cases h48 : T[0].toNat = 48
        · have hc : ((T[0].toNat : Int) == 48) = true := by rw [h48]; rfl
          have h8 : T[0] = 48 := UInt8.toNat_inj.1 h48
          rw [h8] at hf
          by_cases hone : 1 < T.size
          · have hoi : decide ((1 : Int) < (T.size : Int)) = true := decide_eq_true (by omega)
            have HV : Hid (Z = false) := by rw [hf, decide_eq_true hone]; cases neg <;> rfl
            clear hf h8 h0 hk
            cases neg with
            | true =>
              go_wp2
              go_ret
              exact ⟨ret_bl HV.out.symm, Drew.of _ _⟩
            | false =>
              go_wp2
              go_ret
              exact ⟨ret_bl HV.out.symm, Drew.of _ _⟩
          · have ho1 : decide ((1 : Int) < (T.size : Int)) = false := decide_eq_false (by omega)
            have ho2 : decide (1 < T.size) = false := decide_eq_false hone
            rw [ho2] at hf
            cases neg with
            | true =>
              have HV : Hid (Z = false) := by rw [hf]; rfl
              clear hf h8 h0 hk
              go_wp2
              go_ret
              exact ⟨ret_bl HV.out.symm, Drew.of _ _⟩
            | false =>
              have HV : Hid (Z = true) := by rw [hf]; rfl
              clear hf h8 h0 hk
              go_wp2
              go_ret
              exact ⟨ret_bl HV.out.symm, Drew.of _ _⟩
        · have hc : ((T[0].toNat : Int) == 48) = false := beq_eq_false_iff_ne.2 (by omega)
          have hc2 : (T[0] == 48) = false := beq_eq_false_iff_ne.2 (fun e => h48 (by rw [e]; rfl))
          have HV : Hid (Z = true) := by rw [hf, hc2]; rfl
          clear hf h0 hk hc2
          go_wp2
          go_ret
          exact ⟨ret_bl HV.out.symm, Drew.of _ _⟩

set_option maxHeartbeats 1000000 in
theorem right_of (s T : ByteArray) (neg : Bool) (w : World) (hT : T.size ≤ 1000000)
    (hsp : ∀ W, Calls Tryd.prog 39 #[.string s] W fun e w' => e = .returned (.tuple #[.bool neg, .string T]) ∧ Drew W w') :
    Calls Tryd.prog 17 #[.string s] w fun e w' => e = .returned (.bool (rightL neg T.data.toList)) ∧ Drew w w' := by
  have hca := fun W => canonical_of s T neg W hT (hsp W)
  have hl : T.data.toList.length = T.size := (Lib.size_eq T).symm
  have he := rightL_eq neg T.data.toList
  rw [hl] at he
  obtain ⟨Z, hZ⟩ : ∃ Z, rightL neg T.data.toList = Z := ⟨_, rfl⟩
  obtain ⟨c, hc⟩ : ∃ c, canonL neg T.data.toList = c := ⟨_, rfl⟩
  rw [hZ, hc] at he
  rw [hZ]
  rw [hc] at hca
  have HSP := Lib.hid hsp
  have HCA := Lib.hid hca
  clear hsp hca hl hZ hc
  cases c with
  | false =>
    have HV : Hid (Z = false) := by rw [he]; rfl
    clear he
    go_enter Tryd.func17, Tryd.ntmps17
    go_wp2_with (first
      | (go_at_call 39; (with_reducible refine (HSP.out _).mono ?_); rintro e w1 ⟨rfl, nd, rfl⟩)
      | (go_at_call 44; (with_reducible refine (HCA.out _).mono ?_); rintro e w2 ⟨rfl, nd2, rfl⟩))
    go_ret
    exact ⟨ret_bl HV.out.symm, Drew.of _ _⟩
  | true =>
    by_cases h2 : T.size ≤ 200
    · have HV : Hid (Z = true) := by rw [he, decide_eq_true h2]; rfl
      have hi : decide ((T.size : Int) ≤ 200) = true := decide_eq_true (by omega)
      clear he
      go_enter Tryd.func17, Tryd.ntmps17
      go_wp2_with (first
        | (go_at_call 39; (with_reducible refine (HSP.out _).mono ?_); rintro e w1 ⟨rfl, nd, rfl⟩)
        | (go_at_call 44; (with_reducible refine (HCA.out _).mono ?_); rintro e w2 ⟨rfl, nd2, rfl⟩))
      go_ret
      exact ⟨ret_bl HV.out.symm, Drew.of _ _⟩
    · have HV : Hid (Z = false) := by rw [he, decide_eq_false h2]; rfl
      have hi : decide ((T.size : Int) ≤ 200) = false := decide_eq_false (by omega)
      have hi2 : decide (T.size ≤ 200) = false := decide_eq_false h2
      clear he
      go_enter Tryd.func17, Tryd.ntmps17
      go_wp2_with (first
        | (go_at_call 39; (with_reducible refine (HSP.out _).mono ?_); rintro e w1 ⟨rfl, nd, rfl⟩)
        | (go_at_call 44; (with_reducible refine (HCA.out _).mono ?_); rintro e w2 ⟨rfl, nd2, rfl⟩))
      go_ret
      exact ⟨ret_bl HV.out.symm, Drew.of _ _⟩

theorem right_any (s : ByteArray) (w : World) (hs : s.size ≤ 1000000) :
    Calls Tryd.prog 17 #[.string s] w fun e w' => e = .returned (.bool (rightS s.data.toList)) ∧ Drew w w' := by
  have hl : s.data.toList.length = s.size := (Lib.size_eq s).symm
  cases hsl : s.data.toList with
  | nil =>
    rw [hsl] at hl
    have h := right_of s s false w hs (fun W => (split_plain s W hs (fun h0 => by simp at hl; omega)).mono fun e w' ⟨h1, h2⟩ => ⟨h1, by subst h2; exact Drew.refl _⟩)
    rw [hsl] at h
    exact h
  | cons c m =>
    have h0 : 0 < s.size := by rw [← hl, hsl]; simp
    have hc0 : s[0] = c := get0 hsl h0
    by_cases h45 : c = 45
    · subst h45
      have e : s.extract 1 s.size = ⟨m.toArray⟩ := ba_ext (by rw [Lib.extract_to_end, hsl]; rfl)
      have hm : (⟨m.toArray⟩ : ByteArray).size ≤ 1000000 := by
        show m.length ≤ 1000000
        rw [hsl] at hl
        simp at hl
        omega
      have h := right_of s ⟨m.toArray⟩ true w hm (fun W => by
        have h := split_minus s W hs h0 (by rw [hc0]; rfl)
        rw [e] at h
        exact h)
      exact h
    · have h := right_of s s false w hs (fun W => (split_plain s W hs (fun h0 => by
        rw [hc0]
        exact beq_eq_false_iff_ne.2 (fun e => h45 (UInt8.toNat_inj.1 (by have : c.toNat = 45 := by omega
                                                                         rw [this]; rfl))))).mono fun e w' ⟨h1, h2⟩ => ⟨h1, by subst h2; exact Drew.refl _⟩)
      rw [hsl] at h
      have e : rightS (c :: m) = rightL false (c :: m) := by simp only [rightS, if_neg h45]
      rw [e]
      exact h

end Go.Proofs.YtmkeigfckfkifaaDoor
