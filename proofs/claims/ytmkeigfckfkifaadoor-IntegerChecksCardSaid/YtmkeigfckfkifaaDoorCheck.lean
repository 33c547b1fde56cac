/- The walk of integer.Check: the right texts of an integer. -/
import Derived.Test.YtmkeigfckfkifaaDoorRefP
import Derived.Test.YtmkeigfckfkifaaDoorWord
namespace Go.Proofs.YtmkeigfckfkifaaDoor
open Go.RowKit

/-- The digits of a right integer: at least one, at most 200, no leading zero, and no minus ahead of a zero. -/
def headB (neg : Bool) (t : List UInt8) : Bool := !t.isEmpty && decide (t.length ≤ 200) && !(t.head? == some 48 && (neg || decide (1 < t.length)))
def rightL (neg : Bool) (t : List UInt8) : Bool := headB neg t && allDigB t

theorem allDig_succ (T : ByteArray) (k : Nat) (h : k < T.size) (ha : AllDig (T.data.toList.take k)) (hd : 48 ≤ T[k].toNat ∧ T[k].toNat ≤ 57) : AllDig (T.data.toList.take (k + 1)) := by
  have hl : k < T.data.toList.length := by rw [← Lib.size_eq]; exact h
  rw [List.take_succ_eq_append_getElem hl]
  intro c hc
  rcases List.mem_append.1 hc with h1 | h1
  · exact ha c h1
  · have e : c = T[k] := by
      have h2 : c = T.data.toList[k] := by simpa using h1
      exact h2
    rw [e]
    exact hd

theorem allDig_whole (T : ByteArray) (ha : AllDig (T.data.toList.take T.size)) : allDigB T.data.toList = true := by
  rw [Lib.size_eq, List.take_length] at ha
  exact (allDigB_iff _).2 ha

theorem ret_int {a b : Int} (h : a = b) : Ending.returned (.int .i64 a) = .returned (.int .i64 b) := by rw [h]

theorem head_of (T : ByteArray) (h : 0 < T.size) : T.data.toList.head? = some T[0] := by rw [head_get T h]; rfl

set_option maxHeartbeats 2000000 in
theorem check_of (s T : ByteArray) (neg : Bool) (w : World) (hT : T.size ≤ 1000000)
    (hcut : ∀ W, Calls Tryd.prog 29 #[.string s, .string ⟨#[45]⟩] W fun e w' => e = .returned (.tuple #[.string T, .bool neg]) ∧ W = w') :
    Calls Tryd.prog 19 #[.string s] w fun e w' => e = .returned (.int .i64 (if rightL neg T.data.toList = true then 0 else 2)) ∧ w = w' := by
  have HC := Lib.hid hcut
  clear hcut
  have hl : T.data.toList.length = T.size := (Lib.size_eq T).symm
  have hbad : headB neg T.data.toList = false → (if rightL neg T.data.toList = true then (0 : Int) else 2) = 2 := fun h => by rw [if_neg]; unfold rightL; rw [h]; simp
  have hgood : headB neg T.data.toList = true → allDigB T.data.toList = true → (if rightL neg T.data.toList = true then (0 : Int) else 2) = 0 := fun h k => by rw [if_pos]; unfold rightL; rw [h, k]; rfl
  have hdig : allDigB T.data.toList = false → (if rightL neg T.data.toList = true then (0 : Int) else 2) = 2 := fun h => by rw [if_neg]; unfold rightL; rw [h]; simp
  obtain ⟨Z, hZ⟩ : ∃ Z, (if rightL neg T.data.toList = true then (0 : Int) else 2) = Z := ⟨_, rfl⟩
  rw [hZ] at hbad hgood hdig ⊢
  have HB := Lib.hid hdig
  clear hdig hZ
  by_cases hne : T.size = 0
  · have hn : T.data.toList = [] := List.length_eq_zero_iff.1 (by omega)
    have HV := Lib.hid (hbad (by rw [hn]; rfl))
    have hTn : T.toList = [] := by rw [ByteArray.toList_eq, hn]
    have hTe : T.toList.isEmpty = true := by rw [hTn]; rfl
    clear hbad hgood HB hn hl hne
    go_enter Tryd.func19, Tryd.ntmps19
    go_wp2_with (go_at_call 29; refine (HC.out _).mono ?_; rintro e w' ⟨rfl, rfl⟩)
    go_ret
    exact ⟨ret_int HV.out.symm, rfl⟩
  have hTe : T.toList.isEmpty = false := by
    rw [ByteArray.toList_eq]
    cases h : T.data.toList with
    | nil => rw [h] at hl; exact absurd hl.symm hne
    | cons c l => rfl
  have hTb : (T.toList == []) = false := by rw [List.isEmpty_eq_false_iff] at hTe; exact beq_eq_false_iff_ne.2 hTe
  have hne1 : T.data.toList.isEmpty = false := by rw [← ByteArray.toList_eq]; exact hTe
  have h0 : 0 < T.size := by omega
  by_cases hlong : 200 < T.size
  · have HV := Lib.hid (hbad (by unfold headB; rw [hl, decide_eq_false (by omega)]; simp))
    have hli : (200 : Int) < (T.size : Int) := by omega
    clear hbad hgood HB hne1
    go_enter Tryd.func19, Tryd.ntmps19
    go_wp2_with (go_at_call 29; refine (HC.out _).mono ?_; rintro e w' ⟨rfl, rfl⟩)
    go_ret
    exact ⟨ret_int HV.out.symm, rfl⟩
  have hl1 : decide ((200 : Int) < (T.size : Int)) = false := decide_eq_false (by omega)
  have hl2 : decide (200 < T.size) = false := decide_eq_false hlong
  have hh := head_of T h0
  have hle : decide (T.data.toList.length ≤ 200) = true := decide_eq_true (by omega)
  by_cases h48 : T[0].toNat = 48
  · have hc : ((T[0].toNat : Int) == 48) = true := by rw [h48]; rfl
    have h8 : T[0] = 48 := UInt8.toNat_inj.1 h48
    by_cases hone : 1 < T.size
    · have HV := Lib.hid (hbad (by unfold headB; rw [hh, h8, hl, decide_eq_true hone]; simp))
      have hoi : (1 : Int) < (T.size : Int) := by omega
      clear hbad hgood HB hne1 hh hle hlong hne h8
      go_enter Tryd.func19, Tryd.ntmps19
      go_wp2_with (go_at_call 29; refine (HC.out _).mono ?_; rintro e w' ⟨rfl, rfl⟩)
      go_ret
      exact ⟨ret_int HV.out.symm, rfl⟩
    have ho1 : decide ((1 : Int) < (T.size : Int)) = false := decide_eq_false (by omega)
    have ho2 : decide (1 < T.size) = false := decide_eq_false hone
    cases neg with
    | true =>
      have HV := Lib.hid (hbad (by unfold headB; rw [hh, h8]; simp))
      clear hbad hgood HB hne1 hh hle hlong hne h8
      go_enter Tryd.func19, Tryd.ntmps19
      go_wp2_with (go_at_call 29; refine (HC.out _).mono ?_; rintro e w' ⟨rfl, rfl⟩)
      go_ret
      exact ⟨ret_int HV.out.symm, rfl⟩
    | false =>
      have HG := Lib.hid (hgood (by unfold headB; rw [hh, h8, hle, hne1, hl, ho2]; simp))
      clear hbad hgood hne1 hh hle hlong hne h8
      go_enter Tryd.func19, Tryd.ntmps19
      go_wp2_with (go_at_call 29; refine (HC.out _).mono ?_; rintro e w' ⟨rfl, rfl⟩)
      go_loop [5, 33] (fun _ iv => ∃ k : Nat, k ≤ T.size ∧ iv = .int .i64 k ∧ Hid (AllDig (T.data.toList.take k))) (fun _ iv => T.size - (intOf iv).toNat)
      case atStart => exact ⟨0, Nat.zero_le _, rfl, Lib.hid (by intro c hc; simp at hc)⟩
      case round =>
        obtain ⟨k, hk, rfl, HK⟩ := hrel
        by_cases hlt : k < T.size
        · by_cases hlo : T[k].toNat < 48
          · have HV := Lib.hid (HB.out (notDig_of_get T k hlt (by omega)))
            go_wp2
            go_ret
            exact ⟨ret_int HV.out.symm, rfl⟩
          · have hlo' : decide ((T[k].toNat : Int) < 48) = false := decide_eq_false (by omega)
            by_cases hhi : 57 < T[k].toNat
            · have HV := Lib.hid (HB.out (notDig_of_get T k hlt (by omega)))
              go_wp2
              go_ret
              exact ⟨ret_int HV.out.symm, rfl⟩
            · have hhi' : decide ((57 : Int) < (T[k].toNat : Int)) = false := decide_eq_false (by omega)
              have HN : Hid (AllDig (T.data.toList.take (k + 1))) := Lib.hid (allDig_succ T k hlt HK.out ⟨by omega, by omega⟩)
              clear hlo hhi
              go_wp2
              go_round
              case rel => exact ⟨k + 1, by omega, by go_num, HN⟩
              case measure => simp [intOf]; omega
        · obtain rfl : k = T.size := by omega
          have HV := Lib.hid (HG.out (allDig_whole T HK.out))
          go_wp2
          go_ret
          exact ⟨ret_int HV.out.symm, rfl⟩
  · have hc : ((T[0].toNat : Int) == 48) = false := beq_eq_false_iff_ne.2 (by omega)
    have hc2 : (T[0] == 48) = false := beq_eq_false_iff_ne.2 (fun e => h48 (by rw [e]; rfl))
    have HG := Lib.hid (hgood (by
      unfold headB
      rw [hh, hle, hne1]
      have : (some T[0] == some (48 : UInt8)) = false := by simpa using hc2
      rw [this]; rfl))
    clear hbad hgood hne1 hh hle hlong hne hc2
    go_enter Tryd.func19, Tryd.ntmps19
    go_wp2_with (go_at_call 29; refine (HC.out _).mono ?_; rintro e w' ⟨rfl, rfl⟩)
    go_loop [5, 33] (fun _ iv => ∃ k : Nat, k ≤ T.size ∧ iv = .int .i64 k ∧ Hid (AllDig (T.data.toList.take k))) (fun _ iv => T.size - (intOf iv).toNat)
    case atStart => exact ⟨0, Nat.zero_le _, rfl, Lib.hid (by intro c hc; simp at hc)⟩
    case round =>
      obtain ⟨k, hk, rfl, HK⟩ := hrel
      by_cases hlt : k < T.size
      · by_cases hlo : T[k].toNat < 48
        · have HV := Lib.hid (HB.out (notDig_of_get T k hlt (by omega)))
          go_wp2
          go_ret
          exact ⟨ret_int HV.out.symm, rfl⟩
        · have hlo' : decide ((T[k].toNat : Int) < 48) = false := decide_eq_false (by omega)
          by_cases hhi : 57 < T[k].toNat
          · have HV := Lib.hid (HB.out (notDig_of_get T k hlt (by omega)))
            go_wp2
            go_ret
            exact ⟨ret_int HV.out.symm, rfl⟩
          · have hhi' : decide ((57 : Int) < (T[k].toNat : Int)) = false := decide_eq_false (by omega)
            have HN : Hid (AllDig (T.data.toList.take (k + 1))) := Lib.hid (allDig_succ T k hlt HK.out ⟨by omega, by omega⟩)
            clear hlo hhi
            go_wp2
            go_round
            case rel => exact ⟨k + 1, by omega, by go_num, HN⟩
            case measure => simp [intOf]; omega
      · obtain rfl : k = T.size := by omega
        have HV := Lib.hid (HG.out (allDig_whole T HK.out))
        go_wp2
        go_ret
        exact ⟨ret_int HV.out.symm, rfl⟩

/-- Which texts are right. -/
def rightS : List UInt8 → Bool
  | [] => false
  | c :: m => if c = 45 then rightL true m else rightL false (c :: m)

theorem check_any (s : ByteArray) (w : World) (hs : s.size ≤ 1000000) :
    Calls Tryd.prog 19 #[.string s] w fun e w' => e = .returned (.int .i64 (if rightS s.data.toList = true then 0 else 2)) ∧ w = w' := by
  have hl : s.data.toList.length = s.size := (Lib.size_eq s).symm
  have e45 : (⟨#[45]⟩ : ByteArray).data.toList = [45] := rfl
  cases hsl : s.data.toList with
  | nil =>
    have hcut : ∀ W, Calls Tryd.prog 29 #[.string s, .string ⟨#[45]⟩] W fun e w' => e = .returned (.tuple #[.string s, .bool false]) ∧ W = w' := fun W => by
      refine (Tryd.strings_CutPrefix s ⟨#[45]⟩ W).mono ?_
      rintro e w' ⟨rfl, rfl⟩
      have es : (⟨([] : List UInt8).toArray⟩ : ByteArray) = s := by rw [← hsl]
      rw [hsl, e45, show Lib.trimPrefix ([] : List UInt8) [45] = [] from rfl, show Lib.hasPrefix ([] : List UInt8) [45] = false from rfl, es]
      exact ⟨rfl, rfl⟩
    have h := check_of s s false w hs hcut
    rw [hsl] at h
    exact h
  | cons c m =>
    have hm : m.length ≤ 1000000 := by rw [hsl] at hl; simp at hl; omega
    have es : (⟨(c :: m).toArray⟩ : ByteArray) = s := by rw [← hsl]
    by_cases h45 : c = 45
    · subst h45
      have h := check_of s ⟨m.toArray⟩ true w hm (fun W => by
        refine (Tryd.strings_CutPrefix s ⟨#[45]⟩ W).mono ?_
        rintro e w' ⟨rfl, rfl⟩
        rw [hsl, e45, (pre_cons 45 45 m).1, (pre_cons 45 45 m).2, if_pos rfl]
        exact ⟨rfl, rfl⟩)
      exact h
    · have h := check_of s s false w hs (fun W => by
        refine (Tryd.strings_CutPrefix s ⟨#[45]⟩ W).mono ?_
        rintro e w' ⟨rfl, rfl⟩
        have hb : ((45 : UInt8) == c) = false := beq_eq_false_iff_ne.2 (fun e => h45 e.symm)
        rw [hsl, e45, (pre_cons c 45 m).1, (pre_cons c 45 m).2, if_neg (fun e => h45 e.symm), es, hb]
        exact ⟨rfl, rfl⟩)
      rw [hsl] at h
      have e : rightS (c :: m) = rightL false (c :: m) := by simp only [rightS, if_neg h45]
      rw [e]
      exact h

end Go.Proofs.YtmkeigfckfkifaaDoor
