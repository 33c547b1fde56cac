/- The walks of klipperef01.Neg and Parse at whatever text. -/
import Derived.Test.YtmkeigfckfkifaaDoorRefS
import Derived.Test.YtmkeigfckfkifaaDoorParse
namespace Go.Proofs.YtmkeigfckfkifaaDoor
open Go.RowKit

theorem minus_app (s : ByteArray) : (⟨#[45]⟩ : ByteArray) ++ s = ⟨(45 :: s.data.toList).toArray⟩ := by
  apply ByteArray.ext
  simp [ByteArray.data_append]

set_option maxHeartbeats 400000 in
theorem negR_zero (s : ByteArray) (w : World) (hs : s.toList = [48]) :
    Calls Tryd.prog 34 #[.string s] w fun e w' => e = .returned (.string s) ∧ Below w.heap.size w w' := by
  have hl : s.data.toList = [48] := by rw [← ByteArray.toList_eq]; exact hs
  have he : s = ⟨#[48]⟩ := by obtain ⟨⟨l⟩⟩ := s; simp at hl; rw [hl]
  subst he
  have hp := split_plain ⟨#[48]⟩ w (by decide) (fun _ => rfl)
  have HP := Lib.hid hp
  clear hp hl hs
  go_enter Tryd.func34, Tryd.ntmps34
  go_wp2_with (go_at_call 39; refine HP.out.mono ?_; rintro e w' ⟨rfl, rfl⟩)
  go_ret
  exact ⟨rfl, Below.refl _ _⟩

set_option maxHeartbeats 400000 in
theorem negR_plain (s : ByteArray) (w : World) (hz : (s.toList == [48]) = false) (hs : s.size ≤ 1000000) (hc : ∀ h0 : 0 < s.size, ((s[0].toNat : Int) == 45) = false) :
    Calls Tryd.prog 34 #[.string s] w fun e w' => e = .returned (.string ⟨(45 :: s.data.toList).toArray⟩) ∧ Below w.heap.size w w' := by
  have hp := split_plain s w hs hc
  have HP := Lib.hid hp
  clear hp hc
  go_enter Tryd.func34, Tryd.ntmps34
  go_wp2_with (go_at_call 39; refine HP.out.mono ?_; rintro e w' ⟨rfl, rfl⟩)
  go_ret
  exact ⟨by rw [minus_app]; rfl, Below.refl _ _⟩

theorem trimLeftB_cons (c : UInt8) (l : List UInt8) : Lib.trimLeftB (c :: l) 48 = if c = 48 then Lib.trimLeftB l 48 else c :: l := by
  simp [Lib.trimLeftB, List.dropWhile_cons]

theorem head_get (s : ByteArray) (h : 0 < s.size) : s.data.toList = s[0] :: s.data.toList.drop 1 := by
  have hl : s.data.toList.length = s.size := (Lib.size_eq s).symm
  cases e : s.data.toList with
  | nil => rw [e] at hl; simp at hl; omega
  | cons c l =>
    have : s[0] = c := by
      have h1 : s[0] = s.data.toList[0]'(by omega) := rfl
      rw [h1]; simp [e]
    rw [this]; rfl

theorem extract_one (s : ByteArray) : (s.extract 1 s.size).data.toList = s.data.toList.drop 1 := Lib.extract_to_end s 1

theorem allDig_of_get (T : ByteArray) (h : ∀ j (h : j < T.size), j < T.size → 48 ≤ T[j].toNat ∧ T[j].toNat ≤ 57) : AllDig T.data.toList := by
  intro c hc
  obtain ⟨i, hi, rfl⟩ := List.getElem_of_mem hc
  exact h i hi hi

theorem notDig_of_get (T : ByteArray) (k : Nat) (h : k < T.size) (hd : ¬ (48 ≤ T[k].toNat ∧ T[k].toNat ≤ 57)) : allDigB T.data.toList = false := by
  cases e : allDigB T.data.toList with
  | false => rfl
  | true => exact absurd ((allDigB_iff _).1 e T[k] (List.getElem_mem (l := T.data.toList) h)) hd

theorem tail_bad (neg : Bool) (T : List UInt8) (h : allDigB T = false) : parseTail neg T = ([], 15) := by
  unfold parseTail
  by_cases hT : T = []
  · rw [if_pos hT]
  · rw [if_neg hT, if_pos h]

theorem tail_zero (neg : Bool) (T : List UInt8) (h : AllDig T) (hT : T ≠ []) (hz : Lib.trimLeftB T 48 = []) : parseTail neg T = ([48], 0) := by
  unfold parseTail
  rw [if_neg hT, if_neg (by rw [(allDigB_iff T).2 h]; simp), if_pos hz]

theorem tail_long (neg : Bool) (T S : List UInt8) (h : AllDig T) (hT : T ≠ []) (hz : Lib.trimLeftB T 48 = S) (hS : S ≠ []) (hl : 200 < S.length) : parseTail neg T = ([], 4) := by
  unfold parseTail
  rw [if_neg hT, if_neg (by rw [(allDigB_iff T).2 h]; simp), hz, if_neg hS, if_pos hl]

theorem tail_good (neg : Bool) (T S : List UInt8) (h : AllDig T) (hT : T ≠ []) (hz : Lib.trimLeftB T 48 = S) (hS : S ≠ []) (hl : S.length ≤ 200) : parseTail neg T = (if neg then 45 :: S else S, 0) := by
  unfold parseTail
  rw [if_neg hT, if_neg (by rw [(allDigB_iff T).2 h]; simp), hz, if_neg hS, if_neg (by omega)]

set_option maxRecDepth 100000 in
set_option maxHeartbeats 4000000 in
theorem parseR_minus (s T : ByteArray) (w : World) (hs : s.size ≤ 1000000) (hTs : T.size ≤ 1000000) (hne : s.toList.isEmpty = false) (h0 : 0 < s.size)
    (hT : s.extract 1 s.size = T) (hc : ((s[0].toNat : Int) == 45) = true) :
    Calls Tryd.prog 11 #[.string s] w fun e w' => e = .returned (.tuple #[.string ⟨(parseTail true T.data.toList).1.toArray⟩, .int .i64 (parseTail true T.data.toList).2]) ∧ Below w.heap.size w w' := by
  have HTT := Lib.hid hT
  clear hT
  go_enter Tryd.func11, Tryd.ntmps11
  go_wp2
  rw [HTT.out]
  clear hne hc HTT
  have hlT : T.data.toList.length = T.size := (Lib.size_eq T).symm
  have HLT := Lib.hid hlT
  clear hlT
  go_loop [5] (fun iv => ∃ k : Nat, k ≤ T.size ∧ iv = .int .i64 k ∧ Hid (∀ j (h : j < T.size), j < k → 48 ≤ T[j].toNat ∧ T[j].toNat ≤ 57)) (fun iv => T.size - (intOf iv).toNat)
  case atStart => exact ⟨0, Nat.zero_le _, rfl, fun j h hj => by omega⟩
  case round =>
    obtain ⟨k, hk, rfl, HJ⟩ := hrel
    by_cases hlt : k < T.size
    · by_cases hd : 48 ≤ T[k].toNat ∧ T[k].toNat ≤ 57
      · have t1 : decide ((T[k].toNat : Int) < 48) = false := by simp; omega
        have t2 : decide ((57 : Int) < (T[k].toNat : Int)) = false := by simp; omega
        have HJ2 : Hid (∀ j (h : j < T.size), j < k + 1 → 48 ≤ T[j].toNat ∧ T[j].toNat ≤ 57) := fun j h hj => by
          rcases Nat.lt_or_ge j k with h1 | h1
          · exact HJ.out j h h1
          · obtain rfl : j = k := by omega
            exact hd
        clear hd
        go_wp2
        go_round
        case rel => exact ⟨k + 1, by omega, by go_num, HJ2.out⟩
        case measure => simp [intOf]; omega
      · have HR := Lib.hid (tail_bad true T.data.toList (notDig_of_get T k hlt hd))
        by_cases hd1 : T[k].toNat < 48
        · have t1 : decide ((T[k].toNat : Int) < 48) = true := by simp; omega
          clear hd hd1
          go_wp2
          go_ret2
          exact ⟨ret_parse HR.out, Below.refl _ _⟩
        · have t1 : decide ((T[k].toNat : Int) < 48) = false := by simp; omega
          have t2 : decide ((57 : Int) < (T[k].toNat : Int)) = true := by simp; omega
          clear hd hd1
          go_wp2
          go_ret2
          exact ⟨ret_parse HR.out, Below.refl _ _⟩
    · obtain rfl : k = T.size := by omega
      have HD := Lib.hid (allDig_of_get T HJ.out)
      clear HJ hlt
      by_cases hT : T.data.toList = []
      · have HR : Hid (parseTail true T.data.toList = ([], 15)) := by unfold parseTail; rw [if_pos hT]; rfl
        have hTe : T.toList.isEmpty = true := by rw [ByteArray.toList_eq, hT]; rfl
        have hTn : T.toList = [] := by rw [ByteArray.toList_eq, hT]
        clear hT
        go_wp2
        go_ret2
        exact ⟨ret_parse HR.out, Below.refl _ _⟩
      · have hTe : T.toList.isEmpty = false := by
          rw [ByteArray.toList_eq]
          cases h : T.data.toList with
          | nil => exact absurd h hT
          | cons c l => rfl
        have hT0 : 0 < T.size := by
          rw [← HLT.out]; exact List.length_pos_iff.2 hT
        have HT := Lib.hid hT
        clear hT
        go_wp2
        go_loop [0] (fun sv => ∃ S : ByteArray, sv = .string S ∧ S.size ≤ 1000000 ∧ 0 < S.size ∧ Hid (AllDig S.data.toList) ∧ Hid (Lib.trimLeftB S.data.toList 48 = Lib.trimLeftB T.data.toList 48)) (fun sv => strLen sv)
        case atStart => exact ⟨T, rfl, hTs, hT0, HD.out, rfl⟩
        case round =>
          obtain ⟨S, rfl, hS1, hS0, HSD, HST⟩ := hrel
          have hhd := head_get S hS0
          have hSl : S.data.toList.length = S.size := (Lib.size_eq S).symm
          have hd0 := HSD.out S[0] (List.getElem_mem (l := S.data.toList) (by omega))
          by_cases h48 : S[0] = 48
          · have hz : ((S[0].toNat : Int) == 48) = true := by rw [h48]; rfl
            have hst := HST.out
            rw [hhd, trimLeftB_cons, if_pos h48] at hst
            rcases Nat.lt_or_ge 1 S.size with h1 | h1
            · have hs2 : (S.extract 1 S.size).size = S.size - 1 := by simp
              have HS2 := Lib.hid hs2
              have HN : Hid (AllDig (S.extract 1 S.size).data.toList ∧ Lib.trimLeftB (S.extract 1 S.size).data.toList 48 = Lib.trimLeftB T.data.toList 48) := by
                rw [extract_one]
                exact ⟨HSD.out.drop 1, hst⟩
              clear hhd hSl hd0 h48 hst hs2
              go_wp2
              go_round
              case rel => exact ⟨S.extract 1 S.size, rfl, by rw [HS2.out]; omega, by rw [HS2.out]; omega, HN.out.1, HN.out.2⟩
              case measure => simp only [strLen]; rw [HS2.out]; omega
            · have h1' : S.size = 1 := by omega
              have hSe : S.data.toList = [48] := by
                rw [hhd, h48]
                congr 1
                exact List.drop_eq_nil_of_le (by omega)
              have hS2 : S.toList = [48] := by rw [ByteArray.toList_eq]; exact hSe
              have hzz : Lib.trimLeftB T.data.toList 48 = [] := by rw [← hst, hSe]; rfl
              have HR := Lib.hid ((tail_zero true T.data.toList HD.out HT.out hzz).trans (by rw [hSe]) : parseTail true T.data.toList = (S.data.toList, 0))
              have d1 : decide ((1 : Int) < (S.size : Int)) = false := by simp; omega
              have d2 : decide ((200 : Int) < (S.size : Int)) = false := by simp; omega
              have HNZ := Lib.hid (negR_zero S w hS2)
              clear hhd hSl hd0 h48 hst h1 h1' hSe hS2 hzz
              go_wp2_with (first
                | (go_at_call 34; refine HNZ.out.mono ?_; rintro e w1 ⟨rfl, hb⟩; have HB := Lib.hid hb; clear hb)
                | fail "arm")
              go_ret2
              exact ⟨ret_parse HR.out, HB.out⟩
          · have hz : ((S[0].toNat : Int) == 48) = false := beq_eq_false_iff_ne.2 (fun e => h48 (UInt8.toNat_inj.1 (by have h8 : (48 : UInt8).toNat = 48 := rfl; omega)))
            have hst := HST.out
            rw [hhd, trimLeftB_cons, if_neg h48, ← hhd] at hst
            have hne : S.data.toList ≠ [] := by rw [hhd]; simp
            rcases Nat.lt_or_ge 200 S.size with hl | hl
            · have HR := Lib.hid (tail_long true T.data.toList S.data.toList HD.out HT.out hst.symm hne (by omega))
              have d1 : decide ((1 : Int) < (S.size : Int)) = true := by simp; omega
              have d2 : decide ((200 : Int) < (S.size : Int)) = true := by simp; omega
              clear hhd hSl hd0 h48 hst hne
              go_wp2
              go_ret2
              exact ⟨ret_parse HR.out, Below.refl _ _⟩
            · have HR := Lib.hid (tail_good true T.data.toList S.data.toList HD.out HT.out hst.symm hne (by omega))
              have d2 : decide ((200 : Int) < (S.size : Int)) = false := by simp; omega
              have HNP := Lib.hid (negR_plain S w (by rw [ByteArray.toList_eq, beq_eq_false_iff_ne]; intro e; rw [hhd] at e; injection e with e _; exact h48 e) hS1 (fun _ => beq_eq_false_iff_ne.2 (fun e => by omega)))
              rcases Nat.lt_or_ge 1 S.size with h1 | h1
              all_goals
                first | (have d1 : decide ((1 : Int) < (S.size : Int)) = true := by simp; omega) | (have d1 : decide ((1 : Int) < (S.size : Int)) = false := by simp; omega)
              all_goals
                clear hhd hSl hd0 h48 hst hne hl h1
                go_wp2_with (first
                  | (go_at_call 34; refine HNP.out.mono ?_; rintro e w1 ⟨rfl, hb⟩; have HB := Lib.hid hb; clear hb)
                  | fail "arm")
                go_ret2
                exact ⟨ret_parse HR.out, HB.out⟩

set_option maxRecDepth 100000 in
set_option maxHeartbeats 4000000 in
theorem parseR_plus (s T : ByteArray) (w : World) (hs : s.size ≤ 1000000) (hTs : T.size ≤ 1000000) (hne : s.toList.isEmpty = false) (h0 : 0 < s.size)
    (hT : s.extract 1 s.size = T) (hc : ((s[0].toNat : Int) == 45) = false) (hc2 : ((s[0].toNat : Int) == 43) = true) :
    Calls Tryd.prog 11 #[.string s] w fun e w' => e = .returned (.tuple #[.string ⟨(parseTail false T.data.toList).1.toArray⟩, .int .i64 (parseTail false T.data.toList).2]) ∧ Below w.heap.size w w' := by
  have HTT := Lib.hid hT
  clear hT
  go_enter Tryd.func11, Tryd.ntmps11
  go_wp2
  rw [HTT.out]
  clear hne hc hc2 HTT
  have hlT : T.data.toList.length = T.size := (Lib.size_eq T).symm
  have HLT := Lib.hid hlT
  clear hlT
  go_loop [5] (fun iv => ∃ k : Nat, k ≤ T.size ∧ iv = .int .i64 k ∧ Hid (∀ j (h : j < T.size), j < k → 48 ≤ T[j].toNat ∧ T[j].toNat ≤ 57)) (fun iv => T.size - (intOf iv).toNat)
  case atStart => exact ⟨0, Nat.zero_le _, rfl, fun j h hj => by omega⟩
  case round =>
    obtain ⟨k, hk, rfl, HJ⟩ := hrel
    by_cases hlt : k < T.size
    · by_cases hd : 48 ≤ T[k].toNat ∧ T[k].toNat ≤ 57
      · have t1 : decide ((T[k].toNat : Int) < 48) = false := by simp; omega
        have t2 : decide ((57 : Int) < (T[k].toNat : Int)) = false := by simp; omega
        have HJ2 : Hid (∀ j (h : j < T.size), j < k + 1 → 48 ≤ T[j].toNat ∧ T[j].toNat ≤ 57) := fun j h hj => by
          rcases Nat.lt_or_ge j k with h1 | h1
          · exact HJ.out j h h1
          · obtain rfl : j = k := by omega
            exact hd
        clear hd
        go_wp2
        go_round
        case rel => exact ⟨k + 1, by omega, by go_num, HJ2.out⟩
        case measure => simp [intOf]; omega
      · have HR := Lib.hid (tail_bad false T.data.toList (notDig_of_get T k hlt hd))
        by_cases hd1 : T[k].toNat < 48
        · have t1 : decide ((T[k].toNat : Int) < 48) = true := by simp; omega
          clear hd hd1
          go_wp2
          go_ret2
          exact ⟨ret_parse HR.out, Below.refl _ _⟩
        · have t1 : decide ((T[k].toNat : Int) < 48) = false := by simp; omega
          have t2 : decide ((57 : Int) < (T[k].toNat : Int)) = true := by simp; omega
          clear hd hd1
          go_wp2
          go_ret2
          exact ⟨ret_parse HR.out, Below.refl _ _⟩
    · obtain rfl : k = T.size := by omega
      have HD := Lib.hid (allDig_of_get T HJ.out)
      clear HJ hlt
      by_cases hT : T.data.toList = []
      · have HR : Hid (parseTail false T.data.toList = ([], 15)) := by unfold parseTail; rw [if_pos hT]; rfl
        have hTe : T.toList.isEmpty = true := by rw [ByteArray.toList_eq, hT]; rfl
        have hTn : T.toList = [] := by rw [ByteArray.toList_eq, hT]
        clear hT
        go_wp2
        go_ret2
        exact ⟨ret_parse HR.out, Below.refl _ _⟩
      · have hTe : T.toList.isEmpty = false := by
          rw [ByteArray.toList_eq]
          cases h : T.data.toList with
          | nil => exact absurd h hT
          | cons c l => rfl
        have hT0 : 0 < T.size := by
          rw [← HLT.out]; exact List.length_pos_iff.2 hT
        have HT := Lib.hid hT
        clear hT
        go_wp2
        go_loop [0] (fun sv => ∃ S : ByteArray, sv = .string S ∧ S.size ≤ 1000000 ∧ 0 < S.size ∧ Hid (AllDig S.data.toList) ∧ Hid (Lib.trimLeftB S.data.toList 48 = Lib.trimLeftB T.data.toList 48)) (fun sv => strLen sv)
        case atStart => exact ⟨T, rfl, hTs, hT0, HD.out, rfl⟩
        case round =>
          obtain ⟨S, rfl, hS1, hS0, HSD, HST⟩ := hrel
          have hhd := head_get S hS0
          have hSl : S.data.toList.length = S.size := (Lib.size_eq S).symm
          have hd0 := HSD.out S[0] (List.getElem_mem (l := S.data.toList) (by omega))
          by_cases h48 : S[0] = 48
          · have hz : ((S[0].toNat : Int) == 48) = true := by rw [h48]; rfl
            have hst := HST.out
            rw [hhd, trimLeftB_cons, if_pos h48] at hst
            rcases Nat.lt_or_ge 1 S.size with h1 | h1
            · have hs2 : (S.extract 1 S.size).size = S.size - 1 := by simp
              have HS2 := Lib.hid hs2
              have HN : Hid (AllDig (S.extract 1 S.size).data.toList ∧ Lib.trimLeftB (S.extract 1 S.size).data.toList 48 = Lib.trimLeftB T.data.toList 48) := by
                rw [extract_one]
                exact ⟨HSD.out.drop 1, hst⟩
              clear hhd hSl hd0 h48 hst hs2
              go_wp2
              go_round
              case rel => exact ⟨S.extract 1 S.size, rfl, by rw [HS2.out]; omega, by rw [HS2.out]; omega, HN.out.1, HN.out.2⟩
              case measure => simp only [strLen]; rw [HS2.out]; omega
            · have h1' : S.size = 1 := by omega
              have hSe : S.data.toList = [48] := by
                rw [hhd, h48]
                congr 1
                exact List.drop_eq_nil_of_le (by omega)
              have hS2 : S.toList = [48] := by rw [ByteArray.toList_eq]; exact hSe
              have hzz : Lib.trimLeftB T.data.toList 48 = [] := by rw [← hst, hSe]; rfl
              have HR := Lib.hid ((tail_zero false T.data.toList HD.out HT.out hzz).trans (by rw [hSe]) : parseTail false T.data.toList = (S.data.toList, 0))
              have d1 : decide ((1 : Int) < (S.size : Int)) = false := by simp; omega
              have d2 : decide ((200 : Int) < (S.size : Int)) = false := by simp; omega
              clear hhd hSl hd0 h48 hst h1 h1' hSe hS2 hzz
              go_wp2_with (first
                | fail
                | fail "arm")
              go_ret2
              exact ⟨ret_parse HR.out, Below.refl _ _⟩
          · have hz : ((S[0].toNat : Int) == 48) = false := beq_eq_false_iff_ne.2 (fun e => h48 (UInt8.toNat_inj.1 (by have h8 : (48 : UInt8).toNat = 48 := rfl; omega)))
            have hst := HST.out
            rw [hhd, trimLeftB_cons, if_neg h48, ← hhd] at hst
            have hne : S.data.toList ≠ [] := by rw [hhd]; simp
            rcases Nat.lt_or_ge 200 S.size with hl | hl
            · have HR := Lib.hid (tail_long false T.data.toList S.data.toList HD.out HT.out hst.symm hne (by omega))
              have d1 : decide ((1 : Int) < (S.size : Int)) = true := by simp; omega
              have d2 : decide ((200 : Int) < (S.size : Int)) = true := by simp; omega
              clear hhd hSl hd0 h48 hst hne
              go_wp2
              go_ret2
              exact ⟨ret_parse HR.out, Below.refl _ _⟩
            · have HR := Lib.hid (tail_good false T.data.toList S.data.toList HD.out HT.out hst.symm hne (by omega))
              have d2 : decide ((200 : Int) < (S.size : Int)) = false := by simp; omega
              rcases Nat.lt_or_ge 1 S.size with h1 | h1
              all_goals
                first | (have d1 : decide ((1 : Int) < (S.size : Int)) = true := by simp; omega) | (have d1 : decide ((1 : Int) < (S.size : Int)) = false := by simp; omega)
              all_goals
                clear hhd hSl hd0 h48 hst hne hl h1
                go_wp2_with (first
                  | fail
                  | fail "arm")
                go_ret2
                exact ⟨ret_parse HR.out, Below.refl _ _⟩

set_option maxRecDepth 100000 in
set_option maxHeartbeats 4000000 in
theorem parseR_none (T : ByteArray) (w : World) (hTs : T.size ≤ 1000000) (hne : T.toList.isEmpty = false) (h0 : 0 < T.size)
    (hc : ((T[0].toNat : Int) == 45) = false) (hc2 : ((T[0].toNat : Int) == 43) = false) :
    Calls Tryd.prog 11 #[.string T] w fun e w' => e = .returned (.tuple #[.string ⟨(parseTail false T.data.toList).1.toArray⟩, .int .i64 (parseTail false T.data.toList).2]) ∧ Below w.heap.size w w' := by
  go_enter Tryd.func11, Tryd.ntmps11
  go_wp2
  clear hc hc2 hne
  have hlT : T.data.toList.length = T.size := (Lib.size_eq T).symm
  have HLT := Lib.hid hlT
  clear hlT
  go_loop [5] (fun iv => ∃ k : Nat, k ≤ T.size ∧ iv = .int .i64 k ∧ Hid (∀ j (h : j < T.size), j < k → 48 ≤ T[j].toNat ∧ T[j].toNat ≤ 57)) (fun iv => T.size - (intOf iv).toNat)
  case atStart => exact ⟨0, Nat.zero_le _, rfl, fun j h hj => by omega⟩
  case round =>
    obtain ⟨k, hk, rfl, HJ⟩ := hrel
    by_cases hlt : k < T.size
    · by_cases hd : 48 ≤ T[k].toNat ∧ T[k].toNat ≤ 57
      · have t1 : decide ((T[k].toNat : Int) < 48) = false := by simp; omega
        have t2 : decide ((57 : Int) < (T[k].toNat : Int)) = false := by simp; omega
        have HJ2 : Hid (∀ j (h : j < T.size), j < k + 1 → 48 ≤ T[j].toNat ∧ T[j].toNat ≤ 57) := fun j h hj => by
          rcases Nat.lt_or_ge j k with h1 | h1
          · exact HJ.out j h h1
          · obtain rfl : j = k := by omega
            exact hd
        clear hd
        go_wp2
        go_round
        case rel => exact ⟨k + 1, by omega, by go_num, HJ2.out⟩
        case measure => simp [intOf]; omega
      · have HR := Lib.hid (tail_bad false T.data.toList (notDig_of_get T k hlt hd))
        by_cases hd1 : T[k].toNat < 48
        · have t1 : decide ((T[k].toNat : Int) < 48) = true := by simp; omega
          clear hd hd1
          go_wp2
          go_ret2
          exact ⟨ret_parse HR.out, Below.refl _ _⟩
        · have t1 : decide ((T[k].toNat : Int) < 48) = false := by simp; omega
          have t2 : decide ((57 : Int) < (T[k].toNat : Int)) = true := by simp; omega
          clear hd hd1
          go_wp2
          go_ret2
          exact ⟨ret_parse HR.out, Below.refl _ _⟩
    · obtain rfl : k = T.size := by omega
      have HD := Lib.hid (allDig_of_get T HJ.out)
      clear HJ hlt
      by_cases hT : T.data.toList = []
      · have HR : Hid (parseTail false T.data.toList = ([], 15)) := by unfold parseTail; rw [if_pos hT]; rfl
        have hTe : T.toList.isEmpty = true := by rw [ByteArray.toList_eq, hT]; rfl
        have hTn : T.toList = [] := by rw [ByteArray.toList_eq, hT]
        clear hT
        go_wp2
        go_ret2
        exact ⟨ret_parse HR.out, Below.refl _ _⟩
      · have hTe : T.toList.isEmpty = false := by
          rw [ByteArray.toList_eq]
          cases h : T.data.toList with
          | nil => exact absurd h hT
          | cons c l => rfl
        have hT0 : 0 < T.size := by
          rw [← HLT.out]; exact List.length_pos_iff.2 hT
        have HT := Lib.hid hT
        clear hT
        go_wp2
        go_loop [0] (fun sv => ∃ S : ByteArray, sv = .string S ∧ S.size ≤ 1000000 ∧ 0 < S.size ∧ Hid (AllDig S.data.toList) ∧ Hid (Lib.trimLeftB S.data.toList 48 = Lib.trimLeftB T.data.toList 48)) (fun sv => strLen sv)
        case atStart => exact ⟨T, rfl, hTs, hT0, HD.out, rfl⟩
        case round =>
          obtain ⟨S, rfl, hS1, hS0, HSD, HST⟩ := hrel
          have hhd := head_get S hS0
          have hSl : S.data.toList.length = S.size := (Lib.size_eq S).symm
          have hd0 := HSD.out S[0] (List.getElem_mem (l := S.data.toList) (by omega))
          by_cases h48 : S[0] = 48
          · have hz : ((S[0].toNat : Int) == 48) = true := by rw [h48]; rfl
            have hst := HST.out
            rw [hhd, trimLeftB_cons, if_pos h48] at hst
            rcases Nat.lt_or_ge 1 S.size with h1 | h1
            · have hs2 : (S.extract 1 S.size).size = S.size - 1 := by simp
              have HS2 := Lib.hid hs2
              have HN : Hid (AllDig (S.extract 1 S.size).data.toList ∧ Lib.trimLeftB (S.extract 1 S.size).data.toList 48 = Lib.trimLeftB T.data.toList 48) := by
                rw [extract_one]
                exact ⟨HSD.out.drop 1, hst⟩
              clear hhd hSl hd0 h48 hst hs2
              go_wp2
              go_round
              case rel => exact ⟨S.extract 1 S.size, rfl, by rw [HS2.out]; omega, by rw [HS2.out]; omega, HN.out.1, HN.out.2⟩
              case measure => simp only [strLen]; rw [HS2.out]; omega
            · have h1' : S.size = 1 := by omega
              have hSe : S.data.toList = [48] := by
                rw [hhd, h48]
                congr 1
                exact List.drop_eq_nil_of_le (by omega)
              have hS2 : S.toList = [48] := by rw [ByteArray.toList_eq]; exact hSe
              have hzz : Lib.trimLeftB T.data.toList 48 = [] := by rw [← hst, hSe]; rfl
              have HR := Lib.hid ((tail_zero false T.data.toList HD.out HT.out hzz).trans (by rw [hSe]) : parseTail false T.data.toList = (S.data.toList, 0))
              have d1 : decide ((1 : Int) < (S.size : Int)) = false := by simp; omega
              have d2 : decide ((200 : Int) < (S.size : Int)) = false := by simp; omega
              clear hhd hSl hd0 h48 hst h1 h1' hSe hS2 hzz
              go_wp2_with (first
                | fail
                | fail "arm")
              go_ret2
              exact ⟨ret_parse HR.out, Below.refl _ _⟩
          · have hz : ((S[0].toNat : Int) == 48) = false := beq_eq_false_iff_ne.2 (fun e => h48 (UInt8.toNat_inj.1 (by have h8 : (48 : UInt8).toNat = 48 := rfl; omega)))
            have hst := HST.out
            rw [hhd, trimLeftB_cons, if_neg h48, ← hhd] at hst
            have hne : S.data.toList ≠ [] := by rw [hhd]; simp
            rcases Nat.lt_or_ge 200 S.size with hl | hl
            · have HR := Lib.hid (tail_long false T.data.toList S.data.toList HD.out HT.out hst.symm hne (by omega))
              have d1 : decide ((1 : Int) < (S.size : Int)) = true := by simp; omega
              have d2 : decide ((200 : Int) < (S.size : Int)) = true := by simp; omega
              clear hhd hSl hd0 h48 hst hne
              go_wp2
              go_ret2
              exact ⟨ret_parse HR.out, Below.refl _ _⟩
            · have HR := Lib.hid (tail_good false T.data.toList S.data.toList HD.out HT.out hst.symm hne (by omega))
              have d2 : decide ((200 : Int) < (S.size : Int)) = false := by simp; omega
              rcases Nat.lt_or_ge 1 S.size with h1 | h1
              all_goals
                first | (have d1 : decide ((1 : Int) < (S.size : Int)) = true := by simp; omega) | (have d1 : decide ((1 : Int) < (S.size : Int)) = false := by simp; omega)
              all_goals
                clear hhd hSl hd0 h48 hst hne hl h1
                go_wp2_with (first
                  | fail
                  | fail "arm")
                go_ret2
                exact ⟨ret_parse HR.out, Below.refl _ _⟩

theorem parseR_any (s : ByteArray) (w : World) (hs : s.size ≤ 1000000) :
    Calls Tryd.prog 11 #[.string s] w fun e w' => e = .returned (.tuple #[.string ⟨(parseSpec s.data.toList).1.toArray⟩, .int .i64 (parseSpec s.data.toList).2]) ∧ Below w.heap.size w w' := by
  have hl : s.data.toList.length = s.size := (Lib.size_eq s).symm
  cases hsl : s.data.toList with
  | nil =>
    have hse : s.toList.isEmpty = true := by rw [ByteArray.toList_eq, hsl]; rfl
    have hsn : s.toList = [] := by rw [ByteArray.toList_eq, hsl]
    clear hsl hl
    go_enter Tryd.func11, Tryd.ntmps11
    go_wp2
    go_ret2
    exact ⟨rfl, Below.refl _ _⟩
  | cons c m =>
    have hse : s.toList.isEmpty = false := by rw [ByteArray.toList_eq, hsl]; rfl
    rw [hsl] at hl
    have h0 : 0 < s.size := by rw [← hl]; simp
    have hhd := head_get s h0
    rw [hsl] at hhd
    injection hhd with hc hm
    have hx : (s.extract 1 s.size).data.toList = m := by rw [extract_one, hsl]; rfl
    have hxs : (s.extract 1 s.size).size ≤ 1000000 := by simp; omega
    by_cases h45 : c = 45
    · have h := parseR_minus s (s.extract 1 s.size) w hs hxs hse h0 rfl (by rw [← hc, h45]; rfl)
      rw [hx] at h
      have e : parseSpec (c :: m) = parseTail true m := by simp only [parseSpec, if_pos h45]
      rw [e]
      exact h
    · have hn45 : ((s[0].toNat : Int) == 45) = false := beq_eq_false_iff_ne.2 (fun e => h45 (by rw [hc]; exact UInt8.toNat_inj.1 (by have h8 : (45 : UInt8).toNat = 45 := rfl; omega)))
      by_cases h43 : c = 43
      · have h := parseR_plus s (s.extract 1 s.size) w hs hxs hse h0 rfl hn45 (by rw [← hc, h43]; rfl)
        rw [hx] at h
        have e : parseSpec (c :: m) = parseTail false m := by simp only [parseSpec, if_neg h45, if_pos h43]
        rw [e]
        exact h
      · have hn43 : ((s[0].toNat : Int) == 43) = false := beq_eq_false_iff_ne.2 (fun e => h43 (by rw [hc]; exact UInt8.toNat_inj.1 (by have h8 : (43 : UInt8).toNat = 43 := rfl; omega)))
        have h := parseR_none s w hs hse h0 hn45 hn43
        rw [hsl] at h
        have e : parseSpec (c :: m) = parseTail false (c :: m) := by simp only [parseSpec, if_neg h45, if_neg h43]
        rw [e]
        exact h

end Go.Proofs.YtmkeigfckfkifaaDoor
