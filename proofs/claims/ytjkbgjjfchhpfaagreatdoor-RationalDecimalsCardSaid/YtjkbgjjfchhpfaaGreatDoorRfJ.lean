/- Rows of digits: the walks of rational.plain at other texts, and of klipperef02.digits and plain. -/
import Derived.Test.YtjkbgjjfchhpfaaGreatDoorRfI
import Derived.Test.YtjkbgjjfchhpfaaGreatDoorRatE
import Derived.Test.YtjkbgjjfchhpfaaGreatDoorRatF
namespace Go.Proofs.YtjkbgjjfchhpfaaGreatDoor
open Go.RowKit

/-- At least one digit, and nothing else. -/
def digB (l : List UInt8) : Bool := !l.isEmpty && allDigB l

theorem digB_true {l : List UInt8} (h : digB l = true) : AllDig l ∧ 0 < l.length := by
  unfold digB at h
  rw [Bool.and_eq_true] at h
  refine ⟨(allDigB_iff l).1 h.2, ?_⟩
  cases l with
  | nil => simp at h
  | cons c l => simp

theorem digB_of {l : List UInt8} (h1 : AllDig l) (h2 : 0 < l.length) : digB l = true := by
  unfold digB
  rw [Bool.and_eq_true]
  refine ⟨?_, (allDigB_iff l).2 h1⟩
  cases l with
  | nil => simp at h2
  | cons c l => rfl

theorem rplain_good (T : ByteArray) (w : World) (hd : digB T.data.toList = true) (hs : T.size ≤ 1000000) :
    Calls Tryz.prog 69 #[.string T] w fun e w' => e = .returned (.tuple #[.string (canon (dval T.data.toList : Int)), .bool true]) ∧ w = w' :=
  plain_any T w (digB_true hd).1 (by rw [Lib.size_eq]; exact (digB_true hd).2) hs

set_option maxHeartbeats 2000000 in
theorem rplain_bad (T : ByteArray) (w : World) (hd : digB T.data.toList = false) (hs : T.size ≤ 1000000) :
    Calls Tryz.prog 69 #[.string T] w fun e w' => e = .returned (.tuple #[.string ⟨#[]⟩, .bool false]) ∧ w = w' := by
  have hl : T.data.toList.length = T.size := (Lib.size_eq T).symm
  rcases Nat.eq_zero_or_pos T.size with h0 | h0
  · have he : T.data.toList = [] := List.eq_nil_of_length_eq_zero (by omega)
    have h1 : (T.toList == []) = true := by rw [ByteArray.toList_eq, he]; rfl
    have h2 : T.toList.isEmpty = true := by rw [ByteArray.toList_eq, he]; rfl
    clear hd he hl h0
    go_enter Tryz.func69, Tryz.ntmps69
    go_wp2
    go_ret2
    exact ⟨rfl, rfl⟩
  have hne : T.toList.isEmpty = false := by
    rw [ByteArray.toList_eq]
    cases h : T.data.toList with
    | nil => rw [h] at hl; simp at hl; omega
    | cons c l => rfl
  have hne2 : (T.toList == []) = false := by rw [List.isEmpty_eq_false_iff] at hne; exact beq_eq_false_iff_ne.2 hne
  have hx : ¬ AllDig T.data.toList := fun h => by rw [digB_of h (by omega)] at hd; cases hd
  have HX := Lib.hid hx
  clear hd hx hl
  go_enter Tryz.func69, Tryz.ntmps69
  go_wp2
  go_loop [9] (fun iv => ∃ k : Nat, k ≤ T.size ∧ iv = .int .i64 k ∧ Hid (AllDig (T.data.toList.take k))) (fun iv => T.size - (intOf iv).toNat)
  case atStart => exact ⟨0, Nat.zero_le _, rfl, Lib.hid (fun c h => by simp at h)⟩
  case round =>
    obtain ⟨k, hk, rfl, HK⟩ := hrel
    by_cases hlt : k < T.size
    · by_cases b1 : T[k].toNat < 48
      · have d1 : decide ((T[k].toNat : Int) < 48) = true := decide_eq_true (by omega)
        go_wp2
        go_ret2
        exact ⟨rfl, rfl⟩
      · have d1 : decide ((T[k].toNat : Int) < 48) = false := decide_eq_false (by omega)
        by_cases b2 : 57 < T[k].toNat
        · have d2 : decide ((57 : Int) < (T[k].toNat : Int)) = true := decide_eq_true (by omega)
          have d3 : decide ((T[k].toNat : Int) > 57) = true := decide_eq_true (by omega)
          go_wp2
          go_ret2
          exact ⟨rfl, rfl⟩
        · have d2 : decide ((57 : Int) < (T[k].toNat : Int)) = false := decide_eq_false (by omega)
          have d3 : decide ((T[k].toNat : Int) > 57) = false := decide_eq_false (by omega)
          have HN := Lib.hid (allDig_succ T k hlt HK.out ⟨by omega, by omega⟩)
          go_wp2
          go_round
          case rel => exact ⟨k + 1, by omega, by go_num, HN⟩
          case measure => simp [intOf]; omega
    · obtain rfl : k = T.size := by omega
      exact absurd (by have := HK.out; rw [List.take_of_length_le (by rw [← Lib.size_eq]; exact Nat.le_refl _)] at this; exact this) HX.out

set_option maxHeartbeats 2000000 in
theorem digitsR_any (T : ByteArray) (w : World) (hs : T.size ≤ 1000000) :
    Calls Tryz.prog 72 #[.string T] w fun e w' => e = .returned (.bool (digB T.data.toList)) ∧ w = w' := by
  have hl : T.data.toList.length = T.size := (Lib.size_eq T).symm
  have hbad : Hid (¬ AllDig T.data.toList → digB T.data.toList = false) := Lib.hid (fun h => by
    cases hb : digB T.data.toList with
    | false => rfl
    | true => exact absurd (digB_true hb).1 h)
  have hend : Hid (AllDig T.data.toList → digB T.data.toList = !(T.toList == [])) := Lib.hid (fun h => by
    rw [ByteArray.toList_eq]
    cases hc : T.data.toList with
    | nil => rfl
    | cons c l => rw [digB_of (by rw [← hc]; exact h) (by simp)]; rfl)
  generalize digB T.data.toList = D at *
  go_enter Tryz.func72, Tryz.ntmps72
  go_wp2
  go_loop [3] (fun iv => ∃ k : Nat, k ≤ T.size ∧ iv = .int .i64 k ∧ Hid (AllDig (T.data.toList.take k))) (fun iv => T.size - (intOf iv).toNat)
  case atStart => exact ⟨0, Nat.zero_le _, rfl, Lib.hid (fun c h => by simp at h)⟩
  case round =>
    obtain ⟨k, hk, rfl, HK⟩ := hrel
    by_cases hlt : k < T.size
    · have hmem : T[k] ∈ T.data.toList := List.getElem_mem (l := T.data.toList) (by rw [← Lib.size_eq]; exact hlt)
      by_cases b1 : T[k].toNat < 48
      · have d1 : decide ((T[k].toNat : Int) < 48) = true := decide_eq_true (by omega)
        have HD := Lib.hid (hbad.out (fun h => by have := (h _ hmem).1; omega))
        clear hmem
        go_wp2
        go_ret
        rw [HD.out]
        exact ⟨rfl, rfl⟩
      · have d1 : decide ((T[k].toNat : Int) < 48) = false := decide_eq_false (by omega)
        by_cases b2 : 57 < T[k].toNat
        · have d2 : decide ((57 : Int) < (T[k].toNat : Int)) = true := decide_eq_true (by omega)
          have d3 : decide ((T[k].toNat : Int) > 57) = true := decide_eq_true (by omega)
          have HD := Lib.hid (hbad.out (fun h => by have := (h _ hmem).2; omega))
          clear hmem
          go_wp2
          go_ret
          rw [HD.out]
          exact ⟨rfl, rfl⟩
        · have d2 : decide ((57 : Int) < (T[k].toNat : Int)) = false := decide_eq_false (by omega)
          have d3 : decide ((T[k].toNat : Int) > 57) = false := decide_eq_false (by omega)
          have HN := Lib.hid (allDig_succ T k hlt HK.out ⟨by omega, by omega⟩)
          clear hmem
          go_wp2
          go_round
          case rel => exact ⟨k + 1, by omega, by go_num, HN⟩
          case measure => simp [intOf]; omega
    · obtain rfl : k = T.size := by omega
      have HD := Lib.hid (hend.out (by have := HK.out; rw [List.take_of_length_le (by rw [← Lib.size_eq]; exact Nat.le_refl _)] at this; exact this))
      clear hl
      generalize hbb : (T.toList == []) = bb at *
      go_wp2
      go_ret
      rw [HD.out]
      exact ⟨rfl, rfl⟩

theorem dval_zero_cons (l : List UInt8) : dval (48 :: l) = dval l := by
  have h : ∀ m : List UInt8, dval (48 :: m) = dval m := by
    intro m
    unfold dval
    simp
  exact h l

theorem canon_one_digit (c : UInt8) (h : 48 ≤ c.toNat ∧ c.toNat ≤ 57) : canon (dval [c] : Int) = ⟨#[c]⟩ := by
  by_cases h0 : c.toNat = 48
  · have := u8_48 h0
    subst this
    have e : dval [48] = 0 := by decide
    rw [e]
    exact ba_of_list _ _ (by rw [← ByteArray.toList_eq]; exact eq_of_beq (canon_beq0 0))
  · rw [canon_nat, ← eq_dec (fun x hx => by simp at hx; rw [hx]; exact h) h0]

set_option maxHeartbeats 2000000 in
theorem plainR_any (T : ByteArray) (w : World) (hd : digB T.data.toList = true) (hs : T.size ≤ 1000000) :
    Calls Tryz.prog 73 #[.string T] w fun e w' => e = .returned (.string (canon (dval T.data.toList : Int))) ∧ w = w' := by
  obtain ⟨hd1, hd2⟩ := digB_true hd
  have HE : Hid (∀ S : ByteArray, AllDig S.data.toList → 0 < S.size → dval S.data.toList = dval T.data.toList → (S.size = 1 ∨ ∀ h : 0 < S.size, S[0].toNat ≠ 48) → canon (dval T.data.toList : Int) = S) := Lib.hid (fun S a1 a2 a3 a4 => by
    rw [← a3]
    have hl : S.data.toList.length = S.size := (Lib.size_eq S).symm
    cases hc : S.data.toList with
    | nil => rw [hc] at hl; simp at hl; omega
    | cons c l =>
      have h0 : S[0] = c := get0 hc a2
      have hS : S = ⟨(c :: l).toArray⟩ := ba_of_list _ _ hc
      rw [hc] at a1 hl
      rcases a4 with h | h
      · have : l = [] := by simp at hl; exact List.eq_nil_of_length_eq_zero (by omega)
        subst this
        rw [hS, canon_one_digit c (a1 c (List.mem_cons_self ..))]
      · have h2 := h a2
        rw [h0] at h2
        rw [hS, canon_nat, ← eq_dec a1 h2])
  have HT := Lib.hid (show AllDig T.data.toList ∧ 0 < T.size from ⟨hd1, by rw [Lib.size_eq]; exact hd2⟩)
  generalize canon (dval T.data.toList : Int) = R at *
  obtain ⟨V, hV⟩ : ∃ V, dval T.data.toList = V := ⟨_, rfl⟩
  rw [hV] at HE
  have HV := Lib.hid hV
  clear hd hd1 hd2 hV
  go_enter Tryz.func73, Tryz.ntmps73
  go_wp2
  go_loop [0] (fun v => ∃ S : ByteArray, v = .string S ∧ S.size ≤ 1000000 ∧ 0 < S.size ∧ Hid (AllDig S.data.toList ∧ dval S.data.toList = V)) (fun v => match v with | .string S => S.size | _ => 0)
  case atStart => exact ⟨T, rfl, hs, HT.out.2, Lib.hid ⟨HT.out.1, HV.out⟩⟩
  case round =>
    obtain ⟨S, rfl, h1, h2, HS⟩ := hrel
    by_cases hone : S.size = 1
    · have d1 : decide ((S.size : Int) > 1) = false := decide_eq_false (by omega)
      have HR := Lib.hid (HE.out S HS.out.1 h2 HS.out.2 (.inl hone))
      clear hone
      go_wp2
      go_ret
      rw [HR.out]
      exact ⟨rfl, rfl⟩
    · have d1 : decide ((S.size : Int) > 1) = true := decide_eq_true (by omega)
      by_cases h48 : S[0].toNat = 48
      · have t1 : ((S[0].toNat : Int) == 48) = true := by rw [h48]; rfl
        have hle : 1 ≤ S.size := h2
        obtain ⟨S', hS'⟩ : ∃ S', S.extract 1 S.size = S' := ⟨_, rfl⟩
        have hlist : S'.data.toList = S.data.toList.drop 1 := by rw [← hS', Lib.extract_to_end]
        have hsz : S'.size = S.size - 1 := by rw [Lib.size_eq, hlist, List.length_drop, ← Lib.size_eq]
        have HN : Hid (AllDig S'.data.toList ∧ dval S'.data.toList = V) := Lib.hid (by
          obtain ⟨a1, a2⟩ := HS.out
          cases hc : S.data.toList with
          | nil => rw [Lib.size_eq, hc] at h2; simp at h2
          | cons c l =>
            have h0 : S[0] = c := get0 hc h2
            have hc48 : c = 48 := u8_48 (by rw [← h0]; exact h48)
            rw [hc] at hlist a1 a2
            subst hc48
            rw [hlist]
            refine ⟨fun x hx => a1 x (List.mem_cons_of_mem _ hx), ?_⟩
            rw [dval_zero_cons] at a2
            exact a2)
        have hlt : S'.size < S.size := by omega
        have hpos : 0 < S'.size := by omega
        have hle2 : S'.size ≤ 1000000 := by omega
        clear hlist hsz h48 hone
        go_wp2
        go_round
        case rel => exact ⟨S', rfl, hle2, hpos, HN⟩
        case measure => exact hlt
      · have t1 : ((S[0].toNat : Int) == 48) = false := beq_eq_false_iff_ne.2 (by omega)
        have HR := Lib.hid (HE.out S HS.out.1 h2 HS.out.2 (.inr (fun _ => h48)))
        clear hone h48
        go_wp2
        go_ret
        rw [HR.out]
        exact ⟨rfl, rfl⟩

theorem repeat48 (c : Nat) : Lib.repeatL [48] c = List.replicate c 48 := by
  induction c with
  | zero => rfl
  | succ c ih => rw [Lib.repeatL, ih, List.replicate_succ]; rfl

theorem dval_ten (c : Nat) : AllDig (49 :: List.replicate c 48) ∧ dval (49 :: List.replicate c 48) = 10 ^ c := by
  induction c with
  | zero => exact ⟨fun x hx => by simp at hx; rw [hx]; decide, by decide⟩
  | succ c ih =>
    have e : (49 :: List.replicate (c + 1) 48 : List UInt8) = (49 :: List.replicate c 48) ++ [48] := by
      rw [List.replicate_succ']
      rfl
    rw [e]
    refine ⟨fun x hx => ?_, ?_⟩
    · rcases List.mem_append.1 hx with h | h
      · exact ih.1 x h
      · simp at h; rw [h]; decide
    · rw [dval_snoc, ih.2, Nat.pow_succ]
      have : (48 : UInt8).toNat - 48 = 0 := by decide
      omega

/-- A one, and zeros behind it. -/
theorem ten_text (c : Nat) : (⟨#[49]⟩ : ByteArray) ++ ⟨(Lib.repeatL [48] c).toArray⟩ = canon ((10 ^ c : Nat) : Int) := by
  obtain ⟨h1, h2⟩ := dval_ten c
  rw [canon_digs (10 ^ c) 49 (List.replicate c 48) h1 (by decide) h2]
  refine ba_of_list _ _ ?_
  rw [ba_append, repeat48]
  rfl

end Go.Proofs.YtjkbgjjfchhpfaaGreatDoor
