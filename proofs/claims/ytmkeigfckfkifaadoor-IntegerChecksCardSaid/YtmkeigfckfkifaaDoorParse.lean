/- The walk of integer.Parse at whatever text. -/
import Derived.Test.YtmkeigfckfkifaaDoorWord
import Derived.Laws.RangeString
import Derived.Laws.RangeAny
namespace Go.Proofs.YtmkeigfckfkifaaDoor
open Go.RowKit

theorem ret_bool {a b : Bool} (h : a = b) : Ending.returned (.bool a) = .returned (.bool b) := by rw [h]
theorem ret_parse {p : List UInt8 × Int} {s : ByteArray} {k : Int} (h : p = (s.data.toList, k)) : Ending.returned (.tuple #[.string s, .int .i64 k]) = .returned (.tuple #[.string ⟨p.1.toArray⟩, .int .i64 p.2]) := by rw [h]

/-- A rune that is no digit. -/
def noDig (x : Nat) : Bool := decide (x < 48) || decide (57 < x)

theorem idx_dig (s : ByteArray) : ∀ f pos : Nat, s.size - pos ≤ f → (Lib.idxFuncFrom noDig true s f pos = -1 ↔ ∀ i (h : i < s.size), pos ≤ i → 48 ≤ s[i].toNat ∧ s[i].toNat ≤ 57) := by
  intro f
  induction f with
  | zero =>
    intro pos h
    refine ⟨fun _ i hi hp => by omega, fun _ => rfl⟩
  | succ f ih =>
    intro pos h
    unfold Lib.idxFuncFrom
    by_cases hp : pos < s.size
    · rw [if_pos hp]
      rcases Nat.lt_or_ge s[pos].toNat 128 with h1 | h1
      · rw [decode_ascii s pos hp h1]
        dsimp only
        by_cases hd : 48 ≤ s[pos].toNat ∧ s[pos].toNat ≤ 57
        · have hn : noDig s[pos].toNat = false := by simp [noDig]; omega
          rw [hn, if_neg (by simp), ih (pos + 1) (by omega)]
          refine ⟨fun hh i hi hpi => ?_, fun hh i hi hpi => hh i hi (by omega)⟩
          rcases Nat.lt_or_ge pos i with h2 | h2
          · exact hh i hi (by omega)
          · obtain rfl : i = pos := by omega
            exact hd
        · have hn : noDig s[pos].toNat = true := by simp [noDig]; omega
          rw [hn, if_pos rfl]
          refine ⟨fun hh => by omega, fun hh => absurd (hh pos hp (Nat.le_refl _)) hd⟩
      · have h2 := (decode_high s pos hp h1).1
        have hn : noDig (Utf8.decode s pos).1 = true := by simp [noDig]; omega
        rw [hn, if_pos rfl]
        refine ⟨fun hh => by omega, fun hh => by have := (hh pos hp (Nat.le_refl _)).2; omega⟩
    · rw [if_neg hp]
      refine ⟨fun _ i hi hpi => by omega, fun _ => rfl⟩

def allDigB (t : List UInt8) : Bool := t.all fun c => decide (48 ≤ c.toNat) && decide (c.toNat ≤ 57)
theorem allDigB_iff (t : List UInt8) : allDigB t = true ↔ AllDig t := by
  simp [allDigB, AllDig]

theorem contains_dig (s : ByteArray) : decide (0 ≤ Lib.idxFunc noDig true s) = !allDigB s.data.toList := by
  have h1 := idx_dig s s.size 0 (by omega)
  have h2 := Lib.idxFunc_range noDig true s
  have h3 : (∀ i (h : i < s.size), 0 ≤ i → 48 ≤ s[i].toNat ∧ s[i].toNat ≤ 57) ↔ AllDig s.data.toList := by
    refine ⟨fun h c hc => ?_, fun h i hi _ => h _ (List.getElem_mem (l := s.data.toList) hi)⟩
    obtain ⟨i, hi, rfl⟩ := List.getElem_of_mem hc
    exact h i hi (Nat.zero_le _)
  rw [h3] at h1
  have h4 : Lib.idxFunc noDig true s = -1 ↔ AllDig s.data.toList := h1
  by_cases hd : AllDig s.data.toList
  · rw [(allDigB_iff _).2 hd, h4.2 hd]; rfl
  · have : allDigB s.data.toList = false := by
      cases e : allDigB s.data.toList with
      | true => exact absurd ((allDigB_iff _).1 e) hd
      | false => rfl
    rw [this]
    have h5 : Lib.idxFunc noDig true s ≠ -1 := fun e => hd (h4.1 e)
    simp; omega

set_option maxHeartbeats 400000 in
theorem pred_any (x : Nat) (hx : x ≤ 1114111) (w : World) :
    Calls Tryd.prog 32 #[.int .i32 (x : Int)] w fun e w' => e = .returned (.bool (noDig x)) ∧ w = w' := by
  have e1 : decide ((x : Int) < 48) = decide (x < 48) := decide_eq_decide.2 (by omega)
  have e2 : decide ((57 : Int) < (x : Int)) = decide (57 < x) := decide_eq_decide.2 (by omega)
  have E : Hid ((decide ((x : Int) < 48) || decide ((57 : Int) < (x : Int))) = noDig x) := by rw [e1, e2]; rfl
  clear e1 e2
  go_enter Tryd.func32, Tryd.ntmps32
  go_wp2
  all_goals
    go_ret
    exact ⟨ret_bool (by first | exact E.out | (rw [← E.out]; simp [*])), rfl⟩

theorem containsNoDig (s : ByteArray) (w : World) :
    Calls Tryd.prog 31 #[.string s, .func (.func 32) #[] #[]] w fun e w' => e = .returned (.bool (!allDigB s.data.toList)) ∧ Below w.heap.size w w' := by
  have h := Tryd.strings_ContainsFunc_runes 32 #[] (enters_of Tryd.func32 (by kernel_rfl) rfl) noDig s w (fun W x hx _ => (pred_any x hx W).mono fun e w' ⟨h1, h2⟩ => ⟨h1, 0, h2.symm⟩)
  rw [contains_dig] at h
  exact h

/-- What is left behind the sign: digits are wanted. -/
def parseTail (neg : Bool) (t : List UInt8) : List UInt8 × Int :=
  if t = [] then ([], 15) else if allDigB t = false then ([], 15) else
  if Lib.trimLeftB t 48 = [] then ([48], 0) else if 200 < (Lib.trimLeftB t 48).length then ([], 4) else (if neg then 45 :: Lib.trimLeftB t 48 else Lib.trimLeftB t 48, 0)

def parseSpec : List UInt8 → List UInt8 × Int
  | [] => ([], 13)
  | c :: m => if c = 45 then parseTail true m else if c = 43 then parseTail false m else parseTail false (c :: m)

set_option maxHeartbeats 2000000 in
theorem parse_true (s T : ByteArray) (w : World) (_hs : s.size ≤ 1000000) (_hTs : T.size ≤ 1000000) (hne : s.toList.isEmpty = false)
    (hcut : ∀ W, Calls Tryd.prog 29 #[.string s, .string ⟨#[45]⟩] W fun e w' => e = .returned (.tuple #[.string T, .bool true]) ∧ W = w') :
    Calls Tryd.prog 10 #[.string s] w fun e w' => e = .returned (.tuple #[.string ⟨(parseTail true T.data.toList).1.toArray⟩, .int .i64 (parseTail true T.data.toList).2]) ∧ Below w.heap.size w w' := by
  have HC := Lib.hid hcut
  clear hcut
  by_cases hT : T.data.toList = []
  · have HR : Hid (parseTail true T.data.toList = ([], 15)) := by unfold parseTail; rw [if_pos hT]; rfl
    have hTe : T.toList.isEmpty = true := by rw [ByteArray.toList_eq, hT]; rfl
    have hTn : T.toList = [] := by rw [ByteArray.toList_eq, hT]
    clear hT
    go_enter Tryd.func10, Tryd.ntmps10
    go_wp2_with (first
      | (go_at_call 29; refine (HC.out _).mono ?_; rintro e w' ⟨rfl, rfl⟩)
      | fail "arm")
    go_ret2
    exact ⟨ret_parse HR.out, Below.refl _ _⟩
  have hTe : T.toList.isEmpty = false := by
    rw [ByteArray.toList_eq]
    cases h : T.data.toList with
    | nil => exact absurd h hT
    | cons c l => rfl
  have hf := fun W => containsNoDig T W
  cases hd : allDigB T.data.toList with
  | false =>
    have HR : Hid (parseTail true T.data.toList = ([], 15)) := by unfold parseTail; rw [if_neg hT, if_pos hd]; rfl
    rw [hd] at hf
    have HF := Lib.hid hf
    clear hf hd hT
    go_enter Tryd.func10, Tryd.ntmps10
    go_wp2_with (first
      | (go_at_call 29; refine (HC.out _).mono ?_; rintro e w' ⟨rfl, rfl⟩)
      | (go_at_call 31; refine (HF.out _).mono ?_; rintro e w1 ⟨rfl, hb⟩; have HB := Lib.hid hb; clear hb)
      | fail "arm")
    go_ret2
    exact ⟨ret_parse HR.out, HB.out⟩
  | true =>
    rw [hd] at hf
    have HF := Lib.hid hf
    obtain ⟨D, hD⟩ : ∃ D : ByteArray, (⟨(Lib.trimLeftB T.data.toList 48).toArray⟩ : ByteArray) = D := ⟨_, rfl⟩
    have hDl : D.data.toList = Lib.trimLeftB T.data.toList 48 := by rw [← hD]
    have htl : ∀ W, Calls Tryd.prog 33 #[.string T, .string ⟨#[48]⟩] W fun e w' => e = .returned (.string D) ∧ W = w' := fun W => by
      refine (Tryd.strings_TrimLeft_one T 48 (by decide) W).mono ?_
      rintro e w' ⟨rfl, rfl⟩
      rw [hD]
      exact ⟨rfl, rfl⟩
    have HTL := Lib.hid htl
    have hdt : ¬ allDigB T.data.toList = false := by rw [hd]; simp
    have hr := fun (r : List UInt8 × Int) (h : (if Lib.trimLeftB T.data.toList 48 = [] then ([48], 0) else if 200 < (Lib.trimLeftB T.data.toList 48).length then ([], 4) else (if (true : Bool) = true then 45 :: Lib.trimLeftB T.data.toList 48 else Lib.trimLeftB T.data.toList 48, 0)) = r) => (show parseTail true T.data.toList = r by unfold parseTail; rw [if_neg hT, if_neg hdt]; exact h)
    rw [← hDl] at hr
    have hDs : D.data.toList.length = D.size := (Lib.size_eq D).symm
    clear hD htl hf hd hdt hT hDl
    by_cases hDe : D.data.toList = []
    · have HR := Lib.hid (hr ([48], 0) (by rw [if_pos hDe]))
      have hDt : D.toList.isEmpty = true := by rw [ByteArray.toList_eq, hDe]; rfl
      have hDn : D.toList = [] := by rw [ByteArray.toList_eq, hDe]
      clear hr hDe hDs
      go_enter Tryd.func10, Tryd.ntmps10
      go_wp2_with (first
        | (go_at_call 29; refine (HC.out _).mono ?_; rintro e w' ⟨rfl, rfl⟩)
        | (go_at_call 31; refine (HF.out _).mono ?_; rintro e w1 ⟨rfl, hb⟩; have HB := Lib.hid hb; clear hb)
        | (go_at_call 33; refine (HTL.out _).mono ?_; rintro e w' ⟨rfl, rfl⟩)
        | fail "arm")
      go_ret2
      exact ⟨ret_parse HR.out, HB.out⟩
    · have hDt : D.toList.isEmpty = false := by
        rw [ByteArray.toList_eq]
        cases h : D.data.toList with
        | nil => exact absurd h hDe
        | cons c l => rfl
      rcases Nat.lt_or_ge 200 D.size with hl | hl
      · have HR := Lib.hid (hr ([], 4) (by rw [if_neg hDe, if_pos (by omega)]))
        clear hr hDe hDs
        go_enter Tryd.func10, Tryd.ntmps10
        go_wp2_with (first
          | (go_at_call 29; refine (HC.out _).mono ?_; rintro e w' ⟨rfl, rfl⟩)
          | (go_at_call 31; refine (HF.out _).mono ?_; rintro e w1 ⟨rfl, hb⟩; have HB := Lib.hid hb; clear hb)
          | (go_at_call 33; refine (HTL.out _).mono ?_; rintro e w' ⟨rfl, rfl⟩)
          | fail "arm")
        go_ret2
        exact ⟨ret_parse HR.out, HB.out⟩
      · have HR := Lib.hid (hr (45 :: D.data.toList, 0) (by rw [if_neg hDe, if_neg (by omega)]; rfl))
        have hl2 : decide ((200 : Int) < (D.size : Int)) = false := by simp; omega
        have hl3 : D.size ≤ 100000 := by omega
        clear hr hDe hDs hl
        go_enter Tryd.func10, Tryd.ntmps10
        go_wp2_with (first
          | (go_at_call 29; refine (HC.out _).mono ?_; rintro e w' ⟨rfl, rfl⟩)
          | (go_at_call 31; refine (HF.out _).mono ?_; rintro e w1 ⟨rfl, hb⟩; have HB := Lib.hid hb; clear hb)
          | (go_at_call 33; refine (HTL.out _).mono ?_; rintro e w' ⟨rfl, rfl⟩)
          | fail "arm")
        go_ret2
        exact ⟨ret_parse (HR.out.trans (by simp)), HB.out⟩

set_option maxHeartbeats 2000000 in
theorem parse_false (s T : ByteArray) (w : World) (_hs : s.size ≤ 1000000) (_hTs : T.size ≤ 1000000) (hne : s.toList.isEmpty = false)
    (hcut : ∀ W, Calls Tryd.prog 29 #[.string s, .string ⟨#[45]⟩] W fun e w' => e = .returned (.tuple #[.string s, .bool false]) ∧ W = w')
    (hplus : ∀ W, Calls Tryd.prog 30 #[.string s, .string ⟨#[43]⟩] W fun e w' => e = .returned (.string T) ∧ W = w') :
    Calls Tryd.prog 10 #[.string s] w fun e w' => e = .returned (.tuple #[.string ⟨(parseTail false T.data.toList).1.toArray⟩, .int .i64 (parseTail false T.data.toList).2]) ∧ Below w.heap.size w w' := by
  have HC := Lib.hid hcut
  have HP := Lib.hid hplus
  clear hplus
  clear hcut
  by_cases hT : T.data.toList = []
  · have HR : Hid (parseTail false T.data.toList = ([], 15)) := by unfold parseTail; rw [if_pos hT]; rfl
    have hTe : T.toList.isEmpty = true := by rw [ByteArray.toList_eq, hT]; rfl
    have hTn : T.toList = [] := by rw [ByteArray.toList_eq, hT]
    clear hT
    go_enter Tryd.func10, Tryd.ntmps10
    go_wp2_with (first
      | (go_at_call 29; refine (HC.out _).mono ?_; rintro e w' ⟨rfl, rfl⟩)
      | (go_at_call 30; refine (HP.out _).mono ?_; rintro e w' ⟨rfl, rfl⟩)
      | fail "arm")
    go_ret2
    exact ⟨ret_parse HR.out, Below.refl _ _⟩
  have hTe : T.toList.isEmpty = false := by
    rw [ByteArray.toList_eq]
    cases h : T.data.toList with
    | nil => exact absurd h hT
    | cons c l => rfl
  have hf := fun W => containsNoDig T W
  cases hd : allDigB T.data.toList with
  | false =>
    have HR : Hid (parseTail false T.data.toList = ([], 15)) := by unfold parseTail; rw [if_neg hT, if_pos hd]; rfl
    rw [hd] at hf
    have HF := Lib.hid hf
    clear hf hd hT
    go_enter Tryd.func10, Tryd.ntmps10
    go_wp2_with (first
      | (go_at_call 29; refine (HC.out _).mono ?_; rintro e w' ⟨rfl, rfl⟩)
      | (go_at_call 30; refine (HP.out _).mono ?_; rintro e w' ⟨rfl, rfl⟩)
      | (go_at_call 31; refine (HF.out _).mono ?_; rintro e w1 ⟨rfl, hb⟩; have HB := Lib.hid hb; clear hb)
      | fail "arm")
    go_ret2
    exact ⟨ret_parse HR.out, HB.out⟩
  | true =>
    rw [hd] at hf
    have HF := Lib.hid hf
    obtain ⟨D, hD⟩ : ∃ D : ByteArray, (⟨(Lib.trimLeftB T.data.toList 48).toArray⟩ : ByteArray) = D := ⟨_, rfl⟩
    have hDl : D.data.toList = Lib.trimLeftB T.data.toList 48 := by rw [← hD]
    have htl : ∀ W, Calls Tryd.prog 33 #[.string T, .string ⟨#[48]⟩] W fun e w' => e = .returned (.string D) ∧ W = w' := fun W => by
      refine (Tryd.strings_TrimLeft_one T 48 (by decide) W).mono ?_
      rintro e w' ⟨rfl, rfl⟩
      rw [hD]
      exact ⟨rfl, rfl⟩
    have HTL := Lib.hid htl
    have hdt : ¬ allDigB T.data.toList = false := by rw [hd]; simp
    have hr := fun (r : List UInt8 × Int) (h : (if Lib.trimLeftB T.data.toList 48 = [] then ([48], 0) else if 200 < (Lib.trimLeftB T.data.toList 48).length then ([], 4) else (if (false : Bool) = true then 45 :: Lib.trimLeftB T.data.toList 48 else Lib.trimLeftB T.data.toList 48, 0)) = r) => (show parseTail false T.data.toList = r by unfold parseTail; rw [if_neg hT, if_neg hdt]; exact h)
    rw [← hDl] at hr
    have hDs : D.data.toList.length = D.size := (Lib.size_eq D).symm
    clear hD htl hf hd hdt hT hDl
    by_cases hDe : D.data.toList = []
    · have HR := Lib.hid (hr ([48], 0) (by rw [if_pos hDe]))
      have hDt : D.toList.isEmpty = true := by rw [ByteArray.toList_eq, hDe]; rfl
      have hDn : D.toList = [] := by rw [ByteArray.toList_eq, hDe]
      clear hr hDe hDs
      go_enter Tryd.func10, Tryd.ntmps10
      go_wp2_with (first
        | (go_at_call 29; refine (HC.out _).mono ?_; rintro e w' ⟨rfl, rfl⟩)
        | (go_at_call 30; refine (HP.out _).mono ?_; rintro e w' ⟨rfl, rfl⟩)
        | (go_at_call 31; refine (HF.out _).mono ?_; rintro e w1 ⟨rfl, hb⟩; have HB := Lib.hid hb; clear hb)
        | (go_at_call 33; refine (HTL.out _).mono ?_; rintro e w' ⟨rfl, rfl⟩)
        | fail "arm")
      go_ret2
      exact ⟨ret_parse HR.out, HB.out⟩
    · have hDt : D.toList.isEmpty = false := by
        rw [ByteArray.toList_eq]
        cases h : D.data.toList with
        | nil => exact absurd h hDe
        | cons c l => rfl
      rcases Nat.lt_or_ge 200 D.size with hl | hl
      · have HR := Lib.hid (hr ([], 4) (by rw [if_neg hDe, if_pos (by omega)]))
        clear hr hDe hDs
        go_enter Tryd.func10, Tryd.ntmps10
        go_wp2_with (first
          | (go_at_call 29; refine (HC.out _).mono ?_; rintro e w' ⟨rfl, rfl⟩)
          | (go_at_call 30; refine (HP.out _).mono ?_; rintro e w' ⟨rfl, rfl⟩)
          | (go_at_call 31; refine (HF.out _).mono ?_; rintro e w1 ⟨rfl, hb⟩; have HB := Lib.hid hb; clear hb)
          | (go_at_call 33; refine (HTL.out _).mono ?_; rintro e w' ⟨rfl, rfl⟩)
          | fail "arm")
        go_ret2
        exact ⟨ret_parse HR.out, HB.out⟩
      · have HR := Lib.hid (hr (D.data.toList, 0) (by rw [if_neg hDe, if_neg (by omega)]; rfl))
        have hl2 : decide ((200 : Int) < (D.size : Int)) = false := by simp; omega
        have hl3 : D.size ≤ 100000 := by omega
        clear hr hDe hDs hl
        go_enter Tryd.func10, Tryd.ntmps10
        go_wp2_with (first
          | (go_at_call 29; refine (HC.out _).mono ?_; rintro e w' ⟨rfl, rfl⟩)
          | (go_at_call 30; refine (HP.out _).mono ?_; rintro e w' ⟨rfl, rfl⟩)
          | (go_at_call 31; refine (HF.out _).mono ?_; rintro e w1 ⟨rfl, hb⟩; have HB := Lib.hid hb; clear hb)
          | (go_at_call 33; refine (HTL.out _).mono ?_; rintro e w' ⟨rfl, rfl⟩)
          | fail "arm")
        go_ret2
        exact ⟨ret_parse (HR.out.trans (by rfl)), HB.out⟩

theorem pre_cons (c p : UInt8) (m : List UInt8) : Lib.hasPrefix (c :: m) [p] = (p == c) ∧ Lib.trimPrefix (c :: m) [p] = if p = c then m else c :: m := by
  have h : Lib.hasPrefix (c :: m) [p] = (p == c) := by simp [Lib.hasPrefix, List.isPrefixOf]
  refine ⟨h, ?_⟩
  unfold Lib.trimPrefix
  rw [h]
  by_cases e : p = c <;> simp [e]

theorem parse_any (s : ByteArray) (w : World) (hs : s.size ≤ 1000000) :
    Calls Tryd.prog 10 #[.string s] w fun e w' => e = .returned (.tuple #[.string ⟨(parseSpec s.data.toList).1.toArray⟩, .int .i64 (parseSpec s.data.toList).2]) ∧ Below w.heap.size w w' := by
  have hl : s.data.toList.length = s.size := (Lib.size_eq s).symm
  cases hsl : s.data.toList with
  | nil =>
    have hse : s.toList.isEmpty = true := by rw [ByteArray.toList_eq, hsl]; rfl
    have hsn : s.toList = [] := by rw [ByteArray.toList_eq, hsl]
    clear hsl hl
    go_enter Tryd.func10, Tryd.ntmps10
    go_wp2
    go_ret2
    exact ⟨rfl, Below.refl _ _⟩
  | cons c m =>
    have hse : s.toList.isEmpty = false := by rw [ByteArray.toList_eq, hsl]; rfl
    have hm : m.length ≤ 1000000 := by rw [hsl] at hl; simp at hl; omega
    have e45 : (⟨#[45]⟩ : ByteArray).data.toList = [45] := rfl
    have e43 : (⟨#[43]⟩ : ByteArray).data.toList = [43] := rfl
    have es : (⟨(c :: m).toArray⟩ : ByteArray) = s := by rw [← hsl]
    by_cases h45 : c = 45
    · subst h45
      refine parse_true s ⟨m.toArray⟩ w hs hm hse (fun W => ?_)
      refine (Tryd.strings_CutPrefix s ⟨#[45]⟩ W).mono ?_
      rintro e w' ⟨rfl, rfl⟩
      rw [hsl, e45, (pre_cons 45 45 m).1, (pre_cons 45 45 m).2, if_pos rfl]
      exact ⟨rfl, rfl⟩
    · have hcut : ∀ W, Calls Tryd.prog 29 #[.string s, .string ⟨#[45]⟩] W fun e w' => e = .returned (.tuple #[.string s, .bool false]) ∧ W = w' := fun W => by
        refine (Tryd.strings_CutPrefix s ⟨#[45]⟩ W).mono ?_
        rintro e w' ⟨rfl, rfl⟩
        have hb : ((45 : UInt8) == c) = false := beq_eq_false_iff_ne.2 (fun e => h45 e.symm)
        rw [hsl, e45, (pre_cons c 45 m).1, (pre_cons c 45 m).2, if_neg (fun e => h45 e.symm), es, hb]
        exact ⟨rfl, rfl⟩
      by_cases h43 : c = 43
      · subst h43
        refine parse_false s ⟨m.toArray⟩ w hs hm hse hcut (fun W => ?_)
        refine (Tryd.strings_TrimPrefix s ⟨#[43]⟩ W).mono ?_
        rintro e w' ⟨rfl, rfl⟩
        rw [hsl, e43, (pre_cons 43 43 m).2, if_pos rfl]
        exact ⟨rfl, rfl⟩
      · have h := parse_false s s w hs hs hse hcut (fun W => by
          refine (Tryd.strings_TrimPrefix s ⟨#[43]⟩ W).mono ?_
          rintro e w' ⟨rfl, rfl⟩
          rw [hsl, e43, (pre_cons c 43 m).2, if_neg (fun e => h43 e.symm), es]
          exact ⟨rfl, rfl⟩)
        rw [hsl] at h
        have e : parseSpec (c :: m) = parseTail false (c :: m) := by simp only [parseSpec, if_neg h45, if_neg h43]
        rw [e]
        exact h

end Go.Proofs.YtmkeigfckfkifaaDoor
