/- lexer.first answers what the plain law says. -/
import Derived.Test.YtfhmgkicccfghaaGreatDoorLexWC
import Derived.Lib.Split
namespace Go.Proofs.YtfhmgkicccfghaaGreatDoor
set_option linter.all false
open Go.RowKit

theorem bytes_of {S : ByteArray} {l : List UInt8} (h : S.data.toList = l) : S = ⟨l.toArray⟩ := by
 rcases S with ⟨d⟩
 rw [← h]
theorem ext0 (S : ByteArray) (n : Nat) : S.extract 0 n = ⟨(S.data.toList.take n).toArray⟩ := bytes_of (Lib.extract_from_zero S n)
theorem ext1 {S : ByteArray} {c : UInt8} {r : List UInt8} (h : S.data.toList = c :: r) : S.extract 1 S.size = ⟨r.toArray⟩ := bytes_of (by rw [Lib.extract_to_end, h]; rfl)
theorem ext1k {S : ByteArray} {c : UInt8} {r : List UInt8} (h : S.data.toList = c :: r) (k : Nat) : S.extract 1 (k + 1) = ⟨(r.take k).toArray⟩ :=
 bytes_of (by rw [show (S.extract 1 (k + 1)).data.toList = (S.data.toList.drop 1).take k by simp [ByteArray.data_extract], h]; rfl)
theorem takeWhile_take (p : UInt8 → Bool) : ∀ l : List UInt8, l.take (l.takeWhile p).length = l.takeWhile p
 | [] => rfl
 | c :: l => by
  rw [List.takeWhile_cons]
  split
  ·rw [List.length_cons, List.take_succ_cons, takeWhile_take p l]
  ·rfl
theorem indexByte_in (c : UInt8) : ∀ l : List UInt8, c ∈ l → Lib.indexByte l c = ((l.takeWhile (· != c)).length : Nat)
 | [], h => by cases h
 | b :: l, h => by
  by_cases e : b = c
  ·subst e
   simp [Lib.indexByte]
  ·have h' : c ∈ l := by
    rcases List.mem_cons.1 h with h | h
    ·exact absurd h.symm e
    ·exact h
   have ih := indexByte_in c l h'
   have e1 : (b == c) = false := by rw [beq_eq_false_iff_ne]; exact e
   have e2 : (b != c) = true := by rw [bne_iff_ne]; exact e
   unfold Lib.indexByte
   rw [ih, e1, List.takeWhile_cons, if_pos e2, List.length_cons]
   have : ¬ ((((l.takeWhile (· != c)).length : Nat) : Int) == -1) = true := by rw [beq_iff_eq]; omega
   rw [if_neg (by decide), if_neg this]
   omega
theorem indexByte_out (c : UInt8) : ∀ l : List UInt8, c ∉ l → Lib.indexByte l c = -1
 | [], _ => rfl
 | b :: l, h => by
  have e : b ≠ c := fun e => h (by simp [e])
  have ih := indexByte_out c l (fun h' => h (by simp [h']))
  have e1 : (b == c) = false := by rw [beq_eq_false_iff_ne]; exact e
  unfold Lib.indexByte
  rw [ih, e1]
  rfl
theorem isNum_isNumStart {c : UInt8} {r : List UInt8} {S : ByteArray} (hS : S.data.toList = c :: r) (h0 : 0 < S.size) (hc : S[0] = c) :
  (isNumStart c r = true → isDig S[0] = true ∨ (isDig S[0] = false ∧ S[0] = 45 ∧ ∃ _ : 1 < S.size, isDig S[1] = true)) ∧
  (isNumStart c r = false → isDig S[0] = false ∧ (S[0] ≠ 45 ∨ (S[0] = 45 ∧ S.size ≤ 1) ∨ (S[0] = 45 ∧ ∃ _ : 1 < S.size, isDig S[1] = false))) := by
 have hz : S.size = r.length + 1 := by rw [Lib.size_eq, hS]; rfl
 have h1 : ∀ h : 1 < S.size, (r.head?.map isDig).getD false = isDig S[1] := fun h => by
  have e : S[1] = S.data.toList[1]'(by rw [← Lib.size_eq]; exact h) := rfl
  rw [e]
  simp only [hS]
  cases r with
  | nil => simp at hz; omega
  | cons d r => rfl
 have h2 : S.size ≤ 1 → (r.head?.map isDig).getD false = false := fun h => by
  cases r with
  | nil => rfl
  | cons d r => simp at hz; omega
 rw [hc]
 unfold isNumStart
 cases hd : isDig c with
 | true => exact ⟨fun _ => .inl rfl, fun h => by simp at h⟩
 | false =>
  by_cases h45 : c = 45
  ·by_cases hl : 1 < S.size
   ·rw [h1 hl]
    subst h45
    cases he : isDig S[1] with
    | true => exact ⟨fun _ => .inr ⟨rfl, rfl, hl, he⟩, fun h => by simp at h⟩
    | false => exact ⟨fun h => by simp at h, fun _ => ⟨rfl, .inr (.inr ⟨rfl, hl, he⟩)⟩⟩
   ·rw [h2 (by omega)]
    refine ⟨fun h => by simp at h, fun _ => ⟨rfl, .inr (.inl ⟨h45, by omega⟩)⟩⟩
  ·refine ⟨fun h => ?_, fun _ => ⟨rfl, .inl h45⟩⟩
   simp [h45] at h

def FstV (f : Fst) : Value := fstV f.kind ⟨f.text.toArray⟩ ⟨f.value.toArray⟩ f.len f.err
theorem fstV_eq {f : Fst} {k : Int} {t x : ByteArray} {n e : Int} (h : f = ⟨k, t.data.toList, x.data.toList, n.toNat, e⟩) (hn : 0 ≤ n) : fstV k t x n e = FstV f := by
 subst h
 unfold FstV
 rw [Int.toNat_of_nonneg hn]
theorem retF {f : Fst} {k : Int} {t x : ByteArray} {n e : Int} (w : World) {S : ByteArray} (c : Calls Tryz.prog 33 #[.string S] w fun e' w' => e' = .returned (fstV k t x n e) ∧ Below w.heap.size w w') (h : f = ⟨k, t.data.toList, x.data.toList, n.toNat, e⟩) (hn : 0 ≤ n) :
  Calls Tryz.prog 33 #[.string S] w fun e w' => e = .returned (FstV f) ∧ Below w.heap.size w w' := by
 rw [← fstV_eq h hn]
 exact c

theorem take_two {S : ByteArray} {c : UInt8} {r : List UInt8} (h : S.data.toList = c :: r) : (S.extract 0 2).data.toList = (c :: r).take 2 := by rw [Lib.extract_from_zero, h]
theorem contains_marks (S : ByteArray) (c : UInt8) (r : List UInt8) (h : S.data.toList = c :: r) :
  Lib.containsS ([⟨#[45, 62]⟩, ⟨#[60, 61]⟩, ⟨#[62, 61]⟩, ⟨#[33, 61]⟩] : List ByteArray) (S.extract 0 2) = decide ((c :: r).take 2 ∈ marks2) := by
 rw [Bool.eq_iff_iff, Lib.containsS_iff, decide_eq_true_eq, bytes_of (take_two h)]
 simp [marks2]
theorem contains_call (S : ByteArray) (b : Bool) (w : World) (hb : Lib.containsS ([⟨#[45, 62]⟩, ⟨#[60, 61]⟩, ⟨#[62, 61]⟩, ⟨#[33, 61]⟩] : List ByteArray) (S.extract 0 2) = b) :
  ∀ W, Below w.heap.size w W → Calls Tryz.prog 54 #[.slice (some ⟨W.heap.size, 0, none⟩) 4 4, .string (S.extract 0 2)] (W.alloc (.cells #[.string ⟨#[45, 62]⟩, .string ⟨#[60, 61]⟩, .string ⟨#[62, 61]⟩, .string ⟨#[33, 61]⟩] 9)) fun e w' => e = .returned (.bool b) ∧ Below W.heap.size W w' := by
 intro W _
 have k := Blk.fresh W #[.string ⟨#[45, 62]⟩, .string ⟨#[60, 61]⟩, .string ⟨#[62, 61]⟩, .string ⟨#[33, 61]⟩] 9
 refine (Tryz.slices_Contains_string W.heap.size 0 4 4 [⟨#[45, 62]⟩, ⟨#[60, 61]⟩, ⟨#[62, 61]⟩, ⟨#[33, 61]⟩] (S.extract 0 2) _ (by decide) (by decide) ?_).mono ?_
 ·intro j hj
  refine k.at_ (0 + j) _ ?_
  match j, hj with
  | 0, _ => rfl
  | 1, _ => rfl
  | 2, _ => rfl
  | 3, _ => rfl
 ·rintro e w' ⟨h1, rfl⟩
  exact ⟨by rw [h1, ← hb]; rfl, below_new W _⟩

set_option maxHeartbeats 1000000 in
theorem first_any (parse : List UInt8 → List UInt8 × Int) (S : ByteArray) (c : UInt8) (r : List UInt8) (hS : S.data.toList = c :: r) (hs : S.size ≤ 65536) (w : World)
  (hp : isNumStart c r = true → ∀ W, Below w.heap.size w W → Calls Tryz.prog 53 #[.string ⟨(c :: r.takeWhile isNum).toArray⟩] W fun e w' =>
   e = .returned (.tuple #[.string ⟨(parse (c :: r.takeWhile isNum)).1.toArray⟩, .int .i64 (parse (c :: r.takeWhile isNum)).2]) ∧ Below W.heap.size W w') :
  Calls Tryz.prog 33 #[.string S] w fun e w' => e = .returned (FstV (firstS parse c r)) ∧ Below w.heap.size w w' := by
 have hz : S.size = r.length + 1 := by rw [Lib.size_eq, hS]; rfl
 have h0 : 0 < S.size := by omega
 have hc : S[0] = c := by
  have e : S[0] = S.data.toList[0]'(by rw [← Lib.size_eq]; exact h0) := rfl
  rw [e]
  simp only [hS]
  rfl
 cases hl : isLet c with
 | true =>
  have hl' : isLet S[0] = true := by rw [hc]; exact hl
  have hw : isWord c = true := by unfold isWord; rw [hl]; rfl
  have ht : S.data.toList.takeWhile isWord = c :: r.takeWhile isWord := by rw [hS, List.takeWhile_cons, if_pos hw]
  have hn : WhileR isWord S ((r.takeWhile isWord).length + 1 : Nat) := by unfold WhileR; rw [ht]; rfl
  have hle : (r.takeWhile isWord).length ≤ r.length := (List.takeWhile_sublist isWord (l := r)).length_le
  by_cases h32 : 32 < (r.takeWhile isWord).length + 1
  ·refine retF w (first_long S w h0 hs hl' _ hn (by omega) h32) ?_ (by omega)
   unfold firstS
   rw [if_pos hl, if_pos h32]
   rfl
  ·refine retF w (first_word S w h0 hs hl' _ hn (by omega) (by omega)) ?_ (by omega)
   unfold firstS
   rw [if_pos hl, if_neg h32, Lib.extract_from_zero, hS, List.take_succ_cons, takeWhile_take]
   rfl
 | false =>
  have hl' : isLet S[0] = false := by rw [hc]; exact hl
  have hl2 : ¬ isLet c = true := by rw [hl]; decide
  obtain ⟨hT, hF⟩ := isNum_isNumStart hS h0 hc
  cases hn : isNumStart c r with
  | true =>
   have hpn := hp hn
   have hm : WhileR isNum (S.extract 1 S.size) (r.takeWhile isNum).length := by unfold WhileR; rw [ext1 hS]
   have hle : (r.takeWhile isNum).length ≤ r.length := (List.takeWhile_sublist isNum (l := r)).length_le
   have hT2 : S.extract 0 (1 + (r.takeWhile isNum).length) = ⟨(c :: r.takeWhile isNum).toArray⟩ := by rw [ext0, hS, Nat.add_comm, List.take_succ_cons, takeWhile_take]
   rw [← hT2] at hpn
   by_cases hE : (parse (c :: r.takeWhile isNum)).2 = 0
   ·have e : firstS parse c r = ⟨2, (ByteArray.mk (parse (c :: r.takeWhile isNum)).1.toArray).data.toList, (ByteArray.mk (parse (c :: r.takeWhile isNum)).1.toArray).data.toList, ((1 + (r.takeWhile isNum).length : Nat) : Int).toNat, 0⟩ := by
     unfold firstS
     rw [if_neg hl2, if_pos hn, if_pos hE, Int.toNat_natCast, Nat.add_comm 1]
    have e' := e
    rw [show (((1 + (r.takeWhile isNum).length : Nat) : Int)) = 1 + ((r.takeWhile isNum).length : Int) by omega] at e'
    rcases hT hn with hD | ⟨hD, hM, h1, hE1⟩
    ·exact retF w (first_num_a S w h0 hs hl' hD _ hm (by omega) _ _ hpn hE) e' (by omega)
    ·exact retF w (first_num_b S w h0 hs hl' hD hM h1 hE1 _ hm (by omega) _ _ hpn hE) e' (by omega)
   ·have e : firstS parse c r = ⟨0, [], [], 0, 2⟩ := by
     unfold firstS
     rw [if_neg hl2, if_pos hn, if_neg hE]
     rfl
    rcases hT hn with hD | ⟨hD, hM, h1, hE1⟩
    ·exact retF w (first_nonum_a S w h0 hs hl' hD _ hm (by omega) _ _ hpn hE) e (by omega)
    ·exact retF w (first_nonum_b S w h0 hs hl' hD hM h1 hE1 _ hm (by omega) _ _ hpn hE) e (by omega)
  | false =>
   have hn2 : ¬ isNumStart c r = true := by rw [hn]; decide
   have hF := hF hn
   by_cases hQ : c = 34
   ·have hQ' : S[0] = 34 := by rw [hc]; exact hQ
    have hM : S[0] ≠ 45 := by rw [hQ']; decide
    by_cases hm : (34 : UInt8) ∈ r
    ·have hle : (r.takeWhile (· != 34)).length < r.length := by
      have h1 := indexByte_in 34 r hm
      have h2 : ∀ l : List UInt8, (34 : UInt8) ∈ l → (l.takeWhile (· != 34)).length < l.length := by
       intro l
       induction l with
       | nil => intro h; cases h
       | cons b l ih =>
        intro h
        rw [List.takeWhile_cons]
        split
        ·rename_i hb
         rcases List.mem_cons.1 h with h | h
         ·rw [← h] at hb; exact absurd hb (by decide)
         ·have := ih h
          simp only [List.length_cons]
          omega
        ·simp
      exact h2 r hm
     refine retF w (first_quote S w h0 hs hl' hF.1 hQ' hM (r.takeWhile (· != 34)).length (by rw [ext1 hS]; exact indexByte_in 34 r hm) (by omega)) ?_ (by omega)
     unfold firstS
     rw [if_neg hl2, if_neg hn2, if_pos hQ, if_pos hm, ext1k hS, takeWhile_take]
     rfl
    ·refine retF w (first_open S w h0 hs hl' hF.1 hQ' hM (by rw [ext1 hS]; exact indexByte_out 34 r hm)) ?_ (by omega)
     unfold firstS
     rw [if_neg hl2, if_neg hn2, if_pos hQ, if_neg hm]
     rfl
   ·have hQ' : S[0] ≠ 34 := by rw [hc]; exact hQ
    have hcon := contains_marks S c r hS
    have hu : ((S[0].toNat : Int)).toNat.toUInt8 = c := by rw [hc]; simp
    by_cases h2 : (c :: r).take 2 ∈ marks2
    ·rw [decide_eq_true h2] at hcon
     have hcc := contains_call S _ w hcon
     have hlen : 1 < S.size := by
      rcases r with _ | ⟨d, r⟩
      ·simp [marks2] at h2
      ·simp at hz; omega
     have e : firstS parse c r = ⟨4, (S.extract 0 2).data.toList, [], 2, 0⟩ := by
      unfold firstS
      rw [if_neg hl2, if_neg hn2, if_neg hQ, if_pos h2, take_two hS]
     rcases hF.2 with hM | ⟨hM, h1⟩ | ⟨hM, h1, hE1⟩
     ·exact retF w (first_two_al S w h0 hs hl' hF.1 hM hQ' hlen hcc) e (by omega)
     ·omega
     ·exact retF w (first_two_cl S w h0 hs hl' hF.1 hM h1 hE1 hQ' hlen hcc) e (by omega)
    ·rw [decide_eq_false h2] at hcon
     have hcc := contains_call S _ w hcon
     by_cases h3 : c ∈ marks1
     ·have hi : Lib.indexByte (ByteArray.mk #[40, 41, 91, 93, 123, 125, 58, 44, 59, 61, 60, 62, 43, 42, 47, 46, 64, 124, 38, 45]).data.toList (S[0].toNat : Int).toNat.toUInt8 = ((marks1.takeWhile (· != c)).length : Nat) := by
       rw [hu]
       exact indexByte_in c marks1 h3
      have e : firstS parse c r = ⟨4, (S.extract 0 1).data.toList, [], 1, 0⟩ := by
       unfold firstS
       rw [if_neg hl2, if_neg hn2, if_neg hQ, if_neg h2, if_pos h3, Lib.extract_from_zero, hS]
       rfl
      rcases hF.2 with hM | ⟨hM, h1⟩ | ⟨hM, h1, hE1⟩
      ·by_cases hlen : 1 < S.size
       ·exact retF w (first_one_al S w h0 hs hl' hF.1 hM hQ' hlen hcc _ hi) e (by omega)
       ·exact retF w (first_one_as S w h0 hs hl' hF.1 hM hQ' (by omega) _ hi) e (by omega)
      ·exact retF w (first_one_bs S w h0 hs hl' hF.1 hM h1 hQ' h1 _ hi) e (by omega)
      ·exact retF w (first_one_cl S w h0 hs hl' hF.1 hM h1 hE1 hQ' h1 hcc _ hi) e (by omega)
     ·have hM : S[0] ≠ 45 := by
       rw [hc]
       rintro rfl
       exact h3 (by decide)
      have hi : Lib.indexByte (ByteArray.mk #[40, 41, 91, 93, 123, 125, 58, 44, 59, 61, 60, 62, 43, 42, 47, 46, 64, 124, 38, 45]).data.toList (S[0].toNat : Int).toNat.toUInt8 = -1 := by
       rw [hu]
       exact indexByte_out c marks1 h3
      have e : firstS parse c r = ⟨0, [], [], 0, 15⟩ := by
       unfold firstS
       rw [if_neg hl2, if_neg hn2, if_neg hQ, if_neg h2, if_neg h3]
       rfl
      by_cases hlen : 1 < S.size
      ·exact retF w (first_none_al S w h0 hs hl' hF.1 hM hQ' hlen hcc hi) e (by omega)
      ·exact retF w (first_none_as S w h0 hs hl' hF.1 hM hQ' (by omega) hi) e (by omega)

end Go.Proofs.YtfhmgkicccfghaaGreatDoor
