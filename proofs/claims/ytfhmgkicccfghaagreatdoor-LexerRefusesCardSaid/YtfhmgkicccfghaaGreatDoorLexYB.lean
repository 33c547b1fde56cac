/- The model's token answers what the plain law says. -/
import Derived.Test.YtfhmgkicccfghaaGreatDoorLexYA
import Derived.Test.YtfhmgkicccfghaaGreatDoorLexWF
namespace Go.Proofs.YtfhmgkicccfghaaGreatDoor
set_option linter.all false
open Go.RowKit

theorem fst_eq {f : Fst} {k : Int} {t x : ByteArray} {n e : Int} (h : f = ⟨k, t.data.toList, x.data.toList, n.toNat, e⟩) (hn : 0 ≤ n) : FstV f = fstV k t x n e := (fstV_eq h hn).symm
theorem tw34_lt : ∀ l : List UInt8, (34 : UInt8) ∈ l → (l.takeWhile (· != 34)).length < l.length
 | [], h => by cases h
 | b :: l, h => by
  rw [List.takeWhile_cons]
  split
  ·rename_i hb
   rcases List.mem_cons.1 h with h | h
   ·rw [← h] at hb; exact absurd hb (by decide)
   ·have := tw34_lt l h
    simp only [List.length_cons]
    omega
  ·simp
theorem tw34_all : ∀ l : List UInt8, (34 : UInt8) ∉ l → (l.takeWhile (· != 34)).length = l.length
 | [], _ => rfl
 | b :: l, h => by
  have hb : (b != 34) = true := by rw [bne_iff_ne]; exact fun e => h (by simp [e])
  rw [List.takeWhile_cons, if_pos hb, List.length_cons, List.length_cons, tw34_all l (fun e => h (List.mem_cons_of_mem _ e))]
set_option maxHeartbeats 1000000 in
theorem token_any (parse : List UInt8 → List UInt8 × Int) (S : ByteArray) (c : UInt8) (r : List UInt8) (hS : S.data.toList = c :: r) (hs : S.size ≤ 65536) (w : World)
  (hp : isNumStart c r = true → ParseC parse w (c :: r.takeWhile isNum)) :
  Calls Tryz.prog 36 #[.string S] w fun e w' => e = .returned (FstV (firstS parse c r)) ∧ Below w.heap.size w w' := by
 have hz : S.size = r.length + 1 := by rw [Lib.size_eq, hS]; rfl
 have h0 : 0 < S.size := by omega
 have hd : S.data.toList.drop 1 = r := by rw [hS]; rfl
 have hc : S[0] = c := by
  have e : S[0] = S.data.toList[0]'(by rw [← Lib.size_eq]; exact h0) := rfl
  rw [e]
  simp only [hS]
  rfl
 cases hl : isLet c with
 | true =>
  refine token_word S w h0 hs (by rw [hc]; exact hl) _ fun n hn => ?_
  rw [hd] at hn
  subst hn
  refine ⟨fun h => fst_eq ?_ (by omega), fun h => fst_eq ?_ (by omega)⟩
  ·unfold firstS
   rw [if_pos hl, if_pos (by omega)]
   rfl
  ·unfold firstS
   rw [if_pos hl, if_neg (by omega), Lib.extract_from_zero, hS, Nat.add_comm 1, List.take_succ_cons, takeWhile_take]
   rfl
 | false =>
  have hl' : isLet S[0] = false := by rw [hc]; exact hl
  have hl2 : ¬ isLet c = true := by rw [hl]; decide
  obtain ⟨hT, hF⟩ := isNum_isNumStart hS h0 hc
  cases hn : isNumStart c r with
  | true =>
   have hT2 : S.extract 0 (1 + (r.takeWhile isNum).length) = ⟨(c :: r.takeWhile isNum).toArray⟩ := by rw [ext0, hS, Nat.add_comm, List.take_succ_cons, takeWhile_take]
   refine token_num S w h0 hs hl' ⟨h0, hT hn⟩ _ ⟨(parse (c :: r.takeWhile isNum)).1.toArray⟩ (parse (c :: r.takeWhile isNum)).2 (1 + (r.takeWhile isNum).length) (by rw [hd]) (fun W hW => by rw [hT2]; exact hp hn W hW) ⟨fun hE => fst_eq ?_ (by omega), fun hE => fst_eq ?_ (by omega)⟩
   ·unfold firstS
    rw [if_neg hl2, if_pos hn, if_pos hE, Int.toNat_natCast, Nat.add_comm 1]
   ·unfold firstS
    rw [if_neg hl2, if_pos hn, if_neg hE]
    rfl
  | false =>
   have hn2 : ¬ isNumStart c r = true := by rw [hn]; decide
   have hF := hF hn
   by_cases hQ : c = 34
   ·refine token_quote S w h0 hs hl' hF.1 (by rw [hc]; exact hQ) _ fun n hn => ?_
    rw [hd] at hn
    subst hn
    by_cases hm : (34 : UInt8) ∈ r
    ·have hle := tw34_lt r hm
     refine ⟨fun h => by omega, fun h => fst_eq ?_ (by omega)⟩
     unfold firstS
     rw [if_neg hl2, if_neg hn2, if_pos hQ, if_pos hm, Nat.add_comm 1, ext1k hS, takeWhile_take]
     simp
     omega
    ·have hle := tw34_all r hm
     refine ⟨fun h => fst_eq ?_ (by omega), fun h => by omega⟩
     unfold firstS
     rw [if_neg hl2, if_neg hn2, if_pos hQ, if_neg hm]
     rfl
   ·refine token_mark S w h0 hs hl' ⟨h0, hF⟩ (by rw [hc]; exact hQ) _ ⟨fun h1 h2 => fst_eq ?_ (by decide), fun h2 => ⟨fun h3 => fst_eq ?_ (by decide), fun h3 => fst_eq ?_ (by decide)⟩⟩
    ·rw [take_two hS] at h2 ⊢
     unfold firstS
     rw [if_neg hl2, if_neg hn2, if_neg hQ, if_pos h2]
     rfl
    ·have h4 : (c :: r).take 2 ∉ marks2 := by
      intro h4
      by_cases hs1 : 1 < S.size
      ·exact h2 hs1 (by rw [take_two hS]; exact h4)
      ·have : r = [] := List.eq_nil_of_length_eq_zero (by omega)
       subst this
       revert h4
       simp [marks2]
     rw [hc] at h3
     unfold firstS
     rw [if_neg hl2, if_neg hn2, if_neg hQ, if_neg h4, if_pos h3, Lib.extract_from_zero, hS]
     rfl
    ·have h4 : (c :: r).take 2 ∉ marks2 := by
      intro h4
      by_cases hs1 : 1 < S.size
      ·exact h2 hs1 (by rw [take_two hS]; exact h4)
      ·have : r = [] := List.eq_nil_of_length_eq_zero (by omega)
       subst this
       revert h4
       simp [marks2]
     rw [hc] at h3
     unfold firstS
     rw [if_neg hl2, if_neg hn2, if_neg hQ, if_neg h4, if_neg h3]
     rfl

end Go.Proofs.YtfhmgkicccfghaaGreatDoor
