/- Words and Text of klippelaw51. -/
import Derived.Test.YtfhmgkicccfghaaGreatDoorLexZB
namespace Go.Proofs.YtfhmgkicccfghaaGreatDoor
set_option linter.all false
open Go.RowKit

def wordsL : List (List UInt8) := [[97], [66, 101, 100, 95, 50], [49, 50], [45, 51], [51, 47, 52], [49, 46, 53], [45, 62], [60, 61], [62, 61], [33, 61], [40], [41], [91], [93], [123], [125], [58], [44], [59], [61], [60], [62], [43], [42], [47], [46], [64], [124], [38], [45], [32], [9], [10], [13], [35, 32, 120], [34, 113, 32, 114, 34], [34], [36], [49, 47, 48], [195, 169]]
def wordL (z : Int) : List UInt8 := wordsL[(z % 40).toNat]?.getD []
theorem words_all : ∀ x ∈ wordsL, x.length ≤ 5 ∧ x.countP isDig ≤ 2 ∧ (x.length ≤ 5 ∧ (10 ∈ x → x = [10])) := by decide
theorem word_ok (z : Int) : (wordL z).length ≤ 5 ∧ (wordL z).countP isDig ≤ 2 ∧ (10 ∈ wordL z → wordL z = [10]) := by
 unfold wordL
 cases h : wordsL[(z % 40).toNat]? with
 | none => exact ⟨by decide, by decide, by intro h; cases h⟩
 | some x => exact ⟨(words_all x (List.mem_of_getElem? h)).1, (words_all x (List.mem_of_getElem? h)).2.1, (words_all x (List.mem_of_getElem? h)).2.2.2⟩
theorem text_len : ∀ zs : List Int, (zs.flatMap wordL).length ≤ 5 * zs.length
 | [] => Nat.le_refl _
 | z :: zs => by
  have h := text_len zs
  have h1 := (word_ok z).1
  rw [List.flatMap_cons, List.length_append, List.length_cons]
  omega
theorem text_dig : ∀ zs : List Int, (zs.flatMap wordL).countP isDig ≤ 2 * zs.length
 | [] => Nat.le_refl _
 | z :: zs => by
  have h := text_dig zs
  have h1 := (word_ok z).2.1
  rw [List.flatMap_cons, List.countP_append, List.length_cons]
  omega
def U8At (W : World) (v : Value) (zs : List Int) : Prop :=
 ∃ a c, v = .slice a zs.length c ∧ ∀ i z, zs[i]? = some z → 0 ≤ z ∧ z ≤ 255 ∧ ∃ d o, a = some ⟨d, o, none⟩ ∧ d < W.heap.size ∧ W.cell? ⟨d, o + i, none⟩ = some (.int .u8 z)
theorem U8At.below {W W' : World} {v : Value} {zs : List Int} (h : U8At W v zs) (q : Below W.heap.size W W') : U8At W' v zs := by
 obtain ⟨a, c, h1, h2⟩ := h
 refine ⟨a, c, h1, fun i z hz => ?_⟩
 obtain ⟨e0, e1, d, o, e2, e3, e4⟩ := h2 i z hz
 exact ⟨e0, e1, d, o, e2, Nat.lt_of_lt_of_le e3 q.size, (q.cell (p := ⟨d, _, none⟩) e3).trans e4⟩
set_option maxRecDepth 100000 in
set_option maxHeartbeats 4000000 in
theorem words_any (z : Int) (hz0 : 0 ≤ z) (hz1 : z ≤ 255) (w : World) :
  Calls Tryz.prog 24 #[.int .u8 z] w fun e w' => e = .returned (.string ⟨(wordL z).toArray⟩) ∧ Below w.heap.size w w' := by
 have k0 := Blk.fresh w #[.string ⟨#[97]⟩, .string ⟨#[66, 101, 100, 95, 50]⟩, .string ⟨#[49, 50]⟩, .string ⟨#[45, 51]⟩, .string ⟨#[51, 47, 52]⟩, .string ⟨#[49, 46, 53]⟩, .string ⟨#[45, 62]⟩, .string ⟨#[60, 61]⟩, .string ⟨#[62, 61]⟩, .string ⟨#[33, 61]⟩, .string ⟨#[40]⟩, .string ⟨#[41]⟩, .string ⟨#[91]⟩, .string ⟨#[93]⟩, .string ⟨#[123]⟩, .string ⟨#[125]⟩, .string ⟨#[58]⟩, .string ⟨#[44]⟩, .string ⟨#[59]⟩, .string ⟨#[61]⟩, .string ⟨#[60]⟩, .string ⟨#[62]⟩, .string ⟨#[43]⟩, .string ⟨#[42]⟩, .string ⟨#[47]⟩, .string ⟨#[46]⟩, .string ⟨#[64]⟩, .string ⟨#[124]⟩, .string ⟨#[38]⟩, .string ⟨#[45]⟩, .string ⟨#[32]⟩, .string ⟨#[9]⟩, .string ⟨#[10]⟩, .string ⟨#[13]⟩, .string ⟨#[35, 32, 120]⟩, .string ⟨#[34, 113, 32, 114, 34]⟩, .string ⟨#[34]⟩, .string ⟨#[36]⟩, .string ⟨#[49, 47, 48]⟩, .string ⟨#[195, 169]⟩] 9
 have b0 := (Below.refl w.heap.size w).alloc (Nat.le_refl _) (.cells #[.string ⟨#[97]⟩, .string ⟨#[66, 101, 100, 95, 50]⟩, .string ⟨#[49, 50]⟩, .string ⟨#[45, 51]⟩, .string ⟨#[51, 47, 52]⟩, .string ⟨#[49, 46, 53]⟩, .string ⟨#[45, 62]⟩, .string ⟨#[60, 61]⟩, .string ⟨#[62, 61]⟩, .string ⟨#[33, 61]⟩, .string ⟨#[40]⟩, .string ⟨#[41]⟩, .string ⟨#[91]⟩, .string ⟨#[93]⟩, .string ⟨#[123]⟩, .string ⟨#[125]⟩, .string ⟨#[58]⟩, .string ⟨#[44]⟩, .string ⟨#[59]⟩, .string ⟨#[61]⟩, .string ⟨#[60]⟩, .string ⟨#[62]⟩, .string ⟨#[43]⟩, .string ⟨#[42]⟩, .string ⟨#[47]⟩, .string ⟨#[46]⟩, .string ⟨#[64]⟩, .string ⟨#[124]⟩, .string ⟨#[38]⟩, .string ⟨#[45]⟩, .string ⟨#[32]⟩, .string ⟨#[9]⟩, .string ⟨#[10]⟩, .string ⟨#[13]⟩, .string ⟨#[35, 32, 120]⟩, .string ⟨#[34, 113, 32, 114, 34]⟩, .string ⟨#[34]⟩, .string ⟨#[36]⟩, .string ⟨#[49, 47, 48]⟩, .string ⟨#[195, 169]⟩] 9)
 have hm0 : 0 ≤ z % 40 := Int.emod_nonneg z (by decide)
 have hm1 : z % 40 < 40 := Int.emod_lt_of_pos z (by decide)
 have hcell : (w.alloc (.cells #[.string ⟨#[97]⟩, .string ⟨#[66, 101, 100, 95, 50]⟩, .string ⟨#[49, 50]⟩, .string ⟨#[45, 51]⟩, .string ⟨#[51, 47, 52]⟩, .string ⟨#[49, 46, 53]⟩, .string ⟨#[45, 62]⟩, .string ⟨#[60, 61]⟩, .string ⟨#[62, 61]⟩, .string ⟨#[33, 61]⟩, .string ⟨#[40]⟩, .string ⟨#[41]⟩, .string ⟨#[91]⟩, .string ⟨#[93]⟩, .string ⟨#[123]⟩, .string ⟨#[125]⟩, .string ⟨#[58]⟩, .string ⟨#[44]⟩, .string ⟨#[59]⟩, .string ⟨#[61]⟩, .string ⟨#[60]⟩, .string ⟨#[62]⟩, .string ⟨#[43]⟩, .string ⟨#[42]⟩, .string ⟨#[47]⟩, .string ⟨#[46]⟩, .string ⟨#[64]⟩, .string ⟨#[124]⟩, .string ⟨#[38]⟩, .string ⟨#[45]⟩, .string ⟨#[32]⟩, .string ⟨#[9]⟩, .string ⟨#[10]⟩, .string ⟨#[13]⟩, .string ⟨#[35, 32, 120]⟩, .string ⟨#[34, 113, 32, 114, 34]⟩, .string ⟨#[34]⟩, .string ⟨#[36]⟩, .string ⟨#[49, 47, 48]⟩, .string ⟨#[195, 169]⟩] 9)).cell? ⟨w.heap.size, (z % 40).toNat, none⟩ = some (.string ⟨(wordL z).toArray⟩) := by
  refine k0.at_ _ _ ?_
  have hk : (z % 40).toNat < 40 := by omega
  unfold wordL
  generalize (z % 40).toNat = k at hk ⊢
  have e : (#[.string ⟨#[97]⟩, .string ⟨#[66, 101, 100, 95, 50]⟩, .string ⟨#[49, 50]⟩, .string ⟨#[45, 51]⟩, .string ⟨#[51, 47, 52]⟩, .string ⟨#[49, 46, 53]⟩, .string ⟨#[45, 62]⟩, .string ⟨#[60, 61]⟩, .string ⟨#[62, 61]⟩, .string ⟨#[33, 61]⟩, .string ⟨#[40]⟩, .string ⟨#[41]⟩, .string ⟨#[91]⟩, .string ⟨#[93]⟩, .string ⟨#[123]⟩, .string ⟨#[125]⟩, .string ⟨#[58]⟩, .string ⟨#[44]⟩, .string ⟨#[59]⟩, .string ⟨#[61]⟩, .string ⟨#[60]⟩, .string ⟨#[62]⟩, .string ⟨#[43]⟩, .string ⟨#[42]⟩, .string ⟨#[47]⟩, .string ⟨#[46]⟩, .string ⟨#[64]⟩, .string ⟨#[124]⟩, .string ⟨#[38]⟩, .string ⟨#[45]⟩, .string ⟨#[32]⟩, .string ⟨#[9]⟩, .string ⟨#[10]⟩, .string ⟨#[13]⟩, .string ⟨#[35, 32, 120]⟩, .string ⟨#[34, 113, 32, 114, 34]⟩, .string ⟨#[34]⟩, .string ⟨#[36]⟩, .string ⟨#[49, 47, 48]⟩, .string ⟨#[195, 169]⟩] : Array Value) = (wordsL.map fun x => Value.string ⟨x.toArray⟩).toArray := rfl
  have hlt : k < wordsL.length := hk
  rw [e, List.getElem?_toArray, List.getElem?_map, List.getElem?_eq_getElem hlt]
  rfl
 have B := Lib.hid b0
 clear k0 b0
 generalize wordL z = x at *
 go_enter Tryz.func24, Tryz.ntmps24
 go_wp2
 go_ret
 exact ⟨rfl, B.out⟩
set_option maxRecDepth 100000 in
set_option maxHeartbeats 4000000 in
theorem text_any (v : Value) (zs : List Int) (w : World) (h : U8At w v zs) (hl : zs.length ≤ 40) :
  Calls Tryz.prog 12 #[v] w fun e w' => e = .returned (.string ⟨(zs.flatMap wordL).toArray⟩) ∧ Below w.heap.size w w' := by
 have H := Lib.hid h
 obtain ⟨a, c, rfl, _⟩ := h
 have WD := Lib.hid (fun z (h0 : 0 ≤ z) (h1 : z ≤ 255) W => words_any z h0 h1 W)
 go_enter Tryz.func12, Tryz.ntmps12
 go_wp2
 go_loopw [3, 4] (fun s i wr => ∃ (k : Nat) (T : ByteArray), k ≤ zs.length ∧ i = .int .i64 k ∧ s = .string T ∧ T.data.toList = (zs.take k).flatMap wordL ∧ Below w.heap.size w wr) (fun _ i _ => zs.length - (intOf i).toNat)
 case atStart => exact ⟨0, ⟨#[]⟩, Nat.zero_le _, rfl, rfl, rfl, Below.refl _ _⟩
 case round =>
  obtain ⟨k, T, hk, rfl, rfl, hT, hB⟩ := hrel
  have B := Lib.hid hB
  have HT := Lib.hid hT
  have hsz : T.size ≤ 200 := by
   rw [Lib.size_eq, hT]
   have := text_len (zs.take k)
   have h2 : (zs.take k).length ≤ 40 := by rw [List.length_take]; omega
   omega
  clear hB hT
  by_cases hlt : k < zs.length
  ·obtain ⟨a', c', e, hh⟩ := H.out.below B.out
   injection e with e1 _ e3
   subst e1 e3
   have hz := List.getElem?_eq_getElem hlt
   obtain ⟨h0, h1, d, o, rfl, _, hc⟩ := hh k _ hz
   have hnext : (zs.take (k + 1)).flatMap wordL = (zs.take k).flatMap wordL ++ wordL zs[k] := by
    rw [List.take_succ_eq_append_getElem hlt, List.flatMap_append]
    simp
   have hwl := (word_ok zs[k]).1
   generalize zs[k] = z at *
   have WZ := Lib.hid (fun W => WD.out z h0 h1 W)
   have hws : (⟨(wordL z).toArray⟩ : ByteArray).size ≤ 5 := by rw [Lib.size_eq]; exact hwl
   have HN := Lib.hid hnext
   have hi : (k : Int) < (zs.length : Int) := by omega
   have t40 : decide ((k : Int) < 40) = true := decide_eq_true (by omega)
   clear hh hz hnext hwl
   generalize hX : (⟨(wordL z).toArray⟩ : ByteArray) = X at *
   have HX := Lib.hid hX
   clear hX
   go_wp2_with (first
    | (go_at_call 24; with_reducible refine (WZ.out _).mono ?_; rintro e wx ⟨rfl, q⟩; replace B := Lib.hid (goI B.out q); clear q)
    | fail "arm")
   refine ⟨⟨k + 1, T ++ X, hlt, by go_num, rfl, ?_, B.out⟩, by simp [intOf]; omega⟩
   rw [HN.out, ← HT.out, ← HX.out]
   simp [ByteArray.data_append]
  ·obtain rfl : k = zs.length := by omega
   go_wp2
   go_ret
   refine ⟨?_, B.out⟩
   have h := HT.out
   rw [List.take_length] at h
   rw [← h]
   rfl

end Go.Proofs.YtfhmgkicccfghaaGreatDoor
