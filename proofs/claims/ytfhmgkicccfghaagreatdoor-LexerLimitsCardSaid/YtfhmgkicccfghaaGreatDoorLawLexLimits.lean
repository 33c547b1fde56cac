/- LexerLimits: for every number the call returns true. -/
import Derived.Test.YtfhmgkicccfghaaGreatDoorLexZB
import Derived.Test.YtfhmgkicccfghaaGreatDoorPushM
namespace Go.Proofs.YtfhmgkicccfghaaGreatDoor
set_option linter.all false
open Go.RowKit

theorem u8E : IntElem Tryz.prog 22 5 .u8 1 := ⟨Tryz.underlying22, by kernel_rfl, by omega⟩
def pairsI : Nat → List Int
 | 0 => []
 | k + 1 => pairsI k ++ [97, 10]
theorem pairs_len : ∀ k, (pairsI k).length = 2 * k
 | 0 => rfl
 | k + 1 => by unfold pairsI; rw [List.length_append, pairs_len k]; show 2 * k + 2 = _; omega
theorem linesA_snoc : ∀ k, linesA k ++ [97, 10] = linesA (k + 1)
 | 0 => rfl
 | k + 1 => by
  show 97 :: 10 :: (linesA k ++ [97, 10]) = _
  rw [linesA_snoc k]
  rfl
theorem pairs_text : ∀ k, (strOfNums (pairsI k)).data.toList = linesA k
 | 0 => rfl
 | k + 1 => by
  rw [strOfNums_data]
  unfold pairsI
  rw [List.map_append, ← strOfNums_data, pairs_text k, ← linesA_snoc k]
  rfl
theorem linesA_mem : ∀ (k : Nat), ∀ x ∈ linesA k, x = 97 ∨ x = 10
 | 0, x, h => by cases h
 | k + 1, x, h => by
  rcases List.mem_cons.1 h with h | h
  ·exact .inl h
  ·rcases List.mem_cons.1 h with h | h
   ·exact .inr h
   ·exact linesA_mem k x h
def noParse (l : List UInt8) : List UInt8 × Int := (l, 0)
theorem no_num {w : World} (S : ByteArray) (h : ∀ x ∈ S.data.toList, x = 97 ∨ x = 10 ∨ x = 32 ∨ x = 119) : ∀ c r, isNumStart c r = true → (c :: r).Sublist S.data.toList → ParseC noParse w (c :: r.takeWhile isNum) := fun c r hn hs => by
 have hc := h c (hs.subset List.mem_cons_self)
 exfalso
 unfold isNumStart at hn
 rcases hc with rfl | rfl | rfl | rfl <;> simp [isDig] at hn
def wL (n : Nat) : List UInt8 := List.replicate n 119
theorem scan_w32 : scanF noParse (wL 32) 1 1 false [] = ⟨[⟨1, wL 32, [], 1, 1⟩, endT 1 33], 0, 0, 0⟩ := by
 have f1 : firstS noParse 119 ((wL 31).takeWhile notNl) = ⟨1, wL 32, [], 32, 0⟩ := rfl
 show scanF noParse (119 :: wL 31) 1 1 false [] = _
 rw [scanF_tok _ _ _ _ _ _ _ (by decide) (by decide) (by decide) (by rw [f1]) (by decide), f1]
 show scanF noParse [] 1 33 true _ = _
 rw [scanF_nil, if_pos rfl, if_neg (by decide)]
 rfl
theorem scan_w33 : scanF noParse (32 :: wL 33) 1 1 false [] = ⟨[], 1, 2, 8⟩ := by
 have f1 : firstS noParse 119 ((wL 32).takeWhile notNl) = Fst.bad 8 := rfl
 rw [scanF_blank _ _ _ _ _ _ _ (by decide) (by decide)]
 show scanF noParse (119 :: wL 32) 1 2 false [] = _
 rw [scanF_err _ _ _ _ _ _ _ (by decide) (by decide) (by decide) (by rw [f1]; decide), f1]
 rfl
theorem scan_lines (k : Nat) : (2 * k ≤ 5000 → ∃ l, scanF noParse (linesA k) 1 1 false [] = ⟨l, 0, 0, 0⟩ ∧ l.length = 2 * k) ∧ (5000 < 2 * k → scanF noParse (linesA k) 1 1 false [] = ⟨[], 2501, 1, 4⟩) := by
 have h := scan_linesA noParse k 1 [] rfl (by decide)
 refine ⟨fun hk => ?_, fun hk => h.2 (by simpa using hk)⟩
 obtain ⟨l, h1, h2⟩ := h.1 (by simpa using hk)
 exact ⟨l, h1, by simpa using h2⟩
theorem scanR_len {w : World} {R : Res} {e : Ending} {w' : World} (h : ScanR w R e w') : ∃ v, e = .returned (.tuple #[v, .agg #[.int .i64 R.line, .int .i64 R.col], .int .i64 R.err]) ∧ (∃ a c, v = .slice a R.toks.length c) ∧ Below w.heap.size w w' := by
 obtain ⟨v, h1, h2, h3⟩ := h
 exact ⟨v, h1, h2.len_eval, h3⟩
set_option maxRecDepth 100000 in
set_option maxHeartbeats 8000000 in
theorem lexLimits_walk (z : Int) (hz0 : 0 ≤ z) (w : World) (he : Env w) :
  Calls Tryz.prog 5 #[.int .u8 z] w fun e w' => e = .returned (.bool true) ∧ Below w.heap.size w w' := by
 have KN := Lib.hid (fun W (hW : Below w.heap.size w W) => known51 W (he.below hW))
 have B := Lib.hid (Below.refl w.heap.size w)
 have HM := Lib.hid (fun W (hW : Below w.heap.size w W) => (he.below hW).2)
 have hm0 : 0 ≤ z % 21 := Int.emod_nonneg z (by decide)
 have hm1 : z % 21 < 21 := Int.emod_lt_of_pos z (by decide)
 clear he
 go_enter Tryz.func5, Tryz.ntmps5
 go_upto_region 4 with (first
  | (go_at_call 11; with_reducible refine (KN.out _ (baseI B.out)).mono ?_; rintro e wx ⟨rfl, q⟩; replace B := Lib.hid (goI B.out q); clear q)
  | fail "arm")
 obtain ⟨k, hk⟩ : ∃ k : Nat, 2490 + z % 21 = k := ⟨(2490 + z % 21).toNat, by omega⟩
 rw [hk]
 have hk1 : 2490 ≤ k := by omega
 have hk2 : k ≤ 2510 := by omega
 clear hk hm0 hm1
 go_wp2
 go_loopw [4, 6] (fun sv iv wr => ∃ (i : Nat) (A : Option Addr) (c : Nat), i ≤ k ∧ iv = .int .i64 i ∧ sv = .slice A (2 * i) c ∧ Own wr w.heap.size 5 .u8 A (2 * i) c (pairsI i) ∧ Below w.heap.size w wr) (fun _ iv _ => k - (intOf iv).toNat)
 case atStart => exact ⟨0, none, 0, Nat.zero_le _, rfl, rfl, Own.nil_ _ _ _ _, B.out⟩
 case round =>
  obtain ⟨i, A, c, hi, rfl, rfl, hown, hB⟩ := hrel
  clear B
  have OW := Lib.hid hown
  have B := Lib.hid hB
  clear hown hB
  have hws := B.out.size
  by_cases hlt : i < k
  ·have hlt2 : (i : Int) < (k : Int) := by omega
   go_wp2_with (at_builtin; refine wpList_pushM u8E rfl (.tmp 31) (.tmp 32) rfl w.heap.size A (2 * i) c (pairsI i) wr rfl OW.out [97, 10] 2 rfl (by omega) (by omega) rfl (by omega) hws ?_; intro A' c' w5 r1 r2 r3)
   have hB5 := OW.out.grownBelow r2 B.out (Nat.le_refl _) hws
   refine ⟨⟨i + 1, A', c', hlt, by go_num, rfl, r1, hB5⟩, by simp [intOf]; omega⟩
  ·have hik : k = i := by omega
   subst hik
   have hcase : ∃ (L C : Nat) (E : Int) (N : Nat), (∃ l, scanF noParse (linesA k) 1 1 false [] = ⟨l, L, C, E⟩ ∧ l.length = N) ∧ ((2 * k ≤ 5000 ∧ N = 2 * k ∧ E = 0) ∨ (5000 < 2 * k ∧ N = 0 ∧ L = 2501 ∧ C = 1 ∧ E = 4)) := by
    by_cases h : 2 * k ≤ 5000
    ·obtain ⟨l, h1, h2⟩ := (scan_lines k).1 h
     exact ⟨0, 0, 0, 2 * k, ⟨l, h1, h2⟩, .inl ⟨h, rfl, rfl⟩⟩
    ·exact ⟨2501, 1, 4, 0, ⟨[], (scan_lines k).2 (by omega), rfl⟩, .inr ⟨by omega, rfl, rfl, rfl, rfl⟩⟩
   obtain ⟨L, C, E, N, ⟨ll, hR, hN⟩, hcase⟩ := hcase
   have HC := Lib.hid hcase
   clear hcase
   have scX : ∀ (Z : ByteArray) (hz : Z.size ≤ 65536) (hm : ∀ x ∈ Z.data.toList, x = 97 ∨ x = 10 ∨ x = 32 ∨ x = 119) W, Below w.heap.size w W → Calls Tryz.prog 13 #[.string Z] W fun e w' => ∃ v, e = .returned (.tuple #[v, .agg #[.int .i64 (scanF noParse Z.data.toList 1 1 false []).line, .int .i64 (scanF noParse Z.data.toList 1 1 false []).col], .int .i64 (scanF noParse Z.data.toList 1 1 false []).err]) ∧ (∃ a c, v = .slice a (scanF noParse Z.data.toList 1 1 false []).toks.length c) ∧ Below W.heap.size W w' := fun Z hz hm W hW => (scan_any noParse Z W hz (HM.out W hW) (no_num Z hm)).mono fun e w' h => scanR_len h
   have SCX := Lib.hid scX
   clear scX
   have hlt0 : ¬ (k : Int) < (k : Int) := by omega
   clear hlt
   generalize wr = W1 at *
   have hbase : w.heap.size ≤ W1.heap.size := hws
   clear hws
   go_wp2
   go_loopw [5, 7] (fun sv iv wq => ∃ (i : Nat) (A2 : Option Addr) (c2 : Nat), i ≤ 33 ∧ iv = .int .i64 i ∧ sv = .slice A2 i c2 ∧ Own wq W1.heap.size 5 .u8 A2 i c2 (List.replicate i 119) ∧ Below W1.heap.size W1 wq) (fun _ iv _ => 33 - (intOf iv).toNat)
   case atStart => exact ⟨0, none, 0, Nat.zero_le _, rfl, rfl, Own.nil_ _ _ _ _, Below.refl _ _⟩
   case round =>
    obtain ⟨i, A2, c2, hi33, rfl, rfl, hown2, hB2⟩ := hrel
    have OW2 := Lib.hid hown2
    have QB := Lib.hid hB2
    clear hown2 hB2
    have hws2 := QB.out.size
    by_cases hl33 : i < 33
    ·have t33 : decide ((i : Int) < 33) = true := decide_eq_true (by omega)
     have hrep : List.replicate i (119 : Int) ++ [119] = List.replicate (i + 1) 119 := (List.replicate_succ' ..).symm
     go_wp2_with (at_builtin; refine wpList_pushM u8E rfl (.tmp 38) (.tmp 39) rfl W1.heap.size A2 i c2 (List.replicate i 119) wr rfl OW2.out [119] 1 rfl (by omega) (by omega) rfl (by omega) hws2 ?_; intro A' c' w5 r1 r2 r3)
     have hB5 := OW2.out.grownBelow r2 QB.out (Nat.le_refl _) hws2
     rw [hrep] at r1
     refine ⟨⟨i + 1, A', c', hl33, by go_num, rfl, r1, hB5⟩, by simp [intOf]; omega⟩
    ·have hi3 : i = 33 := by omega
     subst hi3
     have hk2' : (linesA k).length = 2 * k := by rw [← pairs_text k, ← Lib.size_eq, strOfNums_size, pairs_len]
     have OWB : Hid ((A = none ∧ c = 0) ∨ ∃ g, A = some ⟨g, 0, none⟩ ∧ g < W1.heap.size) := Lib.hid (by
      rcases OW.out.form with ⟨h1, _, h3⟩ | ⟨g, cur, h1, _, h2, _⟩
      ·exact .inl ⟨h1, h3⟩
      ·exact .inr ⟨g, h1, (Array.getElem?_eq_some_iff.1 h2).1⟩)
     have OS := Lib.hid (OW.out.below QB.out (Nat.le_refl _))
     have B2 := Lib.hid (B.out.trans (QB.out.mono hbase))
     have cv1 := OS.out.text Tryz.underlying22 Tryz.underlying5 Tryz.underlying9 (2 * k) c (Nat.le_refl _) (by omega)
     rw [List.take_of_length_le (by rw [pairs_len]; exact Nat.le_refl _)] at cv1
     have hX := pairs_text k
     have hXs : (strOfNums (pairsI k)).size ≤ 5020 := by rw [Lib.size_eq, hX, hk2']; omega
     generalize strOfNums (pairsI k) = X at *
     have s13 := fun W hW => SCX.out X (by omega) (by rw [hX]; intro x hx; rcases linesA_mem k x hx with h | h; exact .inl h; exact .inr (.inl h)) W hW
     rw [hX, hR] at s13
     have S13 : Hid (∀ W, Below w.heap.size w W → Calls Tryz.prog 13 #[.string X] W fun e w' => ∃ v, e = .returned (.tuple #[v, .agg #[.int .i64 L, .int .i64 C], .int .i64 E]) ∧ (∃ a c, v = .slice a N c) ∧ Below W.heap.size W w') := Lib.hid (by rw [← hN]; exact s13)
     clear s13 hX hXs hk2' hR OW B
     go_upto_region 14 with (first
      | (go_at_call 13; with_reducible refine (S13.out _ B2.out).mono ?_; rintro e w2 ⟨v2, rfl, ⟨a8, c8, rfl⟩, q2⟩)
      | fail "arm")
     have q3 := q2.alloc q2.size (.cells #[.int .i64 L, .int .i64 C] 27)
     have K9 := Lib.hid (Blk.fresh w2 #[.int .i64 L, .int .i64 C] 27)
     have hb9 : W1.heap.size ≤ w2.heap.size := Nat.le_trans hws2 q2.size
     replace OS := Lib.hid (OS.out.below q3 (Nat.le_refl _))
     replace OW2 := Lib.hid (OW2.out.below q3 (Nat.le_refl _))
     replace B2 := Lib.hid (B2.out.trans (q3.mono B2.out.size))
     have hws3 : w2.heap.size < (w2.alloc (.cells #[.int .i64 L, .int .i64 C] 27)).heap.size := by simp
     clear q3 q2
     generalize (w2.alloc (.cells #[.int .i64 L, .int .i64 C] 27)) = W3 at *
     generalize w2.heap.size = b9 at *
     clear S13 cv1
     have hc33 : 33 ≤ c2 := by
      rcases OW2.out.form with ⟨_, h, _⟩ | ⟨g, cur, _, _, _, h, _⟩
      ·omega
      ·exact h
     have hc32 : (32 : Int) ≤ (c2 : Int) := by omega
     have cv2 := OW2.out.text Tryz.underlying22 Tryz.underlying5 Tryz.underlying9 32 c2 (by omega) (by omega)
     have hY : (strOfNums ((List.replicate 33 (119 : Int)).take 32)).data.toList = wL 32 := rfl
     have hYs : (strOfNums ((List.replicate 33 (119 : Int)).take 32)).size ≤ 100 := by rw [Lib.size_eq, hY]; decide
     generalize strOfNums ((List.replicate 33 (119 : Int)).take 32) = Y at *
     have s14 := fun W hW => SCX.out Y (by omega) (by rw [hY]; intro x hx; exact .inr (.inr (.inr (List.eq_of_mem_replicate hx)))) W hW
     rw [hY, scan_w32] at s14
     have S14 : Hid (∀ W, Below w.heap.size w W → Calls Tryz.prog 13 #[.string Y] W fun e w' => ∃ v, e = .returned (.tuple #[v, .agg #[.int .i64 0, .int .i64 0], .int .i64 0]) ∧ (∃ a c, v = .slice a 2 c) ∧ Below W.heap.size W w') := Lib.hid (s14)
     clear s14 hY hYs
     go_upto_region 15 with (first
      | (go_at_call 13; with_reducible refine (S14.out _ B2.out).mono ?_; rintro e w2 ⟨v2, rfl, ⟨a11, c11, rfl⟩, q2⟩)
      | fail "arm")
     have q3 := q2.alloc q2.size (.cells #[.int .i64 0, .int .i64 0] 27)
     have K12 := Lib.hid (Blk.fresh w2 #[.int .i64 0, .int .i64 0] 27)
     replace K9 := Lib.hid (K9.out.below q3)
     have hn9_12 : b9 < w2.heap.size := by have := q2.size; omega
     have hb12 : W1.heap.size ≤ w2.heap.size := by have := q2.size; omega
     replace OS := Lib.hid (OS.out.below q3 (Nat.le_refl _))
     replace OW2 := Lib.hid (OW2.out.below q3 (Nat.le_refl _))
     replace B2 := Lib.hid (B2.out.trans (q3.mono B2.out.size))
     have hws12 : w2.heap.size < (w2.alloc (.cells #[.int .i64 0, .int .i64 0] 27)).heap.size := by simp
     clear q3 q2
     generalize (w2.alloc (.cells #[.int .i64 0, .int .i64 0] 27)) = W12 at *
     generalize w2.heap.size = b12 at *
     clear S14 cv2
     have cv3 := OW2.out.text Tryz.underlying22 Tryz.underlying5 Tryz.underlying9 33 c2 (Nat.le_refl _) (by omega)
     have hY : ((⟨#[32]⟩ : ByteArray) ++ strOfNums ((List.replicate 33 (119 : Int)).take 33)).data.toList = 32 :: wL 33 := rfl
     have hYs : ((⟨#[32]⟩ : ByteArray) ++ strOfNums ((List.replicate 33 (119 : Int)).take 33)).size ≤ 100 := by rw [Lib.size_eq, hY]; decide
     have s15 := fun W hW => SCX.out ((⟨#[32]⟩ : ByteArray) ++ strOfNums ((List.replicate 33 (119 : Int)).take 33)) (by omega) (by
      rw [hY]
      intro x hx
      rcases List.mem_cons.1 hx with h | h
      ·exact .inr (.inr (.inl h))
      ·exact .inr (.inr (.inr (List.eq_of_mem_replicate h)))) W hW
     rw [hY, scan_w33] at s15
     have hY4 : (strOfNums ((List.replicate 33 (119 : Int)).take 33)).size ≤ 100 := by rw [strOfNums_size]; decide
     generalize strOfNums ((List.replicate 33 (119 : Int)).take 33) = Y at *
     have S15 : Hid (∀ W, Below w.heap.size w W → Calls Tryz.prog 13 #[.string ((⟨#[32]⟩ : ByteArray) ++ Y)] W fun e w' => ∃ v, e = .returned (.tuple #[v, .agg #[.int .i64 1, .int .i64 2], .int .i64 8]) ∧ (∃ a c, v = .slice a 0 c) ∧ Below W.heap.size W w') := Lib.hid (s15)
     clear s15 hY hYs
     go_upto_region 16 with (first
      | (go_at_call 13; with_reducible refine (S15.out _ B2.out).mono ?_; rintro e w2 ⟨v2, rfl, ⟨a14, c14, rfl⟩, q2⟩)
      | fail "arm")
     have q3 := q2.alloc q2.size (.cells #[.int .i64 1, .int .i64 2] 27)
     have K15 := Lib.hid (Blk.fresh w2 #[.int .i64 1, .int .i64 2] 27)
     replace K9 := Lib.hid (K9.out.below q3)
     have hn9_15 : b9 < w2.heap.size := by have := q2.size; omega
     replace K12 := Lib.hid (K12.out.below q3)
     have hn12_15 : b12 < w2.heap.size := by have := q2.size; omega
     have hb15 : W1.heap.size ≤ w2.heap.size := by have := q2.size; omega
     replace OS := Lib.hid (OS.out.below q3 (Nat.le_refl _))
     replace OW2 := Lib.hid (OW2.out.below q3 (Nat.le_refl _))
     replace B2 := Lib.hid (B2.out.trans (q3.mono B2.out.size))
     have hws15 : w2.heap.size < (w2.alloc (.cells #[.int .i64 1, .int .i64 2] 27)).heap.size := by simp
     clear q3 q2
     generalize (w2.alloc (.cells #[.int .i64 1, .int .i64 2] 27)) = W15 at *
     generalize w2.heap.size = b15 at *
     clear S15 cv3 OW2 SCX hY4
     have QZ := Lib.hid (fun (Z : ByteArray) (W : World) (h : 65536 < Z.size) => scan_long Z W h)
     have hne : (Value.slice A (2 * k) c).ownBlock ≠ some b9 ∧ (Value.slice A (2 * k) c).ownBlock ≠ some b12 ∧ (Value.slice A (2 * k) c).ownBlock ≠ some b15 := by
      rcases OWB.out with ⟨rfl, _⟩ | ⟨g, rfl, hg⟩
      ·refine ⟨?_, ?_, ?_⟩ <;> (intro h; cases h)
      ·refine ⟨?_, ?_, ?_⟩ <;> (intro h; simp only [Value.ownBlock, Option.map_some, Option.some.injEq] at h; omega)
     have SK := Lib.hid (show _ ∧ _ ∧ _ from ⟨K9.out, K12.out, K15.out⟩)
     go_wp2
     go_loopw [4] (fun sv wq => ∃ (n : Nat) (A3 : Option Addr) (c3 : Nat) (l3 : List Int), n ≤ 65537 ∧ sv = .slice A3 n c3 ∧ Own wq w.heap.size 5 .u8 A3 n c3 l3 ∧ ((Value.slice A3 n c3).ownBlock ≠ some b9 ∧ (Value.slice A3 n c3).ownBlock ≠ some b12 ∧ (Value.slice A3 n c3).ownBlock ≠ some b15) ∧ (Blk wq b9 #[.int .i64 L, .int .i64 C] 27 ∧ Blk wq b12 #[.int .i64 0, .int .i64 0] 27 ∧ Blk wq b15 #[.int .i64 1, .int .i64 2] 27) ∧ Below w.heap.size w wq) (fun sv _ => 65537 - lenOf sv)
     case atStart => exact ⟨2 * k, A, c, pairsI k, by omega, rfl, OS.out, hne, SK.out, B2.out⟩
     case round =>
      obtain ⟨n, A3, c3, l3, hn, rfl, hown3, hne3, ⟨k9, k12, k15⟩, hB3⟩ := hrel
      clear hne SK K9 K12 K15 B2 OS
      have OW3 := Lib.hid hown3
      have NE := Lib.hid hne3
      have K9 := Lib.hid k9
      have K12 := Lib.hid k12
      have K15 := Lib.hid k15
      have B3 := Lib.hid hB3
      clear hown3 hne3 k9 k12 k15 hB3
      have hws4 := B3.out.size
      by_cases hlong : n ≤ 65536
      ·have tl : decide ((n : Int) ≤ 65536) = true := decide_eq_true (by omega)
       go_wp2_with (at_builtin; refine wpList_pushM u8E rfl (.tmp 67) (.tmp 68) rfl w.heap.size A3 n c3 l3 wr rfl OW3.out [32] 1 rfl (by omega) (by omega) rfl (by omega) hws4 ?_; intro A' c' w5 r1 r2 r3)
       have hB5 := OW3.out.grownBelow r2 B3.out (Nat.le_refl _) hws4
       have g9 := K9.out.grown r2 NE.out.1
       have g12 := K12.out.grown r2 NE.out.2.1
       have g15 := K15.out.grown r2 NE.out.2.2
       have h9 := K9.out.lt
       have h12 := K12.out.lt
       have h15 := K15.out.lt
       have hnb : ∀ b, b < wr.heap.size → (Value.slice A3 n c3).ownBlock ≠ some b → (Value.slice A' (n + 1) c').ownBlock ≠ some b := fun b hb h1 h2 => by
        rcases r3 with h | h
        ·exact h1 (h.symm.trans h2)
        ·rw [h] at h2; injection h2 with h2; omega
       refine ⟨⟨n + 1, A', c', _, by omega, rfl, r1, ⟨hnb _ h9 NE.out.1, hnb _ h12 NE.out.2.1, hnb _ h15 NE.out.2.2⟩, ⟨g9, g12, g15⟩, hB5⟩, by show 65537 - (n + 1) < 65537 - n; omega⟩
      ·have tl : decide ((n : Int) ≤ 65536) = false := decide_eq_false (by omega)
       have cv4 := OW3.out.text Tryz.underlying22 Tryz.underlying5 Tryz.underlying9 n c3 (Nat.le_refl _) (by omega)
       have hZs : 65536 < (strOfNums (l3.take n)).size := by rw [strOfNums_size, List.take_of_length_le (by rw [OW3.out.len]; exact Nat.le_refl _), OW3.out.len]; omega
       generalize strOfNums (l3.take n) = Z at *
       have S18 : Hid (∀ W, Calls Tryz.prog 13 #[.string Z] W fun e w' => e = .returned (.tuple #[.slice none 0 0, .agg #[.int .i64 0, .int .i64 0], .int .i64 16]) ∧ Below W.heap.size W w') := Lib.hid (fun W => QZ.out Z W hZs)
       clear hZs QZ
       go_upto_region 19 with (first
        | (go_at_call 13; with_reducible refine (S18.out _).mono ?_; rintro e w2 ⟨rfl, q2⟩)
        | fail "arm")
       have q3 := q2.alloc q2.size (.cells #[.int .i64 0, .int .i64 0] 27)
       have K18 := Lib.hid (Blk.fresh w2 #[.int .i64 0, .int .i64 0] 27)
       replace K9 := Lib.hid (K9.out.below q3)
       replace K15 := Lib.hid (K15.out.below q3)
       replace B3 := Lib.hid (B3.out.trans (q3.mono B3.out.size))
       clear q3 q2 K12 OW3 NE cv4 S18 tl
       generalize (w2.alloc (.cells #[.int .i64 0, .int .i64 0] 27)) = W18 at *
       generalize w2.heap.size = b18 at *
       have x90 := K9.out.at_ 0 _ rfl
       have x91 := K9.out.at_ 1 _ rfl
       have x150 := K15.out.at_ 0 _ rfl
       have x151 := K15.out.at_ 1 _ rfl
       have x180 := K18.out.at_ 0 _ rfl
       have x181 := K18.out.at_ 1 _ rfl
       rcases HC.out with ⟨h1, rfl, rfl⟩ | ⟨h1, rfl, rfl, rfl, rfl⟩
       ·have d1 : decide (2 * (k : Int) > 5000) = false := decide_eq_false (by omega)
        go_wp2
        go_ret
        exact ⟨by simp, B3.out⟩
       ·have d1 : decide (2 * (k : Int) > 5000) = true := decide_eq_true (by omega)
        go_wp2
        go_ret
        exact ⟨by simp, B3.out⟩

end Go.Proofs.YtfhmgkicccfghaaGreatDoor
