/- slices.EqualFunc over tokens with Same, and the model's print. -/
import Derived.Test.YtfhmgkicccfghaaGreatDoorLexZE
import Derived.Test.YtfhmgkicccfghaaGreatDoorLexZA
import Derived.BigQuiet
namespace Go.Proofs.YtfhmgkicccfghaaGreatDoor
set_option linter.all false
open Go.RowKit

def gcells (t : Tok) (l c : Int) : List Value := [.int .i64 t.kind, .string ⟨t.text.toArray⟩, .string ⟨t.value.toArray⟩, .int .i64 l, .int .i64 c]
def TokAtG (W : World) (v : Value) (ts : List Tok) (PL PC : Nat → Int) : Prop :=
 ∃ a c, v = .slice a ts.length c ∧ ∀ i t, ts[i]? = some t → ∃ d o, a = some ⟨d, o, none⟩ ∧ d < W.heap.size ∧ ∀ j u, (gcells t (PL i) (PC i))[j]? = some u → W.cell? ⟨d, o + i * 5 + j, none⟩ = some u
theorem TokAt.toG {W : World} {v : Value} {ts : List Tok} (h : TokAt W v ts) : TokAtG W v ts (fun i => ((tokN ts i).line : Int)) (fun i => ((tokN ts i).col : Int)) := by
 obtain ⟨a, c, h1, h2⟩ := h
 refine ⟨a, c, h1, fun i t ht => ?_⟩
 obtain ⟨d, o, e1, e2, e3⟩ := h2 i t ht
 have hN : tokN ts i = t := by unfold tokN; rw [ht]; rfl
 refine ⟨d, o, e1, e2, fun j u hu => e3 j u ?_⟩
 dsimp only at hu
 rw [hN] at hu
 exact hu
theorem TokAtG.below {W W' : World} {v : Value} {ts : List Tok} {PL PC : Nat → Int} (h : TokAtG W v ts PL PC) (q : Below W.heap.size W W') : TokAtG W' v ts PL PC := by
 obtain ⟨a, c, h1, h2⟩ := h
 refine ⟨a, c, h1, fun i t ht => ?_⟩
 obtain ⟨d, o, e1, e2, e3⟩ := h2 i t ht
 exact ⟨d, o, e1, Nat.lt_of_lt_of_le e2 q.size, fun j u hu => (q.cell (p := ⟨d, _, none⟩) e2).trans (e3 j u hu)⟩
theorem TokAt.cell2 {w : World} {v : Value} {ts : List Tok} (h : TokAt w v ts) (i : Nat) (hi : i < ts.length) : ∃ d o c, v = .slice (some ⟨d, o, none⟩) ts.length c ∧ d < w.heap.size ∧ ∀ j u, (ts[i].cells)[j]? = some u → w.cell? ⟨d, o + i * 5 + j, none⟩ = some u := by
 obtain ⟨a, c, rfl, h2⟩ := h
 obtain ⟨d, o, rfl, hd, hc⟩ := h2 i ts[i] (List.getElem?_eq_getElem hi)
 exact ⟨d, o, c, rfl, hd, hc⟩
theorem TokAtG.cell2 {w : World} {v : Value} {ts : List Tok} {PL PC : Nat → Int} (h : TokAtG w v ts PL PC) (i : Nat) (hi : i < ts.length) : ∃ d o c, v = .slice (some ⟨d, o, none⟩) ts.length c ∧ d < w.heap.size ∧ ∀ j u, (gcells ts[i] (PL i) (PC i))[j]? = some u → w.cell? ⟨d, o + i * 5 + j, none⟩ = some u := by
 obtain ⟨a, c, rfl, h2⟩ := h
 obtain ⟨d, o, rfl, hd, hc⟩ := h2 i ts[i] (List.getElem?_eq_getElem hi)
 exact ⟨d, o, c, rfl, hd, hc⟩
theorem TokAtG.cell {w : World} {v : Value} {ts : List Tok} {PL PC : Nat → Int} (h : TokAtG w v ts PL PC) (i : Nat) (hi : i < ts.length) : ∃ d o c, v = .slice (some ⟨d, o, none⟩) ts.length c ∧ ∀ j u, (gcells ts[i] (PL i) (PC i))[j]? = some u → w.cell? ⟨d, o + i * 5 + j, none⟩ = some u := by
 obtain ⟨d, o, c, h1, _, h2⟩ := h.cell2 i hi
 exact ⟨d, o, c, h1, h2⟩
theorem sameG (a b : Tok) (l1 c1 l2 c2 : Int) (w : World) :
  Calls Tryz.prog 16 #[.agg #[.int .i64 a.kind, .string ⟨a.text.toArray⟩, .string ⟨a.value.toArray⟩, .int .i64 l1, .int .i64 c1], .agg #[.int .i64 b.kind, .string ⟨b.text.toArray⟩, .string ⟨b.value.toArray⟩, .int .i64 l2, .int .i64 c2]] w fun e w' => e = .returned (.bool (sameB a b)) ∧ Below w.heap.size w w' :=
 same_raw a.kind b.kind l1 l2 c1 c2 ⟨a.text.toArray⟩ ⟨b.text.toArray⟩ ⟨a.value.toArray⟩ ⟨b.value.toArray⟩ w
theorem ksameG (a b : Tok) (l1 c1 l2 c2 : Int) (w : World) :
  Calls Tryz.prog 30 #[.agg #[.int .i64 a.kind, .string ⟨a.text.toArray⟩, .string ⟨a.value.toArray⟩, .int .i64 l1, .int .i64 c1], .agg #[.int .i64 b.kind, .string ⟨b.text.toArray⟩, .string ⟨b.value.toArray⟩, .int .i64 l2, .int .i64 c2]] w fun e w' => e = .returned (.bool (sameB a b)) ∧ Below w.heap.size w w' :=
 ksame_raw a.kind b.kind l1 l2 c1 c2 ⟨a.text.toArray⟩ ⟨b.text.toArray⟩ ⟨a.value.toArray⟩ ⟨b.value.toArray⟩ w
theorem SameL.of_at : ∀ {l m : List Tok}, l.length = m.length → (∀ (i : Nat) (a b : Tok), l[i]? = some a → m[i]? = some b → SameT a b) → SameL l m
 | [], [], _, _ => .nil
 | [], _ :: _, h, _ => by simp at h
 | _ :: _, [], h, _ => by simp at h
 | a :: l, b :: m, h, k => .cons (k 0 a b rfl rfl) (SameL.of_at (by simpa using h) (fun i x y hx hy => k (i + 1) x y (by simpa using hx) (by simpa using hy)))
theorem SameL.look {l m : List Tok} (h : SameL l m) : ∀ (i : Nat) (a b : Tok), l[i]? = some a → m[i]? = some b → SameT a b := by
 intro i a b ha hb
 obtain ⟨h1, e1⟩ := List.getElem?_eq_some_iff.1 ha
 obtain ⟨h2, e2⟩ := List.getElem?_eq_some_iff.1 hb
 rw [← e1, ← e2]
 exact h.get i h1 h2
def SameTo (l m : List Tok) (k : Nat) : Prop := ∀ (i : Nat) (a b : Tok), i < k → l[i]? = some a → m[i]? = some b → SameT a b
theorem SameTo.next {l m : List Tok} {k : Nat} (h : SameTo l m k) {a b : Tok} (ha : l[k]? = some a) (hb : m[k]? = some b) (hs : sameB a b = true) : SameTo l m (k + 1) := by
 intro i x y hi hx hy
 rcases Nat.lt_or_ge i k with h1 | h1
 ·exact h i x y h1 hx hy
 ·obtain rfl : i = k := by omega
  rw [ha] at hx
  rw [hb] at hy
  injection hx with hx
  injection hy with hy
  subst hx hy
  exact (sameB_iff _ _).1 hs

set_option maxRecDepth 100000 in
set_option maxHeartbeats 8000000 in
theorem equalFunc_any (v u : Value) (ts us : List Tok) (PL PC QL QC : Nat → Int) (w : World) (hv : TokAtG w v ts PL PC) (hu : TokAtG w u us QL QC) (hl : ts.length ≤ 5000) (hl2 : us.length ≤ 5000) :
  Calls Tryz.prog 45 #[v, u, .func (.func 16) #[] #[]] w fun e w' => (∃ r, e = .returned (.bool r) ∧ (r = true ↔ SameL ts us)) ∧ Below w.heap.size w w' := by
 have HV := Lib.hid hv
 have HU := Lib.hid hu
 obtain ⟨a, c, rfl, _⟩ := hv
 obtain ⟨a', c', rfl, _⟩ := hu
 by_cases hne : ts.length = us.length
 case neg =>
  have n1 : ((ts.length : Int) != (us.length : Int)) = true := by rw [bne_iff_ne]; omega
  have hno : ¬ SameL ts us := fun h => hne h.length
  have HNO := Lib.hid hno
  clear hno
  go_enter Tryz.func45, Tryz.ntmps45
  go_wp2
  go_ret
  exact ⟨⟨false, rfl, by simp [HNO.out]⟩, Below.refl _ _⟩
 have n1 : ((ts.length : Int) != (us.length : Int)) = false := by rw [bne_eq_false_iff_eq]; omega
 have HNE := Lib.hid hne
 clear hne
 go_enter Tryz.func45, Tryz.ntmps45
 go_wp2
 go_loopw [17] (fun i wr => ∃ k : Nat, k ≤ ts.length ∧ i = .int .i64 k ∧ SameTo ts us k ∧ Below w.heap.size w wr) (fun i _ => ts.length - (intOf i).toNat)
 case atStart => exact ⟨0, Nat.zero_le _, rfl, (fun i a b h => by omega), Below.refl _ _⟩
 case round =>
  obtain ⟨k, hk, rfl, hst, hB⟩ := hrel
  have B := Lib.hid hB
  have ST := Lib.hid hst
  clear hB hst
  by_cases hlt : k < ts.length
  ·have hlt2 : k < us.length := by have := HNE.out; omega
   obtain ⟨d, o, c1, e1, hd, q1⟩ := (HV.out.below B.out).cell2 k hlt
   obtain ⟨d', o', c2, e2, hd', q2⟩ := (HU.out.below B.out).cell2 k hlt2
   injection e1 with e1 _ e1c
   injection e2 with e2 _ e2c
   subst e1 e2 e1c e2c
   have ht := List.getElem?_eq_getElem hlt
   have hu := List.getElem?_eq_getElem hlt2
   generalize ts[k] = t at *
   generalize us[k] = u at *
   have HT := Lib.hid ht
   have HS := Lib.hid hu
   clear ht hu
   have x0 : wr.cell? ⟨d, o + k * 5, none⟩ = _ := q1 0 _ rfl
   have x1 := q1 1 _ rfl
   have x2 := q1 2 _ rfl
   have x3 := q1 3 _ rfl
   have x4 := q1 4 _ rfl
   have y0 : wr.cell? ⟨d', o' + k * 5, none⟩ = _ := q2 0 _ rfl
   have qq := below_new wr (.cells #[.int .i64 t.kind, .string ⟨t.text.toArray⟩, .string ⟨t.value.toArray⟩, .int .i64 (PL k), .int .i64 (PC k)] 38)
   have y1 := q2 1 _ rfl
   have y2 := q2 2 _ rfl
   have y3 := q2 3 _ rfl
   have y4 := q2 4 _ rfl
   have YY := Lib.hid (And.intro ((qq.cell (p := ⟨d', o' + k * 5, none⟩) hd').trans y0) (And.intro ((qq.cell (p := ⟨d', o' + k * 5 + 1, none⟩) hd').trans y1) (And.intro ((qq.cell (p := ⟨d', o' + k * 5 + 2, none⟩) hd').trans y2) (And.intro ((qq.cell (p := ⟨d', o' + k * 5 + 3, none⟩) hd').trans y3) ((qq.cell (p := ⟨d', o' + k * 5 + 4, none⟩) hd').trans y4)))))
   clear q1 q2 y0 y1 y2 y3 y4
   have hi : (k : Int) < (ts.length : Int) := by omega
   have hi2 : (k : Int) < (us.length : Int) := by omega
   go_upto_region 6 with (fail)
   have K8 := Lib.hid (Blk.fresh wr #[.int .i64 t.kind, .string ⟨t.text.toArray⟩, .string ⟨t.value.toArray⟩, .int .i64 (PL k), .int .i64 (PC k)] 38)
   replace B := Lib.hid (B.out.trans (qq.mono B.out.size))
   obtain ⟨y0, y1, y2, y3, y4⟩ := YY.out
   have hws : wr.heap.size < (wr.alloc (.cells #[.int .i64 t.kind, .string ⟨t.text.toArray⟩, .string ⟨t.value.toArray⟩, .int .i64 (PL k), .int .i64 (PC k)] 38)).heap.size := by simp
   clear YY x0 x1 x2 x3 x4 qq hd hd'
   generalize (wr.alloc (.cells #[.int .i64 t.kind, .string ⟨t.text.toArray⟩, .string ⟨t.value.toArray⟩, .int .i64 (PL k), .int .i64 (PC k)] 38)) = W1 at *
   generalize wr.heap.size = tb at *
   go_upto_region 7 with (fail)
   have K9 := Lib.hid (Blk.fresh W1 #[.int .i64 u.kind, .string ⟨u.text.toArray⟩, .string ⟨u.value.toArray⟩, .int .i64 (QL k), .int .i64 (QC k)] 38)
   have q := below_new W1 (.cells #[.int .i64 u.kind, .string ⟨u.text.toArray⟩, .string ⟨u.value.toArray⟩, .int .i64 (QL k), .int .i64 (QC k)] 38)
   replace K8 := Lib.hid (K8.out.below q)
   replace B := Lib.hid (B.out.trans (q.mono B.out.size))
   clear q y0 y1 y2 y3 y4
   generalize (W1.alloc (.cells #[.int .i64 u.kind, .string ⟨u.text.toArray⟩, .string ⟨u.value.toArray⟩, .int .i64 (QL k), .int .i64 (QC k)] 38)) = W2 at *
   generalize W1.heap.size = ub at *
   have x0 := K8.out.at_ 0 _ rfl
   have x1 := K8.out.at_ 1 _ rfl
   have x2 := K8.out.at_ 2 _ rfl
   have x3 := K8.out.at_ 3 _ rfl
   have x4 := K8.out.at_ 4 _ rfl
   have y0 := K9.out.at_ 0 _ rfl
   have y1 := K9.out.at_ 1 _ rfl
   have y2 := K9.out.at_ 2 _ rfl
   have y3 := K9.out.at_ 3 _ rfl
   have y4 := K9.out.at_ 4 _ rfl
   have SM := Lib.hid (fun W => sameG t u (PL k) (PC k) (QL k) (QC k) W)
   clear K8 K9
   cases hs : sameB t u with
   | true =>
    rw [hs] at SM
    have NX := Lib.hid (ST.out.next HT.out HS.out hs)
    clear hs
    go_wp2_with (first
     | (go_at_call 16; with_reducible refine (SM.out _).mono ?_; rintro e wx ⟨rfl, q⟩; replace B := Lib.hid (B.out.trans (q.mono B.out.size)); clear q)
     | fail "arm")
    go_round
    case rel => exact ⟨k + 1, by omega, by go_num, NX.out, B.out⟩
    case measure => simp [intOf]; omega
   | false =>
    rw [hs] at SM
    have hno : ¬ SameL ts us := fun h => by
     have := (sameB_iff t u).2 (h.look k t u HT.out HS.out)
     rw [hs] at this
     cases this
    have HNO := Lib.hid hno
    clear hs hno
    go_wp2_with (first
     | (go_at_call 16; with_reducible refine (SM.out _).mono ?_; rintro e wx ⟨rfl, q⟩; replace B := Lib.hid (B.out.trans (q.mono B.out.size)); clear q)
     | fail "arm")
    go_ret
    exact ⟨⟨false, rfl, by simp [HNO.out]⟩, B.out⟩
  ·obtain rfl : k = ts.length := by omega
   have hy : SameL ts us := SameL.of_at HNE.out (fun i a b ha hb => ST.out i a b (List.getElem?_eq_some_iff.1 ha).1 ha hb)
   have HY := Lib.hid hy
   clear hy
   go_wp2
   go_ret
   exact ⟨⟨true, rfl, by simp [HY.out]⟩, B.out⟩

def oAt (ts : List Tok) : Nat → Bool
 | 0 => false
 | k + 1 => decide ((tokN ts k).kind ≠ 5)
theorem printM_step (ts : List Tok) (k : Nat) (h : k < ts.length) : printM (oAt ts k) (ts.drop k) = (if oAt ts k = true ∧ (tokN ts k).kind ≠ 5 then [32] else []) ++ (bodyM (tokN ts k) ++ printM (oAt ts (k + 1)) (ts.drop (k + 1))) := by
 have hN : ts[k] = tokN ts k := by have := tokN_some h; rw [List.getElem?_eq_getElem h] at this; injection this
 rw [List.drop_eq_getElem_cons h, hN]
 rfl
theorem printF_step (ts : List Tok) (k : Nat) (h : k < ts.length) : printF (oAt ts k) (ts.drop k) = (if oAt ts k = true ∧ (tokN ts k).kind ≠ 5 then [32] else []) ++ (bodyT (tokN ts k) ++ printF (oAt ts (k + 1)) (ts.drop (k + 1))) := by
 have hN : ts[k] = tokN ts k := by have := tokN_some h; rw [List.getElem?_eq_getElem h] at this; injection this
 rw [List.drop_eq_getElem_cons h, hN]
 rfl

set_option maxRecDepth 100000 in
set_option maxHeartbeats 8000000 in
theorem kprint_any (v : Value) (ts : List Tok) (PL PC : Nat → Int) (w : World) (hv : TokAtG w v ts PL PC) (hl : ts.length ≤ 5000) (hsz : (printM false ts).length ≤ 1000000) :
  Calls Tryz.prog 29 #[v] w fun e w' => (∃ S : ByteArray, e = .returned (.string S) ∧ S.data.toList = printM false ts) ∧ Below w.heap.size w w' := by
 have HV := Lib.hid hv
 obtain ⟨a, c, rfl, _⟩ := hv
 go_enter Tryz.func29, Tryz.ntmps29
 go_wp2
 go_loopw [3, 8] (fun s i wr => ∃ (k : Nat) (S : ByteArray), k ≤ ts.length ∧ i = .int .i64 k ∧ s = .string S ∧ S.data.toList ++ printM (oAt ts k) (ts.drop k) = printM false ts ∧ Below w.heap.size w wr) (fun _ i _ => ts.length - (intOf i).toNat)
 case atStart => exact ⟨0, ⟨#[]⟩, Nat.zero_le _, rfl, rfl, rfl, Below.refl _ _⟩
 case round =>
  obtain ⟨k, S, hk, rfl, rfl, hS, hB⟩ := hrel
  have B := Lib.hid hB
  clear hB
  have hS1 : S.size ≤ 1000000 := by
   have := congrArg List.length hS
   rw [List.length_append] at this
   rw [Lib.size_eq]; omega
  by_cases hlt : k < ts.length
  ·have hst := printM_step ts k hlt
   rw [hst] at hS
   have hS2 : (tokN ts k).text.length ≤ (bodyM (tokN ts k)).length := by
    unfold bodyM
    split
    ·rw [List.length_cons, List.length_append]; omega
    ·omega
   have hS3 : (tokN ts k).text.length + S.size ≤ 1000000 := by
    have := congrArg List.length hS
    rw [List.length_append, List.length_append, List.length_append] at this
    rw [Lib.size_eq]; omega
   clear hst hS2
   obtain ⟨sb, hsb⟩ : ∃ sb, sb = (oAt ts k && ((tokN ts k).kind != 5)) := ⟨_, rfl⟩
   have HSB := Lib.hid hsb
   clear hsb
   have hS' : S.data.toList ++ ((if sb = true then [32] else []) ++ (bodyM (tokN ts k) ++ printM (oAt ts (k + 1)) (ts.drop (k + 1)))) = printM false ts := by
    rw [HSB.out]
    simp only [Bool.and_eq_true, bne_iff_ne]
    exact hS
   have HS := Lib.hid hS'
   clear hS hS'
   have HP : Hid (k = 0 ∨ ∃ j, k = j + 1) := Lib.hid (by cases k with | zero => exact .inl rfl | succ j => exact .inr ⟨j, rfl⟩)
   obtain ⟨d, o, c1, e1, q1⟩ := (HV.out.below B.out).cell k hlt
   injection e1 with e1 _ e1c
   subst e1 e1c
   have hN : ts[k] = tokN ts k := by have := tokN_some hlt; rw [List.getElem?_eq_getElem hlt] at this; injection this
   rw [hN] at q1
   have x0 : wr.cell? ⟨d, o + k * 5, none⟩ = _ := q1 0 _ rfl
   have x1 := q1 1 _ rfl
   have x2 := q1 2 _ rfl
   have x3 := q1 3 _ rfl
   have x4 := q1 4 _ rfl
   clear q1 hN
   have hi : (k : Int) < (ts.length : Int) := by omega
   have qq := below_new wr (.cells #[.int .i64 (tokN ts k).kind, .string ⟨(tokN ts k).text.toArray⟩, .string ⟨(tokN ts k).value.toArray⟩, .int .i64 (PL k), .int .i64 (PC k)] 38)
   go_upto_region 5 with (fail)
   have K5 := Lib.hid (Blk.fresh wr #[.int .i64 (tokN ts k).kind, .string ⟨(tokN ts k).text.toArray⟩, .string ⟨(tokN ts k).value.toArray⟩, .int .i64 (PL k), .int .i64 (PC k)] 38)
   replace B := Lib.hid (B.out.trans (qq.mono B.out.size))
   clear x0 x1 x2 x3 x4 qq
   generalize (wr.alloc (.cells #[.int .i64 (tokN ts k).kind, .string ⟨(tokN ts k).text.toArray⟩, .string ⟨(tokN ts k).value.toArray⟩, .int .i64 (PL k), .int .i64 (PC k)] 38)) = W1 at *
   generalize htb : wr.heap.size = tb at *
   go_cut [28] from 13 to 28 (fun bv wc => bv = .bool sb ∧ wc = W1)
   case first =>
    have y0 := K5.out.at_ 0 _ rfl
    rcases HP.out with hk0 | ⟨j, hj⟩
    ·subst hk0
     go_wp2_with (fail)
     go_meet
     case rel => exact ⟨by rw [HSB.out]; rfl, rfl⟩
    ·subst hj
     have hlt3 : j < ts.length := by omega
     obtain ⟨d3, o3, c3, e3, q3⟩ := (HV.out.below B.out).cell j hlt3
     injection e3 with e3 _ e3c
     injection e3 with e3
     injection e3 with e3a e3b
     subst e3a e3b e3c
     have hM : ts[j] = tokN ts j := by have := tokN_some hlt3; rw [List.getElem?_eq_getElem hlt3] at this; injection this
     rw [hM] at q3
     have p0 : W1.cell? ⟨d, o + j * 5, none⟩ = _ := q3 0 _ rfl
     clear q3 hM
     have t1 : decide ((j : Int) + 1 > 0) = true := decide_eq_true (by omega)
     have hi3 : (j : Int) < (ts.length : Int) := by omega
     by_cases h5 : (tokN ts (j + 1)).kind = 5
     ·have x5 : ((tokN ts (j + 1)).kind != 5) = false := by rw [h5]; rfl
      have HF := Lib.hid (show sb = false by rw [HSB.out, x5, Bool.and_false])
      clear h5
      go_wp2_with (fail)
      go_meet
      case rel => exact ⟨by rw [HF.out], rfl⟩
     ·have x5 : ((tokN ts (j + 1)).kind != 5) = true := by rw [bne_iff_ne]; exact h5
      clear h5
      by_cases h6 : (tokN ts j).kind = 5
      ·have x6 : ((tokN ts j).kind != 5) = false := by rw [h6]; rfl
       have HF := Lib.hid (show sb = false by rw [HSB.out, x5, Bool.and_true]; show decide ((tokN ts j).kind ≠ 5) = false; exact decide_eq_false (fun h => h h6))
       clear h6
       go_wp2_with (fail)
       go_meet
       case rel => exact ⟨by rw [HF.out], rfl⟩
      ·have x6 : ((tokN ts j).kind != 5) = true := by rw [bne_iff_ne]; exact h6
       have HF := Lib.hid (show sb = true by rw [HSB.out, x5, Bool.and_true]; show decide ((tokN ts j).kind ≠ 5) = true; exact decide_eq_true h6)
       clear h6
       go_wp2_with (fail)
       go_meet
       case rel => exact ⟨by rw [HF.out], rfl⟩
   case rest =>
    obtain ⟨rfl, rfl⟩ := hcut
    have y0 := K5.out.at_ 0 _ rfl
    have y1 := K5.out.at_ 1 _ rfl
    have hX : (⟨(tokN ts k).text.toArray⟩ : ByteArray).data.toList = (tokN ts k).text := rfl
    have hXs : (⟨(tokN ts k).text.toArray⟩ : ByteArray).size = (tokN ts k).text.length := by rw [Lib.size_eq]
    have hXs2 : (⟨(tokN ts k).text.toArray⟩ : ByteArray).size ≤ 1000000 := by omega
    generalize (⟨(tokN ts k).text.toArray⟩ : ByteArray) = X at *
    have HXT := Lib.hid hX
    clear hX hXs
    cases sb with
    | true =>
     by_cases h3 : (tokN ts k).kind = 3
     ·have hs := HS.out
      unfold bodyM at hs
      rw [if_pos rfl, if_pos h3] at hs
      have HS1 := Lib.hid hs
      have x3 : ((tokN ts k).kind == 3) = true := by rw [h3]; rfl
      clear hs h3 HS
      go_wp2
      refine ⟨⟨k + 1, _, hlt, by go_num, rfl, ?_, B.out⟩, by simp [intOf]; omega⟩
      rw [← HS1.out, ← HXT.out]
      simp [ByteArray.data_append]
     ·have hs := HS.out
      unfold bodyM at hs
      rw [if_pos rfl, if_neg h3] at hs
      have HS1 := Lib.hid hs
      have x3 : ((tokN ts k).kind == 3) = false := by rw [beq_eq_false_iff_ne]; exact h3
      clear hs h3 HS
      go_wp2
      refine ⟨⟨k + 1, _, hlt, by go_num, rfl, ?_, B.out⟩, by simp [intOf]; omega⟩
      rw [← HS1.out, ← HXT.out]
      simp [ByteArray.data_append]
    | false =>
     by_cases h3 : (tokN ts k).kind = 3
     ·have hs := HS.out
      unfold bodyM at hs
      rw [if_neg (by decide), if_pos h3] at hs
      have HS1 := Lib.hid hs
      have x3 : ((tokN ts k).kind == 3) = true := by rw [h3]; rfl
      clear hs h3 HS
      go_wp2
      refine ⟨⟨k + 1, _, hlt, by go_num, rfl, ?_, B.out⟩, by simp [intOf]; omega⟩
      rw [← HS1.out, ← HXT.out]
      simp [ByteArray.data_append]
     ·have hs := HS.out
      unfold bodyM at hs
      rw [if_neg (by decide), if_neg h3] at hs
      have HS1 := Lib.hid hs
      have x3 : ((tokN ts k).kind == 3) = false := by rw [beq_eq_false_iff_ne]; exact h3
      clear hs h3 HS
      go_wp2
      refine ⟨⟨k + 1, _, hlt, by go_num, rfl, ?_, B.out⟩, by simp [intOf]; omega⟩
      rw [← HS1.out, ← HXT.out]
      simp [ByteArray.data_append]
  ·obtain rfl : k = ts.length := by omega
   rw [List.drop_length] at hS
   have hfin : S.data.toList = printM false ts := by rw [← hS]; show _ = _ ++ []; rw [List.append_nil]
   have HF := Lib.hid hfin
   clear hfin hS
   go_wp2
   go_ret
   exact ⟨⟨S, rfl, HF.out⟩, B.out⟩

end Go.Proofs.YtfhmgkicccfghaaGreatDoor
