/- slices.Backward at a slice of pieces: its contract as an iterator. -/
import Derived.Test.YtmkeigfckfkifaaDoorTrim
import Derived.RangeFuncBox
import Derived.RangeFuncLeaves
import Derived.RangeFuncNested
import Derived.RangeFuncBound
import Derived.RangeFuncCalls
import Derived.RangeFuncWrites
import Derived.Shelf.Abstract
import Derived.Shelf.RegionOpen
import Derived.WalkKit
import Derived.OwnWalkIn
import Derived.TacticsInMore
import Derived.LoopNIn
import Derived.LoopIn
namespace Go.Proofs.YtmkeigfckfkifaaDoor
open Go.RowKit Go.Shelf

attribute [local go_sem] Oper.semAt_some

/-- What has come when k rounds are over. -/
def uptoF {α : Type} (f : Nat → α) (k : Nat) : List α := (List.range k).map f
theorem uptoF_succ {α : Type} (f : Nat → α) (k : Nat) : uptoF f (k + 1) = uptoF f k ++ [f k] := by simp [uptoF, List.range_succ]
theorem uptoF_length {α : Type} (f : Nat → α) (k : Nat) : (uptoF f k).length = k := by simp [uptoF]

/-- The j-th pair that comes: place and piece, from the end. -/
def backF (zs : List Int) (j : Nat) : Int × Int := ((zs.length : Int) - 1 - j, zs[zs.length - 1 - j]?.getD 0)

/-- The blocks of S hold what they held. -/
def KeptAt (S : Nat → Prop) (W W' : World) : Prop := ∀ g, S g → W'.heap[g]? = W.heap[g]?
theorem KeptAt.refl (S : Nat → Prop) (W : World) : KeptAt S W W := fun _ _ => rfl
theorem KeptAt.trans {S : Nat → Prop} {A B C : World} (h : KeptAt S A B) (k : KeptAt S B C) : KeptAt S A C := fun g hg => (k g hg).trans (h g hg)
theorem KeptAt.cell {S : Nat → Prop} {W W' : World} (h : KeptAt S W W') {p : Addr} (hp : S p.block) : W'.cell? p = W.cell? p := World.cell?_of_block (h p.block hp)
theorem KeptAt.put {S : Nat → Prop} {w : World} (hS : ∀ g, S g → g < w.heap.size) (W : World) (l : Nat) (o o' : Obj) (hl : w.heap.size ≤ l) (_ : W.heap[l]? = some o) (_ : o.isCells = false) (_ : o.isWalk = false) : KeptAt S W (W.putObj l o') := fun g hg => by
  have := hS g hg
  exact (grownBy_putObj' W l o').block g (by
    have h := (Array.getElem?_eq_some_iff.1 (by assumption : W.heap[l]? = some o)).1
    omega) (fun e => by injection e with e; omega)
/-- What lies below n₀, and block b. -/
def BelowOr (n₀ b : Nat) (g : Nat) : Prop := g < n₀ ∨ g = b

set_option maxRecDepth 100000 in
set_option maxHeartbeats 2000000 in
theorem back1_in {α : Type} (enc : α → Int × Int) (f : Nat → α) (F : Fence) (n : Nat) (h84 : F.fn 84) (hro : F.round = none) (hn : 1 ≤ n) (l Bs n₀ : Nat) (A : Option Addr) (cap : Nat) (zs : List Int) (hlen : zs.length ≤ 65536)
    (hf : ∀ j, j < zs.length → enc (f j) = backF zs j) (J Jx : List α → World → Prop)
    (hY : ∀ pre x W, J pre W → pre.length < zs.length → YieldAt F (n - 1) Tryd.prog l #[.int .i64 (enc x).1, .int .u64 (enc x).2] W fun e W' =>
      (e = .returned (.bool true) ∧ J (pre ++ [x]) W' ∧ KeptAt (BelowOr n₀ Bs) W W') ∨ (e = .returned (.bool false) ∧ Jx (pre ++ [x]) W'))
    (W : World) (hBs : W.cell? ⟨Bs, 0, none⟩ = some (.slice A zs.length cap)) (hc : 0 < zs.length → ∃ b o, A = some ⟨b, o, none⟩ ∧ b < n₀ ∧ ∀ j, j < zs.length → W.cell? ⟨b, o + j, none⟩ = some (.int .u64 (zs[j]?.getD 0))) (h0 : J [] W) :
    CallsIn F n Tryd.prog 84 #[.func (.yield l) #[] #[], .pointer (some ⟨Bs, 0, none⟩)] W fun e W' => (∃ v, e = .returned v) ∧
      ((∃ ys, ys = uptoF f zs.length ∧ J ys W') ∨ (∃ pre, (∃ k, k ≤ zs.length ∧ pre = uptoF f k) ∧ Jx pre W')) := by
  refine callsIn_of_wp Tryd.func84 rfl h84 ?_ hro
  simp only [Tryd.ntmps84, List.size_toArray, List.length_cons, List.length_nil, Nat.reduceAdd, Nat.reduceSub, Array.replicate_succ, Array.replicate_zero, List.push_toArray, List.append_toArray, List.nil_append, List.cons_append]
  gi_wp2
  gi_loopw [3] (fun i wr => ∃ (k : Nat) (j : Int), k ≤ zs.length ∧ j = (zs.length : Int) - 1 - k ∧ i = .int .i64 j ∧ J (uptoF f k) wr ∧ KeptAt (BelowOr n₀ Bs) W wr)
    (fun i _ => (intOf i + 1).toNat)
  case atStart => exact ⟨0, _, Nat.zero_le _, by omega, rfl, h0, KeptAt.refl _ _⟩
  case round =>
    obtain ⟨k, j, hk, hj, rfl, hJs, hnx⟩ := hrel
    have hB1 := (hnx.cell (p := ⟨Bs, 0, none⟩) (.inr rfl)).trans hBs
    by_cases hlt : k < zs.length
    · obtain ⟨b, o, rfl, hb, hcs⟩ := hc (by omega)
      obtain ⟨m, hm⟩ : ∃ m : Nat, m = zs.length - 1 - k := ⟨_, rfl⟩
      obtain rfl : j = (m : Int) := by omega
      have hcx : wr.cell? ⟨b, o + m, none⟩ = some (.int .u64 (zs[m]?.getD 0)) := (hnx.cell (p := ⟨b, o + m, none⟩) (.inl hb)).trans (hcs m (by omega))
      have hF : Hid (enc (f k) = ((m : Int), zs[m]?.getD 0)) := by rw [hf k hlt]; unfold backF; rw [← hm, ← hj]; rfl
      have hyk := hY _ (f k) wr hJs (by rw [uptoF_length]; exact hlt)
      rw [hF.out] at hyk
      obtain ⟨fn, tmps, assign, body, hy, hR⟩ := hyk
      dsimp only at hy
      have HM := Lib.hid hm
      have HJ := Lib.hid hj
      have hml : m < zs.length := by omega
      clear hm hj hcs hc
      generalize zs[m]?.getD 0 = zm at *
      gi_wp2
      refine hR.mono ?_
      rintro e W3 (⟨rfl, hJ3, hk3⟩ | ⟨rfl, hJx3⟩)
      · gi_wp2
        go_roundw
        case rel => exact ⟨k + 1, _, by omega, by have := HJ.out; omega, rfl, by rw [uptoF_succ]; exact hJ3, hnx.trans hk3⟩
        case measure => simp [intOf]
      · gi_wp2
        refine bodyPost_ret (results_none rfl _ _ _) rfl ?_
        exact ⟨⟨_, rfl⟩, .inr ⟨_, ⟨k + 1, by omega, by rw [uptoF_succ]⟩, hJx3⟩⟩
    · obtain rfl : k = zs.length := by omega
      obtain rfl : j = -1 := by omega
      gi_wp2
      go_end0
      exact ⟨⟨_, rfl⟩, .inl ⟨_, rfl, hJs⟩⟩

set_option maxHeartbeats 1000000 in
theorem back_in (F : Fence) (n : Nat) (h64 : F.fn 64) (hro : F.round = none) (a : Option Addr) (len cap : Nat) (w : World) :
    CallsIn F n Tryd.prog 64 #[.slice a len cap] w fun e w' => e = .returned (.func (.func 84) #[] #[.pointer (some ⟨w.heap.size, 0, none⟩)]) ∧ w' = w.alloc (.cells #[.slice a len cap] 54) := by
  refine callsIn_of_wp Tryd.func64 rfl h64 ?_ hro
  simp only [Tryd.ntmps64, List.size_toArray, List.length_cons, List.length_nil, Nat.reduceAdd, Nat.reduceSub, Array.replicate_succ, Array.replicate_zero, List.push_toArray, List.append_toArray, List.nil_append, List.cons_append]
  gi_wp2
  go_ret
  exact ⟨rfl, rfl⟩

theorem back_stops {α : Type} (enc : α → Int × Int) (f : Nat → α) (F : Fence) (n : Nat) (h84 : F.fn 84) (hro : F.round = none) (hn : 1 ≤ n) (Bs n₀ : Nat) (A : Option Addr) (cap : Nat) (zs : List Int) (hlen : zs.length ≤ 65536) (hf : ∀ j, j < zs.length → enc (f j) = backF zs j) (w : World) (hBn : Bs < w.heap.size) (hn₀ : n₀ ≤ w.heap.size)
    (hcell : w.cell? ⟨Bs, 0, none⟩ = some (.slice A zs.length cap)) (hc : 0 < zs.length → ∃ b o, A = some ⟨b, o, none⟩ ∧ b < n₀ ∧ ∀ j, j < zs.length → w.cell? ⟨b, o + j, none⟩ = some (.int .u64 (zs[j]?.getD 0))) :
    SeqStopsK F n Tryd.prog 84 #[.pointer (some ⟨Bs, 0, none⟩)] (fun x : α => #[Value.int .i64 (enc x).1, Value.int .u64 (enc x).2]) (KeptAt (BelowOr n₀ Bs)) (fun ys => ys = uptoF f zs.length)
      (fun pre => ∃ k, k ≤ zs.length ∧ pre = uptoF f k) zs.length w := fun l J Jx W hW _ _ hY h0 => by
  have hb := hW.mono hn₀
  refine back1_in enc f F n h84 hro hn l Bs n₀ A cap zs hlen hf J Jx hY W ((hW.cell (p := ⟨Bs, 0, none⟩) hBn).trans hcell) (fun hl => ?_) h0
  obtain ⟨b, o, e, hlt, hcs⟩ := hc hl
  exact ⟨b, o, e, hlt, fun j hj => (hb.cell (p := ⟨b, o + j, none⟩) hlt).trans (hcs j hj)⟩

/-- A pair that the iterator hands on: a place below N, a piece. -/
structure P9 (N : Nat) where
  v : Int × Int
  ok : 0 ≤ v.1 ∧ v.1 < N ∧ 0 ≤ v.2 ∧ v.2 < 1000000000

theorem backF_ok {zs : List Int} (hd : Digs 1000000000 zs) {j : Nat} (hj : j < zs.length) :
    0 ≤ (backF zs j).1 ∧ (backF zs j).1 < zs.length ∧ 0 ≤ (backF zs j).2 ∧ (backF zs j).2 < 1000000000 := by
  have := hd.at_ (by omega) (zs.length - 1 - j)
  simp only [backF]
  omega

/-- The pairs in their order (the last one again behind the end, so that it is a function on all numbers). -/
def backP (zs : List Int) (hd : Digs 1000000000 zs) (hl : 0 < zs.length) (j : Nat) : P9 zs.length :=
  if h : j < zs.length then ⟨backF zs j, backF_ok hd h⟩ else ⟨backF zs 0, backF_ok hd hl⟩

theorem backP_eq {zs : List Int} (hd : Digs 1000000000 zs) (hl : 0 < zs.length) {j : Nat} (hj : j < zs.length) : (backP zs hd hl j).v = backF zs j := by
  unfold backP
  rw [dif_pos hj]

end Go.Proofs.YtmkeigfckfkifaaDoor
