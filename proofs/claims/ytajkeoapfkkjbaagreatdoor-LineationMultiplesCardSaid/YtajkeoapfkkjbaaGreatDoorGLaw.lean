/- The examples of the chapter; descriptions; what a row gives the walks. -/
import Derived.Test.YtajkeoapfkkjbaaGreatDoorGInt
import Derived.Test.YtajkeoapfkkjbaaGreatDoorGText
import Derived.Test.YtajkeoapfkkjbaaGreatDoorGRefA
import Derived.Test.YtajkeoapfkkjbaaGreatDoorCards
import Derived.Test.YtajkeoapfkkjbaaGreatDoorTie
import Derived.Outline
import Derived.Laws.BytesArg
import Derived.ProofKit
import Derived.OpenShut
import Derived.LaidMore
import Derived.Lay
import Derived.SevenTiedAt
import Derived.Stop.Joined
import Derived.Below
import Derived.ChangeSame
import Derived.Lib.SmallJoins
import Derived.ChangeSlices
import Derived.Carry
/- The walk of klippelaw01.known: the examples of the chapter hold. -/
namespace Go.Proofs.YtajkeoapfkkjbaaGreatDoor
set_option linter.all false
open Go.RowKit

theorem k_divmod (w : World) (ht : Pow10 w) :
    Calls Tryz.prog 69 #[.string ⟨#[55]⟩, .string ⟨#[45, 50]⟩] w fun e w' => e = .returned (.tuple #[.string ⟨#[45, 51]⟩, .string ⟨#[49]⟩, .int .i64 0]) ∧ Below w.heap.size w w' := by
  have h := divmod_easy 7 (-2) w ht (by rw [k_7]; decide) (by rw [k_m2]; decide) (by omega) (by omega)
  rw [show (7 : Int) / -2 = -3 from by decide, show (7 : Int) % -2 = 1 from by decide, k_7, k_m2, k_m3, k_1] at h
  exact h
theorem k_gcd (w : World) (ht : Pow10 w) :
    Calls Tryz.prog 70 #[.string ⟨#[45, 49, 50]⟩, .string ⟨#[49, 56]⟩] w fun e w' => e = .returned (.string ⟨#[54]⟩) ∧ Below w.heap.size w w' := by
  have h := gcd_any (-12) 18 w ht (by rw [k_m12]; decide) (by rw [k_18]; decide)
  rw [show ((Int.gcd (-12) 18 : Nat) : Int) = 6 from by decide, k_m12, k_18, k_6] at h
  exact h
theorem k_mul (w : World) (ht : Pow10 w) :
    Calls Tryz.prog 55 #[.string ⟨#[45, 51]⟩, .string ⟨#[53]⟩] w fun e w' => e = .returned (.string ⟨#[45, 49, 53]⟩) ∧ Below w.heap.size w w' := by
  have h := mul_any (-3) 5 w ht (by rw [k_m3]; decide) (by rw [k_5]; decide)
  rw [show (-3 : Int) * 5 = -15 from by decide, k_m3, k_5, k_m15] at h
  exact h

end Go.Proofs.YtajkeoapfkkjbaaGreatDoor

/- The walk of klippelaw01.Make: a description becomes an integer. -/
namespace Go.Proofs.YtajkeoapfkkjbaaGreatDoor
open Go.RowKit

/-- A text of digits is read as its value. -/
theorem parse_digits (l : List UInt8) (hd : AllDig l) (hne : l ≠ []) (hl : l.length ≤ 200) : parseSpec l = (Lib.itoa (dval l : Int), 0) := by
  have hs : parseSpec l = parseTail false l := by
    cases l with
    | nil => exact absurd rfl hne
    | cons c m =>
      have hc := hd.head
      have h1 : c ≠ 45 := by rintro rfl; simp at hc
      have h2 : c ≠ 43 := by rintro rfl; simp at hc
      simp only [parseSpec, if_neg h1, if_neg h2]
  obtain ⟨h1, h2, h3, h4⟩ := trimB_val l
  rw [hs]
  rcases h2 with h2 | ⟨c, m, h2, hc⟩
  · rw [tail_zero false l hd hne h2, ← h1, h2]
    rw [show (dval [] : Nat) = 0 from rfl, itoa_of_nat, decDigits_lt 0 (by omega)]
    rfl
  · rw [tail_good false l _ hd hne rfl (by rw [h2]; simp) (by omega)]
    have h5 := h4 hd
    rw [h2] at h5
    have h6 := eq_dec h5 (fun e => hc (UInt8.toNat_inj.1 e))
    rw [if_neg (by simp), itoa_of_nat, ← h1, h2, ← h6]

theorem ElemU8 : IntElem Tryz.prog 128 5 .u8 1 := ⟨Tryz.underlying128, by kernel_rfl, by omega⟩

/-- 'append(out, x)' at a slice of bytes of the call's own. -/
theorem pushB {ops : Array Oper} {rest : List Oper} {o : Oper} {a : Act} {Q : Exit → Act → World → Prop} (hgd : o.guard = none) (s x : Operand)
    (ho : o.op = .call { callee := .builtin .append, args := #[s, x], argTypes := #[128, 128] })
    (base : Nat) (A : Option Addr) (n c : Nat) (l : List Int) (W : World) (hs : a.eval s = .slice A n c) (hown : Own W base 5 .u8 A n c l) (y : Int)
    (hx : a.eval x = .slice (some ⟨W.heap.size, 0, none⟩) 1 1) (h63 : n ≤ 1000000) (hbase : base ≤ W.heap.size)
    (h : ∀ A' c' w', Own w' base 5 .u8 A' (n + 1) c' (l ++ [y]) → W.grownBy w' (Value.slice A n c).ownBlock → wpList Tryz.prog ops Q rest (a.put o.dst (.slice A' (n + 1) c')) w') :
    wpList Tryz.prog ops Q (o :: rest) a (W.alloc (.cells #[.int .u8 y] 5)) :=
  wpList_push ElemU8 hgd s x ho base A n c l W hs hown y hx h63 hbase h

/-- The digits so far, as bytes. -/
def Bytes10 (l : List Int) : Prop := ∀ x ∈ l, 48 ≤ x ∧ x ≤ 57

theorem strOf_facts (l : List Int) (h : Bytes10 l) : (strOfNums l).data.toList.length = l.length ∧ AllDig (strOfNums l).data.toList := by
  have e : (strOfNums l).data.toList = l.map fun n => UInt8.ofNat n.toNat := rfl
  refine ⟨by rw [e]; simp, ?_⟩
  rw [e]
  intro c hc
  obtain ⟨x, hx, rfl⟩ := List.mem_map.1 hc
  have := h x hx
  have e2 : (UInt8.ofNat x.toNat).toNat = x.toNat := by
    simp
    omega
  rw [e2]
  omega

/-- The text that Make reads, and what it reads. -/
theorem made_text (l : List Int) (h : Bytes10 l) (N : Nat) (hN : N ≤ 200) (hl : l.length ≤ N) :
    ∃ (v : Nat) (r : List UInt8) (k : Int), parseSpec (strOfNums l).data.toList = (r, k) ∧ v < 10 ^ N ∧ ((k = 0 ∧ r = Lib.itoa (v : Int)) ∨ (k = 13 ∧ v = 0)) := by
  obtain ⟨h1, h2⟩ := strOf_facts l h
  have hp : (0 : Nat) < 10 ^ N := Nat.pow_pos (by omega)
  cases hs : (strOfNums l).data.toList with
  | nil => exact ⟨0, [], 13, rfl, hp, .inr ⟨rfl, rfl⟩⟩
  | cons c m =>
    rw [hs] at h1 h2
    have h3 := parse_digits (c :: m) h2 (by simp) (by omega)
    have h4 := dval_lt h2
    have h5 : (10 : Nat) ^ (c :: m).length ≤ 10 ^ N := Nat.pow_le_pow_right (by omega) (by omega)
    exact ⟨dval (c :: m), _, 0, h3, by omega, .inl ⟨rfl, rfl⟩⟩

end Go.Proofs.YtajkeoapfkkjbaaGreatDoor

/- What a row's condition gives the walks, and the end of a row's proof where the call leaves new blocks. -/
namespace Go.Proofs.YtajkeoapfkkjbaaGreatDoor
open Go.ChangeShapes Go.WideShapes Go.ChangeAt Go.RowKit

theorem ownNone : ownKnob Tryz.prog.godebug = none := by kernel_rfl

/-- The variables that every row of this seat lists. -/
def laidAll7 : List (String × DataW Unit) := Rows.lineationFoldsRow.laid

theorem pow10_of_laid {W : World} (h : laidMetH Tryz.prog laidAll7 W) : Pow10 W := by
  rw [MakeChecks.laidMetH_plain _ _ _ (by kernel_rfl)] at h
  obtain ⟨ps, ⟨g0, t0, cs0, f0, p0, q0, hg0, ht0, hv0, hd0, ⟨g1, t1, cs1, f1, p1, q1, hg1, ht1, hv1, hd1, ⟨g2, t2, cs2, f2, p2, q2, hg2, ht2, hv2, hd2, _, _⟩, _⟩, _⟩, _, _⟩ := h
  obtain rfl := Option.some.inj ((show Tryz.prog.globalNamed "internal/strconv.uint64pow10" = some 3 by kernel_rfl).symm.trans hg2)
  obtain rfl := Option.some.inj ((show (Tryz.prog.globals[3]?).map (·.type) = some 169 by kernel_rfl).symm.trans ht2)
  unfold Pow10 Lib.TabIs
  rw [hv2, ← Lib.cells_of_tab (k := .u64) (zs := Lib.pow10Tab) Tryz.underlying169 Tryz.underlying116 (by kernel_rfl) (by kernel_rfl) hd2]

section
variable {H : Type} {enc : TypeId × Value → H} {P : Program}
theorem post_of_below {f : Func} {s : ChangeSpec} {apart fresh handsOn again : Bool} {W W' : World} {args : Array Value} {v : Value} {ds gs : List (DataW H)} {before pa pv : List MemPlace}
    (hW : DataW.Whole enc P f.params.toList s.vars apart W args.toList ds gs before)
    (hres : ∀ (b : Nat) (sp : Nat → Bool) (hd : Bool), DataW.TrodAll enc P W' b sp hd f.resultTypes.toList (v.resultList f.resultTypes.size) (s.fn H (ds ++ gs)).results [])
    (hargs : ∀ sp : Nat → Bool, (∀ p ∈ before, sp p.block = true) → DataW.TrodAll enc P W' 0 sp true f.params.toList args.toList (s.fn H (ds ++ gs)).args pa)
    (hvars : ∀ sp : Nat → Bool, (∀ p ∈ before, sp p.block = true) → DataW.TrodVars enc P W' sp s.vars (s.fn H (ds ++ gs)).vars pv)
    (hps : before = pa ++ pv) (hb : Below W.heap.size W W')
    (hok : ∀ (j : Nat) (t : TypeId) (r : Value), f.resultTypes[j]? = some t → (v.resultList f.resultTypes.size)[j]? = some r → Value.okWide P W' .any 0 t r) :
    s.post enc P f apart fresh handsOn again W args v W' := by
  have hlt : ∀ p ∈ before, p.block < W.heap.size := fun p hp => hW.lt p hp
  have hold : ∀ p ∈ before, (fun b => decide (b < W.heap.size)) p.block = true := fun p hp => by simpa using hlt p hp
  refine ⟨ds, gs, before, [], pa, pv, hW, hres _ _ _, hargs _ hold, hvars _ hold, World.keptBut_mono (fun p hp => ⟨hp, ?_⟩) (hb.frame (· ∈ before)), fun _ => ?_⟩
  · rw [hps, List.mem_append] at hp
    exact Or.inr hp
  · obtain ⟨_, _, _, _, _, hz, hn⟩ := hW
    refine ⟨hok, _, _, ([] ++ pa) ++ pv, ⟨[] ++ pa, pv, trodAll_append (hargs _ (fun _ _ => rfl)) (hres _ _ _), hvars _ (fun _ _ => rfl), rfl, ?_, ?_⟩, ?_⟩
    · intro b off hp
      have hin : MemPlace.cell b off ∈ before := by rw [hps]; simpa using hp
      rw [hb.frozen (hlt _ hin)]
      exact hz b off hin
    · intro ha
      have := hn ha
      rw [hps] at this
      simpa using this
    · intro p hp _
      rw [hps]
      simpa using hp
end

end Go.Proofs.YtajkeoapfkkjbaaGreatDoor

/- A description of an integer, as it comes in: a sign, and digits in memory. -/
namespace Go.Proofs.YtajkeoapfkkjbaaGreatDoor
open Go.ChangeShapes Go.WideShapes Go.ChangeAt Go.RowKit

theorem cell_spot {w : World} {a : Addr} {v : Value} (h : w.cell? a = some v) : a.spot = none ∧ a.block < w.heap.size := by
  unfold World.cell? at h
  cases hb : w.heap[a.block]? with
  | none => rw [hb] at h; cases h
  | some o =>
    have hlt := (Array.getElem?_eq_some_iff.1 hb).1
    rw [hb] at h
    cases o with
    | cells c t f =>
      cases hs : a.spot with
      | none => exact ⟨rfl, hlt⟩
      | some x => simp [hs] at h
    | _ => cases h

theorem add_spot {b o : Nat} {j : Nat} : (⟨b, o, none⟩ : Addr).add j = ⟨b, o + j, none⟩ := by
  unfold Addr.add; split <;> simp_all

theorem add_zero_spot (a : Addr) : (a.add 0) = a := by unfold Addr.add; simp

theorem cellsU8 : Tryz.prog.cellsOf 5 = 1 := by kernel_rfl

end Go.Proofs.YtajkeoapfkkjbaaGreatDoor
