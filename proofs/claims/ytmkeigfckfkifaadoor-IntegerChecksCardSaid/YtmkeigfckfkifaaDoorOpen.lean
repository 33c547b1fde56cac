/- The walk of integer.open: a numeral is taken apart into sign and pieces. -/
import Derived.Test.YtmkeigfckfkifaaDoorClose
import Derived.Deep.RegionLaw
namespace Go.Proofs.YtmkeigfckfkifaaDoor
open Go.RowKit

section
variable {P : Program} {t e : TypeId} {k : IntKind} {bytes : Nat}

/-- 'append(out, x)' as one step of a region that draws its order: x's cell is known. -/
theorem step_push {ops : Array Oper} {o : Oper} {a : Act} {w : World} {K : Act → World → Prop} {Q : Exit → Act → World → Prop} {E : Prop} (T : IntElem P t e k bytes) (hgd : o.guard = none) (s x : Operand)
    (ho : o.op = .call { callee := .builtin .append, args := #[s, x], argTypes := #[t, t] })
    (base : Nat) (A : Option Addr) (n c : Nat) (l : List Int) (hs : a.eval s = .slice A n c) (hown : Own w base e k A n c l) (g : Nat) (y : Int)
    (hx : a.eval x = .slice (some ⟨g, 0, none⟩) 1 1) (hc : w.cell? ⟨g, 0, none⟩ = some (.int k y)) (h63 : n ≤ 1000000) (hbase : base ≤ w.heap.size)
    (h : ∀ A' c' w', Own w' base e k A' (n + 1) c' (l ++ [y]) → w.grownBy w' (Value.slice A n c).ownBlock → K (a.put o.dst (.slice A' (n + 1) c')) w') :
    if Region.wanted o (yielded ops a.tmps) = true then Oper.wp P o a w K Q else E := by
  have hw : Region.wanted o (yielded ops a.tmps) = true := by simp [Region.wanted, hgd]
  rw [if_pos hw]
  obtain ⟨i, hi, hz, hsz, hby⟩ := info_parts T.info
  have hsm := T.small
  have h8 : (n + 1) * bytes ≤ (n + 1) * 8 := Nat.mul_le_mul_left _ hsm
  refine wp_append_own w s x t ho base e i (.int k 0) 1 bytes T.ht hi hz hsz hby rfl (by decide) (.slice A n c) n _ hs hown.2 ⟨g, 0, none⟩ 1 1 [.int k y] hx rfl ?_ (by simp [Value.oneCell'])
    (by simp only [maxLen]; omega) (by omega) hbase ?_
  · intro j u hu
    cases j with
    | zero =>
      have e1 : Value.int k y = u := by simpa using hu
      rw [← e1, ← hc]
      simp [Addr.add]
    | succ j => simp at hu
  · intro v' w' h1 h2 _
    have h3 : w'.ownsRow base e 1 v' (n + 1) ((l ++ [y]).map (Value.int k)) := by simpa using h1
    have h4 : ∃ A' c', v' = .slice A' (n + 1) c' := by
      rcases h3.2 with ⟨_, hn⟩ | ⟨g, cap, cur, hv, _⟩
      · simp at hn
      · exact ⟨_, _, hv⟩
    obtain ⟨A', c', rfl⟩ := h4
    exact h A' c' w' ⟨by simp [hown.1], h3⟩ h2
end

/-- The length of a string in a slot, for a loop's measure. -/
def strLen : Value → Nat | .string S => S.size | _ => 0

/-- The magnitude of an integer, as a string. -/
def mag (z : Int) : ByteArray := ⟨(mdig z).toArray⟩

theorem cut_canon (z : Int) (w : World) :
    Calls Tryd.prog 29 #[.string (canon z), .string ⟨#[45]⟩] w fun e w' => e = .returned (.tuple #[.string (mag z), .bool (decide (z < 0))]) ∧ w = w' := by
  refine (Tryd.strings_CutPrefix (canon z) ⟨#[45]⟩ w).mono ?_
  rintro e w' ⟨rfl, rfl⟩
  have h := trim_minus z
  have h1 : (canon z).data.toList = Lib.itoa z := rfl
  rw [h1]
  have h2 : (⟨#[45]⟩ : ByteArray).data.toList = [45] := rfl
  rw [h2, h.1, h.2]
  exact ⟨rfl, rfl⟩

theorem parseU_any (s : ByteArray) (hs : s.size ≤ 19) (hne : s.data.toList ≠ []) (hd : AllDig s.data.toList) (w : World) :
    Calls Tryd.prog 61 #[.string s, .int .i64 10, .int .i64 64] w fun e w' => e = .returned (.tuple #[.int .u64 (dval s.data.toList), .nilIface]) ∧ Below w.heap.size w w' := by
  refine (Tryd.strconv_ParseUint_10_at64_ok s (by omega) _ (parseU64_digits hne hd (by rw [← Lib.size_eq]; exact hs)) w).mono ?_
  rintro e w' ⟨rfl, rfl | rfl⟩
  · exact ⟨rfl, Below.refl _ _⟩
  · exact ⟨rfl, Lib.bytesWorld_below w _ s⟩

def OpenInv (D : List UInt8) (S : ByteArray) (j : Nat) (p : List Int) : Prop :=
  S.data.toList = D.take S.size ∧ S.size = D.length - 9 * j ∧ Digs 1000000000 p ∧ p.length = j ∧ valB 1000000000 p = dval (D.drop S.size)

theorem open_start (z : Int) : OpenInv (mdig z) (mag z) 0 [] := by
  have h : (mag z).size = (mdig z).length := rfl
  refine ⟨?_, by rw [h]; omega, Digs.nil, rfl, ?_⟩
  · rw [h, List.take_length]; rfl
  · rw [h, List.drop_length]; rfl

/-- The piece that is read in a round. -/
theorem open_piece {D : List UInt8} {S : ByteArray} {j : Nat} {p : List Int} (h : OpenInv D S j p) (hd : AllDig D) (hp : 0 < S.size) :
    (S.extract (S.size - 9) S.size).size ≤ 9 ∧ (S.extract (S.size - 9) S.size).data.toList ≠ [] ∧ AllDig (S.extract (S.size - 9) S.size).data.toList ∧ dval (S.extract (S.size - 9) S.size).data.toList < 1000000000 := by
  obtain ⟨h1, h2, _⟩ := h
  have hl : S.data.toList.length = S.size := (Lib.size_eq S).symm
  have hx : (S.extract (S.size - 9) S.size).data.toList = S.data.toList.drop (S.size - 9) := by
    rw [Lib.extract_data, List.take_of_length_le (by rw [List.length_drop, hl]; omega)]
  have hxl : (S.data.toList.drop (S.size - 9)).length ≤ 9 := by rw [List.length_drop, hl]; omega
  have hxd : AllDig (S.data.toList.drop (S.size - 9)) := by rw [h1]; exact (hd.take _).drop _
  refine ⟨by rw [Lib.size_eq, hx]; exact hxl, ?_, by rw [hx]; exact hxd, ?_⟩
  · rw [hx]
    intro hn
    have := congrArg List.length hn
    rw [List.length_drop, hl] at this
    simp at this
    omega
  · rw [hx]
    have h3 := dval_lt hxd
    have h4 : 10 ^ (S.data.toList.drop (S.size - 9)).length ≤ 10 ^ 9 := Nat.pow_le_pow_right (by omega) hxl
    omega

theorem open_step {D : List UInt8} {S : ByteArray} {j : Nat} {p : List Int} (h : OpenInv D S j p) (hd : AllDig D) (hp : 0 < S.size) :
    OpenInv D (S.extract 0 (S.size - 9)) (j + 1) (p ++ [(dval (S.extract (S.size - 9) S.size).data.toList : Int)]) := by
  have hpc := open_piece h hd hp
  obtain ⟨h1, h2, h3, h4, h5⟩ := h
  have hl : S.data.toList.length = S.size := (Lib.size_eq S).symm
  have hx : (S.extract (S.size - 9) S.size).data.toList = (D.take S.size).drop (S.size - 9) := by
    rw [Lib.extract_data, List.take_of_length_le (by rw [List.length_drop, hl]; omega), h1]
  have hs' : (S.extract 0 (S.size - 9)).data.toList = D.take (S.size - 9) := by
    rw [Lib.extract_data, List.drop_zero, h1, List.take_take, Nat.min_eq_left (by omega)]
    rfl
  have hsz : (S.extract 0 (S.size - 9)).size = S.size - 9 := by
    rw [Lib.size_eq, hs', List.length_take]
    omega
  refine ⟨by rw [hsz]; exact hs', by rw [hsz]; omega, h3.snoc (by omega) (by omega), by simp [h4], ?_⟩
  rw [valB_snoc, h5, h4, hsz, hx]
  have e : D.drop (S.size - 9) = (D.take S.size).drop (S.size - 9) ++ D.drop S.size := by
    conv => lhs; rw [← List.take_append_drop S.size D]
    rw [List.drop_append_of_le_length (by rw [List.length_take]; omega)]
  rw [e, dval_append]
  have hlen : (D.drop S.size).length = 9 * j := by rw [List.length_drop]; omega
  rw [hlen, Nat.pow_mul]
  generalize dval ((D.take S.size).drop (S.size - 9)) = u
  generalize dval (D.drop S.size) = v
  have e2 : ((1000000000 ^ j : Nat) : Int) = (1000000000 : Int) ^ j := by simp
  rw [show (10 : Nat) ^ 9 = 1000000000 from rfl, ← e2]
  generalize (1000000000 : Nat) ^ j = q
  simp only [Int.natCast_add, Int.natCast_mul]
  rw [Int.add_comm, Int.mul_comm]

theorem open_end {z : Int} {S : ByteArray} {j : Nat} {p : List Int} (h : OpenInv (mdig z) S j p) (h0 : S.size = 0) : Digs 1000000000 p ∧ valB 1000000000 p = (z.natAbs : Int) := by
  obtain ⟨h1, h2, h3, h4, h5⟩ := h
  rw [h0, List.drop_zero, mdig_val] at h5
  exact ⟨h3, h5⟩

set_option maxHeartbeats 2000000 in
theorem open_any (z : Int) (w : World) (hlen : (mag z).size ≤ 60000) :
    Calls Tryd.prog 36 #[.string (canon z)] w fun e w' => ∃ A c, e = .returned (.agg #[.bool (decide (z < 0)), .slice A (lim9 z.natAbs).length c]) ∧ Sl w' .u64 A c (lim9 z.natAbs) ∧ Below w.heap.size w w' := by
  have HD : Hid (AllDig (mdig z)) := mdig_all z
  have H0 : Hid (OpenInv (mdig z) (mag z) 0 []) := open_start z
  have hmk := run_mk0 Elem64 ((mag z).size / 9 + 1) (by omega) (((mag z).size : Int) / 9 + 1) (by omega)
  go_enter Tryd.func36, Tryd.ntmps36
  go_wp2_with (go_at_call 29; refine (cut_canon z _).mono ?_; rintro e w' ⟨rfl, rfl⟩)
  have hown0 : Own ((w.alloc (.cells #[.bool false, .slice none 0 0] 56)).alloc (.cells (zrow .u64 ((mag z).size / 9 + 1)) 72)) (w.heap.size + 1) 72 .u64 (some ⟨w.heap.size + 1, 0, none⟩) 0 ((mag z).size / 9 + 1) [] := by
    have := Own.made (base := w.heap.size + 1) (e := 72) (k := .u64) (c := (mag z).size / 9 + 1) (w.alloc (.cells #[.bool false, .slice none 0 0] 56)) (by simp) (by simp only [maxLen]; omega)
    rw [World.size_alloc] at this
    exact this
  have hblk0 : ((w.alloc (.cells #[.bool false, .slice none 0 0] 56)).alloc (.cells (zrow .u64 ((mag z).size / 9 + 1)) 72)).heap[w.heap.size]? = some (.cells #[.bool false, .slice none 0 0] 56 (0, 0)) := by
    rw [Below.heap_alloc _ _ _ (by simp)]
    exact heap_alloc_new w _
  have hb0 : Below w.heap.size w ((w.alloc (.cells #[.bool false, .slice none 0 0] 56)).alloc (.cells (zrow .u64 ((mag z).size / 9 + 1)) 72)) := ((Below.refl _ _).alloc (Nat.le_refl _) _).alloc (by simp) _
  go_loopw [3, 5] (fun sv pv wr => ∃ (S : ByteArray) (j : Nat) (p : List Int) (Ao : Option Addr) (co : Nat), sv = .string S ∧ pv = .slice Ao j co ∧ S.size ≤ 60000 ∧ j + S.size ≤ 60000 ∧ Own wr (w.heap.size + 1) 72 .u64 Ao j co p ∧
      wr.heap[w.heap.size]? = some (.cells #[.bool false, .slice none 0 0] 56 (0, 0)) ∧ Below w.heap.size w wr ∧ OpenInv (mdig z) S j p) (fun sv _ _ => strLen sv)
  case atStart => exact ⟨mag z, 0, [], _, _, rfl, rfl, hlen, by omega, hown0, hblk0, hb0, H0.out⟩
  case round =>
    clear hown0 hblk0 hb0 H0 hmk
    obtain ⟨S, j, p, Ao, co, rfl, rfl, hS, hj, hown, hblk, hbel, hinv⟩ := hrel
    have HI := Lib.hid hinv
    have HO := Lib.hid hown
    have HB := Lib.hid hbel
    have HK := Lib.hid hblk
    have hlt := (Array.getElem?_eq_some_iff.1 hblk).1
    clear hinv hown hbel hblk
    rcases Nat.eq_zero_or_pos S.size with hz | hpos
    · have hz1 : ¬ (0 : Int) < (S.size : Int) := by omega
      have HE := Lib.hid (open_end HI.out hz)
      have HZ := Lib.hid hz
      clear hz
      have c0 : wr.cell? ⟨w.heap.size, 0, none⟩ = some (.bool false) := by rw [Lib.cell_of_heap HK.out]; rfl
      have c1 : wr.cell? ⟨w.heap.size, 1, none⟩ = some (.slice none 0 0) := by rw [Lib.cell_of_heap HK.out]; rfl
      have f0 := Lib.frozen_of_heap HK.out 0
      have f1 := Lib.frozen_of_heap HK.out 1
      go_wp2_with (go_at_call 62; refine (trim_to Ao co _ z.natAbs _ _ HO.out.sl HO.out.len (by omega) HE.out.1 HE.out.2).mono ?_; rintro e w'' ⟨rfl, rfl⟩)
      have r0 := World.cell?_setCell_same wr ⟨w.heap.size, 0, none⟩ (.bool (decide (z < 0))) c0
      have c1' : (wr.setCell ⟨w.heap.size, 0, none⟩ (.bool (decide (z < 0)))).cell? ⟨w.heap.size, 1, none⟩ = some (.slice none 0 0) := by rw [World.cell?_setCell_other _ _ _ _ (by simp)]; exact c1
      have r1 := World.cell?_setCell_same (wr.setCell ⟨w.heap.size, 0, none⟩ (.bool (decide (z < 0)))) ⟨w.heap.size, 1, none⟩ (.slice Ao (lim9 z.natAbs).length co) c1'
      refine bodyPost_ret (v := .agg #[.bool (decide (z < 0)), .slice Ao (lim9 z.natAbs).length co]) (by simp [results, Tryd.results36, go_sem, r0, r1]) rfl ⟨Ao, co, rfl, ?_, ?_⟩
      · refine ((HO.out.grown (row := some w.heap.size) (World.grownBy.trans (b := wr.setCell ⟨w.heap.size, 0, none⟩ (.bool (decide (z < 0)))) ?_ ?_) (.inr (fun g e => by injection e with e; omega))).sl).to9 HE.out.1 HE.out.2
        · exact ⟨rfl, rfl, rfl, by simp [World.setCell], fun k _ hk => Below.heap_setCell _ _ _ _ (fun e => hk (by simp [e]))⟩
        · exact ⟨rfl, rfl, rfl, by simp [World.setCell], fun k _ hk => Below.heap_setCell _ _ _ _ (fun e => hk (by simp [e]))⟩
      · exact (HB.out.setCell (p := ⟨w.heap.size, 0, none⟩) (Nat.le_refl _) _).setCell (p := ⟨w.heap.size, 1, none⟩) (Nat.le_refl _) _
    · have hp1 : (0 : Int) < (S.size : Int) := by omega
      obtain ⟨kk, hkk⟩ : ∃ kk : Nat, S.size - 9 = kk := ⟨_, rfl⟩
      have hmx : max ((S.size : Int) - 9) 0 = (kk : Int) := by omega
      have hkl : kk ≤ S.size := by omega
      have hkl2 : kk < S.size := by omega
      have hs := open_step HI.out HD.out hpos
      obtain ⟨q1, q2, q3, q4⟩ := open_piece HI.out HD.out hpos
      rw [hkk] at hs q1 q2 q3 q4
      have HS := Lib.hid hs
      have hpu := fun W => parseU_any (S.extract kk S.size) (by omega) q2 q3 W
      have hsz2 : (S.extract 0 kk).size = kk := by simp; omega
      have HZ2 := Lib.hid hsz2
      have HKK := Lib.hid hkk
      generalize dval (S.extract kk S.size).data.toList = u at *
      have HP := Lib.hid hpu
      clear hpu q1 q2 q3 hs hsz2 hkk
      go_wp2_with (go_at_call 61; refine (HP.out _).mono ?_; rintro e w1 ⟨rfl, hb1⟩; have HB1 := Lib.hid hb1; have hs1 := hb1.size; clear hb1)
      have hown1 := (HO.out.below HB1.out (Nat.le_refl _)).alloc (.cells #[.int .u64 (u : Int)] 72)
      have hcell1 : (w1.alloc (.cells #[.int .u64 (u : Int)] 72)).cell? ⟨w1.heap.size, 0, none⟩ = some (.int .u64 (u : Int)) := by rw [World.cell?_alloc_at _ _ _ _ rfl]; rfl
      have HO1 := Lib.hid hown1
      have HC1 := Lib.hid hcell1
      clear hown1 hcell1
      go_region_law (refine step_push Elem64 rfl (.tmp 33) (.tmp 35) rfl (w.heap.size + 1) Ao j co p (by simp [Act.eval]) HO1.out w1.heap.size (u : Int) (by simp [Act.eval]) HC1.out (by omega) (by simp; omega) ?_; intro A' c' w2 hown2 hg2; have HO2 := Lib.hid hown2; have HG2 := Lib.hid hg2; clear hown2 hg2)
      simp only [Act.put, List.getElem_toArray, List.getElem_cons_succ, List.getElem_cons_zero, List.setIfInBounds_toArray, List.set_cons_succ, List.set_cons_zero]
      go_wp2
      go_roundw
      case rel =>
        refine ⟨S.extract 0 kk, j + 1, _, A', c', rfl, rfl, ?_, ?_, HO2.out, ?_, ?_, HS.out⟩
        · rw [HZ2.out]; omega
        · rw [HZ2.out]; omega
        · refine (HG2.out.block _ (by simp; omega) (fun e => ?_)).trans ((Below.heap_alloc w1 _ _ (by omega)).trans ((HB1.out.block _ hlt).trans HK.out))
          have := HO1.out.2.lt _ e.symm
          omega
        · exact HO1.out.drew.grownBelow HG2.out ((HB.out.trans (HB1.out.mono (by omega))).alloc (by omega) _).drew (by omega) (by simp; omega)
      case measure => simp only [strLen]; rw [HZ2.out]; omega

end Go.Proofs.YtmkeigfckfkifaaDoor
