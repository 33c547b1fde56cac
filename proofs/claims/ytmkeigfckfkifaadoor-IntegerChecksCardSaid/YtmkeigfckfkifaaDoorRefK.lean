/- The walk of klipperef01.take: digits become pieces of four. -/
import Derived.Test.YtmkeigfckfkifaaDoorRefC
import Derived.Test.YtmkeigfckfkifaaDoorDec
namespace Go.Proofs.YtmkeigfckfkifaaDoor
open Go.RowKit

theorem int_i64 {a b : Int} (h : a = b) : Value.int .i64 a = .int .i64 b := by rw [h]

/-- m pieces are read, from the last digits on. -/
def TakeInv (D : List UInt8) (m : Nat) (p : List Int) : Prop := Digs 10000 p ∧ p.length = m ∧ valB 10000 p = (dval (D.drop (D.length - 4 * m)) : Int)

theorem take_start (D : List UInt8) : TakeInv D 0 [] := ⟨Digs.nil, rfl, by simp [valB, dval_nil]⟩

theorem piece_lt {D : List UInt8} (hd : AllDig D) (st n : Nat) (hn : n ≤ 4) : dval ((D.drop st).take n) < 10000 := by
  have h1 := dval_lt ((hd.drop st).take n)
  have h2 : 10 ^ ((D.drop st).take n).length ≤ 10 ^ 4 := Nat.pow_le_pow_right (by omega) (by rw [List.length_take]; omega)
  omega

theorem piece_snoc {D : List UInt8} (st k : Nat) (hs : st ≤ k) (hk : k < D.length) : dval ((D.drop st).take (k + 1 - st)) = 10 * dval ((D.drop st).take (k - st)) + (D[k].toNat - 48) := by
  have e : k + 1 - st = (k - st) + 1 := by omega
  have hl : k - st < (D.drop st).length := by rw [List.length_drop]; omega
  rw [e, List.take_succ_eq_append_getElem hl, dval_snoc, List.getElem_drop]
  have e2 : D[st + (k - st)]'(by omega) = D[k] := by congr 1; omega
  rw [e2]; omega

theorem take_step {D : List UInt8} {m st E : Nat} {p : List Int} (h : TakeInv D m p) (hd : AllDig D) (hE : D.length - 4 * m = E) (hp : 0 < E) (hst : D.length - 4 * (m + 1) = st) :
    TakeInv D (m + 1) (p ++ [(dval ((D.drop st).take (E - st)) : Int)]) := by
  obtain ⟨h1, h2, h3⟩ := h
  have hlt := piece_lt hd st (E - st) (by omega)
  refine ⟨h1.snoc (by omega) (by omega), by simp [h2], ?_⟩
  rw [valB_snoc, h3, h2, hst, hE]
  have e : D.drop st = (D.drop st).take (E - st) ++ D.drop E := by
    conv => lhs; rw [← List.take_append_drop (E - st) (D.drop st)]
    rw [List.drop_drop, show st + (E - st) = E by omega]
  conv => rhs; rw [e]
  rw [dval_append, show (D.drop E).length = 4 * m by rw [List.length_drop]; omega, Nat.pow_mul]
  generalize dval ((D.drop st).take (E - st)) = u
  generalize dval (D.drop E) = v
  have e2 : ((10000 ^ m : Nat) : Int) = (10000 : Int) ^ m := by simp
  rw [show (10 : Nat) ^ 4 = 10000 from rfl, ← e2]
  generalize (10000 : Nat) ^ m = q
  simp only [Int.natCast_add, Int.natCast_mul]
  rw [Int.add_comm, Int.mul_comm]

theorem take_end {D : List UInt8} {m : Nat} {p : List Int} (h : TakeInv D m p) (hE : D.length - 4 * m = 0) : Digs 10000 p ∧ valB 10000 p = (dval D : Int) := by
  obtain ⟨h1, h2, h3⟩ := h
  rw [hE, List.drop_zero] at h3
  exact ⟨h1, h3⟩

set_option maxHeartbeats 2000000 in
theorem take_own (S : ByteArray) (w : World) (hd : AllDig S.data.toList) (hs : S.size ≤ 100000) :
    Calls Tryd.prog 42 #[.string S] w fun e w' => ∃ A c, e = .returned (.slice A (lim4 (dval S.data.toList)).length c) ∧ Sl w' .i64 A c (lim4 (dval S.data.toList)) ∧ Below w.heap.size w w' ∧ (A = none → c = 0) := by
  have HD := Lib.hid hd
  have hl : S.data.toList.length = S.size := (Lib.size_eq S).symm
  have HL := Lib.hid hl
  clear hd hl
  go_enter Tryd.func42, Tryd.ntmps42
  go_wp2
  go_loopw [3, 4] (fun pv ev wr => ∃ (m : Nat) (E : Int) (p : List Int) (Ao : Option Addr) (co : Nat), ev = .int .i64 E ∧ pv = .slice Ao m co ∧ E = (S.size : Int) - 4 * m ∧ -4 < E ∧ m ≤ S.size ∧ Own wr w.heap.size 3 .i64 Ao m co p ∧ Below w.heap.size w wr ∧ TakeInv S.data.toList m p) (fun _ ev _ => (intOf ev).toNat)
  case atStart => exact ⟨0, _, [], none, 0, rfl, rfl, by omega, by omega, by omega, Own.nil_ _ _ _ _, Below.refl _ _, take_start _⟩
  case round =>
    obtain ⟨m, E, p, Ao, co, rfl, rfl, hE, hE4, hm, hown, hbel, hinv⟩ := hrel
    have HI := Lib.hid hinv
    have HO := Lib.hid hown
    have HB := Lib.hid hbel
    have hbs := hbel.size
    clear hinv hown hbel
    by_cases hp : 0 < E
    · obtain ⟨e, rfl⟩ := Int.eq_ofNat_of_zero_le (Int.le_of_lt hp)
      obtain ⟨st, hst⟩ : ∃ st : Nat, S.size - 4 * (m + 1) = st := ⟨_, rfl⟩
      have hse : st < e := by omega
      have hee : e ≤ S.size := by omega
      have hs4 : e - st ≤ 4 := by omega
      have HS := Lib.hid (take_step HI.out HD.out (show S.data.toList.length - 4 * m = e by rw [HL.out]; omega) (by omega) (show S.data.toList.length - 4 * (m + 1) = st by rw [HL.out]; exact hst))
      have hE2 : (e : Int) - 4 = (S.size : Int) - 4 * ((m + 1 : Nat) : Int) := by omega
      have HE2 := Lib.hid hE2
      have hm1 : m + 1 ≤ S.size := by omega
      have hst0 : e ≤ 4 → st = 0 := fun h => by omega
      have hst1 : 4 < e → (e : Int) - 4 = (st : Int) := fun h => by omega
      clear hst hE hE2 hE4
      by_cases h4 : 4 < e
      all_goals
        go_wp2
        have HST : Hid (Value.int .i64 (if 4 < e then (e : Int) - 4 else 0) = Value.int .i64 (st : Int)) := by
          by_cases h5 : 4 < e
          · rw [if_pos h5, hst1 h5]; rfl
          · rw [if_neg h5, hst0 (by omega)]; rfl
        first | rw [if_pos h4] at HST | rw [if_neg h4] at HST
        clear hst0 hst1
        go_loop [5, 6] (fun nv iv => ∃ (k u : Nat), st ≤ k ∧ k ≤ e ∧ iv = .int .i64 k ∧ nv = .int .i64 u ∧ u < 10000 ∧ Hid (u = dval ((S.data.toList.drop st).take (k - st)))) (fun _ iv => e - (intOf iv).toNat)
        case atStart => exact ⟨st, 0, Nat.le_refl _, by omega, (by first | exact HST.out | rfl), rfl, by omega, by rw [Nat.sub_self]; rfl⟩
        case round =>
          obtain ⟨k, u, hk1, hk2, rfl, rfl, hu, HU⟩ := hrel
          by_cases hlt : k < e
          · have hkS : k < S.size := by omega
            have hd1 := HD.out S.data.toList[k] (List.getElem_mem _)
            have hd2 : 48 ≤ S[k].toNat ∧ S[k].toNat ≤ 57 := hd1
            have hb1 := hd2.1
            have hb2 := hd2.2
            have HN : Hid (10 * u + (S[k].toNat - 48) = dval ((S.data.toList.drop st).take (k + 1 - st)) ∧ 10 * u + (S[k].toNat - 48) < 10000) := by
              have h1 := piece_snoc (D := S.data.toList) st k hk1 (by rw [HL.out]; exact hkS)
              have h2 := piece_lt HD.out st (k + 1 - st) (by omega)
              have h3 : S.data.toList[k] = S[k] := rfl
              rw [h3, ← HU.out] at h1
              exact ⟨h1.symm, by omega⟩
            clear hd1 hd2
            go_wp2
            go_round
            case rel => exact ⟨k + 1, 10 * u + (S[k].toNat - 48), by omega, by omega, by go_num, int_i64 (by omega), HN.out.2, HN.out.1⟩
            case measure => simp [intOf]; omega
          · obtain rfl : k = e := by omega
            have HV : Hid (p ++ [(dval ((S.data.toList.drop st).take (k - st)) : Int)] = p ++ [(u : Int)]) := by rw [← HU.out]; rfl
            go_wp2_with (at_builtin; refine pushI rfl (.tmp 29) (.tmp 31) rfl w.heap.size Ao m co p wr rfl HO.out (u : Int) rfl (by omega) hbs ?_; intro A' c' w' hown' hg'; have HO' := Lib.hid hown'; have HG' := Lib.hid hg'; clear hown' hg')
            go_roundw
            case rel => exact ⟨m + 1, _, _, A', c', rfl, rfl, HE2.out, by omega, hm1, HO'.out, HO.out.grownBelow HG'.out HB.out (Nat.le_refl _) hbs, by rw [← HV.out]; exact HS.out⟩
            case measure => simp [intOf]; omega
    · have HE := Lib.hid (take_end HI.out (by rw [HL.out]; omega))
      go_wp2_with (go_at_call 68; refine (cut_to Ao co _ (dval S.data.toList) _ _ HO.out.sl HO.out.len (by omega) HE.out.1 HE.out.2).mono ?_; rintro e w'' ⟨rfl, rfl⟩)
      go_ret
      exact ⟨Ao, co, rfl, HO.out.sl.to4 HE.out.1 HE.out.2, HB.out, HO.out.none_cap⟩

theorem take_any (S : ByteArray) (w : World) (hd : AllDig S.data.toList) (hs : S.size ≤ 100000) :
    Calls Tryd.prog 42 #[.string S] w fun e w' => ∃ A c, e = .returned (.slice A (lim4 (dval S.data.toList)).length c) ∧ Sl w' .i64 A c (lim4 (dval S.data.toList)) ∧ Below w.heap.size w w' :=
  (take_own S w hd hs).mono fun _ _ ⟨A', c', h1, h2, h3, _⟩ => ⟨A', c', h1, h2, h3⟩

end Go.Proofs.YtmkeigfckfkifaaDoor
