/- The walk of klipperef01.carry: all pieces come into their range. -/
import Derived.Test.YtmkeigfckfkifaaDoorRefA
namespace Go.Proofs.YtmkeigfckfkifaaDoor
open Go.RowKit

set_option maxHeartbeats 2000000 in
theorem carry_own (A : Option Addr) (c n : Nat) (p : List Int) (w : World) (h : Sl w .i64 A c p) (hlen : p.length ≤ 60000) (hm : Mod 1000000000000000 p) (hv : valB 10000 p = n) :
    Calls Tryd.prog 70 #[.slice A p.length c] w fun e w' => ∃ A c, e = .returned (.slice A (lim4 n).length c) ∧ Sl w' .i64 A c (lim4 n) ∧ Below w.heap.size w w' ∧ (A = none → c = 0) := by
  have HM := Lib.hid hm
  have HV := Lib.hid hv
  clear hm hv
  go_enter Tryd.func70, Tryd.ntmps70
  go_wp2
  go_loopw [3, 4, 5] (fun v cy i wr => ∃ (j : Nat) (cv : Int) (out : List Int) (Ao : Option Addr) (co : Nat), j ≤ p.length + 4 ∧ i = .int .i64 j ∧ cy = .int .i64 cv ∧ v = .slice Ao j co ∧ -1000000000000000 ≤ cv ∧ cv ≤ 1000000000000000 ∧
      Own wr w.heap.size 3 .i64 Ao j co out ∧ Below w.heap.size w wr ∧ CarR p j cv out) (fun _ _ i _ => p.length + 4 - (intOf i).toNat)
  case atStart => exact ⟨0, 0, [], none, 0, Nat.zero_le _, rfl, rfl, rfl, by omega, by omega, Own.nil_ _ _ _ _, Below.refl _ _, carR_start p⟩
  case round =>
    obtain ⟨j, cv, out, Ao, co, hj, rfl, rfl, rfl, h0, h1, hown, hbel, hinv⟩ := hrel
    have HI := Lib.hid hinv
    have HO := Lib.hid hown
    have HB := Lib.hid hbel
    have hbs := hbel.size
    clear hinv hown hbel
    by_cases hlt : j < p.length
    · have hx1 := h.below HB.out
      obtain ⟨bx, ox, rfl, hbx, hcx⟩ := hx1.at_ (by omega)
      have gx := hcx j hlt
      have bx1 := (HM.out.at_ (by omega) j).1
      have bx2 := (HM.out.at_ (by omega) j).2
      have HS := Lib.hid (carR_in HI.out hlt rfl)
      clear hcx hx1 h
      generalize hxx : p[j]?.getD 0 = xx at *
      clear hxx
      by_cases hneg : cv + xx < 0
      · obtain ⟨e1, e2, e3, e4⟩ := tmod_neg hneg
        obtain ⟨m, hm⟩ : ∃ m, (cv + xx).tmod 10000 = m := ⟨_, rfl⟩
        rw [hm] at e1 e2 e3 e4
        by_cases hz : m = 0
        · subst hz
          have e3' := e3 rfl
          have hq : (cv + xx).tdiv 10000 = (cv + xx) / 10000 := by
            obtain ⟨q, hq⟩ : ∃ q, cv + xx = 10000 * q := ⟨(cv + xx) / 10000, by omega⟩
            rw [hq, tdiv_exact]; omega
          rw [e3'] at HS
          obtain ⟨q, hq'⟩ : ∃ q, (cv + xx) / 10000 = q := ⟨_, rfl⟩
          rw [hq'] at hq HS
          have hq1 : -1000000000000000 ≤ q := by omega
          have hq2 : q ≤ 1000000000000000 := by omega
          clear hq' e3 e4 e3'
          go_wp2_with (at_builtin; refine pushI rfl (.tmp 33) (.tmp 35) rfl w.heap.size Ao j co out wr rfl HO.out 0 rfl (by omega) hbs ?_; intro A' c' w' hown' hg'; have HO' := Lib.hid hown'; have HG' := Lib.hid hg'; clear hown' hg')
          go_roundw
          case rel => exact ⟨j + 1, _, _, A', c', by omega, by go_num, rfl, rfl, by omega, by omega, HO'.out, HO.out.grownBelow HG'.out HB.out (Nat.le_refl _) hbs, HS.out⟩
          case measure => simp [intOf]; omega
        · have e4' := e4 hz
          have hm0 : m < 0 := by omega
          have hq : (cv + xx - (m + 10000)).tdiv 10000 = (cv + xx) / 10000 := by
            obtain ⟨q, hq⟩ : ∃ q, cv + xx - (m + 10000) = 10000 * q := ⟨(cv + xx) / 10000, by omega⟩
            rw [hq, tdiv_exact]; omega
          rw [e4'] at HS
          obtain ⟨q, hq'⟩ : ∃ q, (cv + xx) / 10000 = q := ⟨_, rfl⟩
          rw [hq'] at hq HS
          have hq1 : -1000000000000000 ≤ q := by omega
          have hq2 : q ≤ 1000000000000000 := by omega
          clear hq' e3 e4 e4'
          go_wp2_with (at_builtin; refine pushI rfl (.tmp 33) (.tmp 35) rfl w.heap.size Ao j co out wr rfl HO.out (m + 10000) rfl (by omega) hbs ?_; intro A' c' w' hown' hg'; have HO' := Lib.hid hown'; have HG' := Lib.hid hg'; clear hown' hg')
          go_roundw
          case rel => exact ⟨j + 1, _, _, A', c', by omega, by go_num, rfl, rfl, by omega, by omega, HO'.out, HO.out.grownBelow HG'.out HB.out (Nat.le_refl _) hbs, HS.out⟩
          case measure => simp [intOf]; omega
      · have hnn : 0 ≤ cv + xx := by omega
        have hr0 : 0 ≤ (cv + xx) % 10000 := by omega
        have hr1 : (cv + xx) % 10000 < 10000 := by omega
        have hq : (cv + xx - (cv + xx) % 10000) / 10000 = (cv + xx) / 10000 := by omega
        obtain ⟨q, hq'⟩ : ∃ q, (cv + xx) / 10000 = q := ⟨_, rfl⟩
        obtain ⟨r, hr⟩ : ∃ r, (cv + xx) % 10000 = r := ⟨_, rfl⟩
        rw [hq'] at hq HS
        rw [hr] at hq HS hr0 hr1
        have hq1 : -1000000000000000 ≤ q := by omega
        have hq2 : q ≤ 1000000000000000 := by omega
        have hs0 : 0 ≤ cv + xx - r := by omega
        clear hq'
        go_wp2_with (at_builtin; refine pushI rfl (.tmp 33) (.tmp 35) rfl w.heap.size Ao j co out wr rfl HO.out r rfl (by omega) hbs ?_; intro A' c' w' hown' hg'; have HO' := Lib.hid hown'; have HG' := Lib.hid hg'; clear hown' hg')
        go_roundw
        case rel => exact ⟨j + 1, _, _, A', c', by omega, by go_num, rfl, rfl, by omega, by omega, HO'.out, HO.out.grownBelow HG'.out HB.out (Nat.le_refl _) hbs, by rw [hq]; exact HS.out⟩
        case measure => simp [intOf]; omega
    · by_cases hz : cv = 0
      · subst hz
        have HE := Lib.hid (carR_end HI.out (by omega) HV.out)
        clear h
        go_wp2_with (go_at_call 68; refine (cut_to Ao co _ n _ _ HO.out.sl HO.out.len (by omega) HE.out.1 HE.out.2).mono ?_; rintro e w'' ⟨rfl, rfl⟩)
        go_ret
        exact ⟨Ao, co, rfl, HO.out.sl.to4 HE.out.1 HE.out.2, HB.out, HO.out.none_cap⟩
      · obtain ⟨hpos, hroom⟩ := carR_room HM.out HI.out (by omega) HV.out hz
        have t1 : (cv != 0) = true := by rw [bne_iff_ne]; exact hz
        have HS := Lib.hid (carR_past HI.out (by omega))
        have hr0 : 0 ≤ cv % 10000 := by omega
        have hr1 : cv % 10000 < 10000 := by omega
        have hq : (cv - cv % 10000) / 10000 = cv / 10000 := by omega
        obtain ⟨q, hq'⟩ : ∃ q, cv / 10000 = q := ⟨_, rfl⟩
        obtain ⟨r, hr⟩ : ∃ r, cv % 10000 = r := ⟨_, rfl⟩
        rw [hq'] at hq HS
        rw [hr] at hq HS hr0 hr1
        have hq1 : -1000000000000000 ≤ q := by omega
        have hq2 : q ≤ 1000000000000000 := by omega
        have hs0 : 0 ≤ cv - r := by omega
        clear hq' h hz
        go_wp2_with (at_builtin; refine pushI rfl (.tmp 33) (.tmp 35) rfl w.heap.size Ao j co out wr rfl HO.out r rfl (by omega) hbs ?_; intro A' c' w' hown' hg'; have HO' := Lib.hid hown'; have HG' := Lib.hid hg'; clear hown' hg')
        go_roundw
        case rel => exact ⟨j + 1, _, _, A', c', by omega, by go_num, rfl, rfl, by omega, by omega, HO'.out, HO.out.grownBelow HG'.out HB.out (Nat.le_refl _) hbs, by rw [hq]; exact HS.out⟩
        case measure => simp [intOf]; omega

theorem carry_any (A : Option Addr) (c n : Nat) (p : List Int) (w : World) (h : Sl w .i64 A c p) (hlen : p.length ≤ 60000) (hm : Mod 1000000000000000 p) (hv : valB 10000 p = n) :
    Calls Tryd.prog 70 #[.slice A p.length c] w fun e w' => ∃ A c, e = .returned (.slice A (lim4 n).length c) ∧ Sl w' .i64 A c (lim4 n) ∧ Below w.heap.size w w' :=
  (carry_own A c n p w h hlen hm hv).mono fun _ _ ⟨A', c', h1, h2, h3, _⟩ => ⟨A', c', h1, h2, h3⟩

end Go.Proofs.YtmkeigfckfkifaaDoor
