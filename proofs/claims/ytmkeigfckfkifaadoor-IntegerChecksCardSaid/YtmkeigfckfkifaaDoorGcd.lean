/- The walk of integer.Gcd: the greatest common divisor. -/
import Derived.Test.YtmkeigfckfkifaaDoorMul
import Derived.Test.YtmkeigfckfkifaaDoorDivC
import Derived.Deep.LoopGhost
namespace Go.Proofs.YtmkeigfckfkifaaDoor
open Go.RowKit

theorem gcd_tmod (x y : Int) : Int.gcd y (x.tmod y) = Int.gcd x y := by
  unfold Int.gcd
  rw [Int.natAbs_tmod, Nat.gcd_comm x.natAbs, Nat.gcd_rec y.natAbs x.natAbs, Nat.gcd_comm]

set_option maxHeartbeats 1000000 in
theorem gcd_quick (a b : Int) (w : World) (ht : Pow10 w) (ha : (canon a).size ≤ 18) (hb : (canon b).size ≤ 18) :
    Calls Tryd.prog 28 #[.string (canon a), .string (canon b)] w fun e w' => e = .returned (.string (canon (Int.gcd a b))) ∧ Below w.heap.size w w' := by
  have b1 := itoa_len_small (z := a) (k := 18) ha
  have b2 := itoa_len_small (z := b) (k := 18) hb
  have q1 := fun W => quick_yes a 18 (by omega) (by omega) W
  have q2 := fun W => quick_yes b 18 (by omega) (by omega) W
  have ho := fun W (hW : Below w.heap.size w W) n (h0 : 0 ≤ n) (h1 : n ≤ 1000000000000000000) => of_any n (by omega) (by omega) W (ht.below hW)
  have Q1 := Lib.hid q1
  have Q2 := Lib.hid q2
  have HO := Lib.hid ho
  have c1 : -1000000000000000000 ≤ a ∧ a ≤ 1000000000000000000 := by omega
  have c2 : -1000000000000000000 ≤ b ∧ b ≤ 1000000000000000000 := by omega
  clear q1 q2 ho b1 b2 ha hb ht
  go_enter Tryd.func28, Tryd.ntmps28
  go_wp2_with (first
    | (go_at_call_of 35 (Value.string (canon a)); refine (Q1.out _).mono ?_; rintro e w1 ⟨rfl, h3⟩; have H3 := Lib.hid h3; clear h3)
    | (go_at_call_of 35 (Value.string (canon b)); refine (Q2.out _).mono ?_; rintro e w2 ⟨rfl, h4⟩; have H4 := Lib.hid (H3.out.trans (h4.mono H3.out.size)); clear h4))
  go_loopw [5, 7] (fun xv yv wr => ∃ (x y : Int), xv = .int .i64 x ∧ yv = .int .i64 y ∧ (-1000000000000000000 ≤ x ∧ x ≤ 1000000000000000000) ∧ (-1000000000000000000 ≤ y ∧ y ≤ 1000000000000000000) ∧ Below w.heap.size w wr ∧ Hid (Int.gcd x y = Int.gcd a b)) (fun _ yv _ => (intOf yv).natAbs)
  case atStart => exact ⟨a, b, rfl, rfl, c1, c2, H4.out, rfl⟩
  case round =>
    clear c1 c2 H3 H4
    obtain ⟨x, y, rfl, rfl, ⟨c1, c2⟩, ⟨c3, c4⟩, hb, HG⟩ := hrel
    have HB := Lib.hid hb
    clear hb
    by_cases hy : y = 0
    · subst hy
      have hg : Int.gcd a b = x.natAbs := by rw [← HG.out]; simp
      have HN : Hid (canon (x.natAbs : Int) = canon (Int.gcd a b : Int)) := by rw [hg]; rfl
      clear hg
      obtain ⟨n, hn⟩ : ∃ n, x.natAbs = n := ⟨_, rfl⟩
      rw [hn] at HN
      have hn18 : (n : Int) ≤ 1000000000000000000 := by omega
      have hmx : max x (-x) = (n : Int) := by omega
      have hof := fun W hW => HO.out W hW (n : Int) (by omega) hn18
      have HOF := Lib.hid hof
      clear hof hn HO
      go_wp2_with (go_at_call 18; refine (HOF.out _ HB.out).mono ?_; rintro e w3 ⟨rfl, h5⟩; have H5 := Lib.hid (HB.out.trans (h5.mono HB.out.size)); clear h5)
      go_ret
      rw [← HN.out]
      exact ⟨rfl, H5.out⟩
    · have t1 : (y != 0) = true := by rw [bne_iff_ne]; exact hy
      have t2 : (y == 0) = false := beq_eq_false_iff_ne.2 hy
      have HN := Lib.hid ((gcd_tmod x y).trans HG.out)
      have m1 : (x.tmod y).natAbs < y.natAbs := by rw [Int.natAbs_tmod]; exact Nat.mod_lt _ (by omega)
      obtain ⟨m, hm⟩ : ∃ m, x.tmod y = m := ⟨_, rfl⟩
      rw [hm] at m1 HN
      have c5 : -1000000000000000000 ≤ m := by omega
      have c6 : m ≤ 1000000000000000000 := by omega
      go_wp2
      go_quiet (fail)
      go_wp2
      go_roundw
      case rel => exact ⟨y, m, rfl, rfl, ⟨c3, c4⟩, ⟨c5, c6⟩, HB.out.trans ((Drew.of _ _).below _), HN.out⟩
      case measure => simpa [intOf] using m1

/-- A number's pieces, taken out of its value. -/
theorem field_p (s : Bool) (A : Option Addr) (n c : Nat) (W : World) : (Instr.field 56 (.agg #[.bool s, .slice A n c]) 1).run Tryd.prog W = .ok (.slice A n c) W := by kernel_rfl

theorem gcd_step (x y : Nat) : Nat.gcd x y = Nat.gcd y (x % y) := by
  rw [Nat.gcd_comm x y, Nat.gcd_rec y x, Nat.gcd_comm]

theorem mag_le (z : Int) (n : Nat) (h : (canon z).size ≤ n) : (mag z).size ≤ n := by
  have h1 : (mag z).size ≤ (canon z).size := by
    show (mdig z).length ≤ (Lib.itoa z).length
    rcases itoa_cases z with ⟨_, h⟩ | ⟨_, h⟩ <;> rw [h] <;> simp
  omega

set_option maxRecDepth 100000 in
set_option maxHeartbeats 2000000 in
theorem gcd_any (a b : Int) (w : World) (ht : Pow10 w) (ha : (canon a).size ≤ 20000) (hb : (canon b).size ≤ 20000) :
    Calls Tryd.prog 28 #[.string (canon a), .string (canon b)] w fun e w' => e = .returned (.string (canon (Int.gcd a b))) ∧ Below w.heap.size w w' := by
  by_cases hq : (canon a).size ≤ 18 ∧ (canon b).size ≤ 18
  · exact gcd_quick a b w ht hq.1 hq.2
  · have hla := lim9_len_digits a 20000 ha
    have hlb := lim9_len_digits b 20000 hb
    have o1 := fun W => open_any a W (Nat.le_trans (mag_le a 20000 ha) (by omega))
    have o2 := fun W => open_any b W (Nat.le_trans (mag_le b 20000 hb) (by omega))
    have hgg : Int.gcd a b = Nat.gcd a.natAbs b.natAbs := rfl
    generalize decide (a < 0) = sa at *
    generalize decide (b < 0) = sb at *
    generalize a.natAbs = x0 at *
    generalize b.natAbs = y0 at *
    have HGG := Lib.hid hgg
    have O1 := Lib.hid o1
    have O2 := Lib.hid o2
    have HT := Lib.hid ht
    clear o1 o2 ht ha hb hgg
    have hfd := field_p
    by_cases h1 : (canon a).size ≤ 18
    · have q1 := fun W => quick_yes a 18 (by omega) (by omega) W
      have q2 := fun W => quick_no b 18 (by omega) W
      have Q1 := Lib.hid q1
      have Q2 := Lib.hid q2
      clear q1 q2 hq h1
      go_enter Tryd.func28, Tryd.ntmps28
      go_upto_region 8 with (first
        | (go_at_call_of 35 (Value.string (canon a)); refine (Q1.out _).mono ?_; rintro e w1 ⟨rfl, h3⟩; have H3 := Lib.hid h3; clear h3)
        | (go_at_call_of 35 (Value.string (canon b)); refine (Q2.out _).mono ?_; rintro e w2 ⟨rfl, rfl⟩))
      go_wp2_with (first
        | (go_at_call_of 36 (Value.string (canon a)); refine (O1.out _).mono ?_; rintro e w2 ⟨A1, c1, rfl, h3, h4⟩; have S1 := Lib.hid h3; have H4 := Lib.hid (H3.out.trans (h4.mono H3.out.size)); clear h3 h4)
        | (go_at_call_of 36 (Value.string (canon b)); refine (O2.out _).mono ?_; rintro e w3 ⟨A2, c2, rfl, h5, h6⟩; have S2 := Lib.hid h5; have H6 := Lib.hid (H4.out.trans (h6.mono H4.out.size)); have S3 := Lib.hid (S1.out.below h6); clear h5 h6))
      go_loopg [9, 10] y0 (fun gy xv yv wr => ∃ (x : Nat) (A : Option Addr) (c : Nat) (A' : Option Addr) (c' : Nat), xv = .slice A (lim9 x).length c ∧ yv = .slice A' (lim9 gy).length c' ∧ (lim9 x).length ≤ 20000 ∧ (lim9 gy).length ≤ 20000 ∧ Sl wr .u64 A c (lim9 x) ∧ Sl wr .u64 A' c' (lim9 gy) ∧ Below w.heap.size w wr ∧ Hid (Nat.gcd x gy = Nat.gcd x0 y0))
      case atStart => exact ⟨x0, A1, c1, A2, c2, rfl, rfl, hla, hlb, S3.out, S2.out, H6.out, rfl⟩
      case round =>
        clear S1 S2 S3 H4 H6
        obtain ⟨x, A, c, A', c', rfl, rfl, hx, hy, hsx, hsy, hb, HG⟩ := hrel
        have HB := Lib.hid hb
        have HX := Lib.hid hsx
        have HY := Lib.hid hsy
        clear hb hsx hsy
        by_cases h0 : gk = 0
        · subst h0
          have hg : Nat.gcd x0 y0 = x := by rw [← HG.out]; simp
          have HN : Hid (canon (x : Int) = canon (Int.gcd a b : Int)) := by
            rw [HGG.out, hg]
            rfl
          have hl0 : (lim9 0).length = 0 := rfl
          have hcl := close_any false A c x wr HX.out (by omega) (HT.out.below HB.out)
          rw [if_neg (by simp)] at hcl
          have HCL := Lib.hid hcl
          clear hg hcl
          go_wp2_with (go_at_call 38; refine HCL.out.mono ?_; rintro e w4 ⟨rfl, h7⟩; have H7 := Lib.hid (HB.out.trans (h7.mono HB.out.size)); clear h7)
          go_ret
          rw [← HN.out]
          exact ⟨rfl, H7.out⟩
        · have hp : 0 < (lim9 gk).length := by
            rcases Nat.eq_zero_or_pos (lim9 gk).length with h | h
            · have := (lim_len_zero 1000000000 (by omega) gk).1 h; omega
            · exact h
          have hdv := divide_any A A' c c' x gk wr HX.out HY.out hx hy (by omega)
          have HN := Lib.hid (gcd_step x gk ▸ HG.out : Nat.gcd gk (x % gk) = Nat.gcd x0 y0)
          have hm : x % gk < gk := Nat.mod_lt _ (by omega)
          have hml : (lim9 (x % gk)).length ≤ (lim9 gk).length := lim_len_mono 1000000000 (by omega) _ _ (Nat.le_of_lt hm)
          have HDV := Lib.hid hdv
          clear hdv
          go_wp2_with (go_at_call 47; refine HDV.out.mono ?_; rintro e w4 ⟨A3, c3, A4, c4, rfl, h7, h8, h9⟩; have S8 := Lib.hid h8; have H9 := Lib.hid h9; clear h7 h8 h9)
          go_roundg (x % gk)
          case measure => exact hm
          case rel => exact ⟨gk, A', c', A4, c4, rfl, rfl, hy, by omega, HY.out.below H9.out, S8.out, HB.out.trans (H9.out.mono HB.out.size), HN.out⟩
    · have q1 := fun W => quick_no a 18 (by omega) W
      have Q1 := Lib.hid q1
      clear q1 hq h1
      go_enter Tryd.func28, Tryd.ntmps28
      go_upto_region 8 with (go_at_call_of 35 (Value.string (canon a)); refine (Q1.out _).mono ?_; rintro e w1 ⟨rfl, rfl⟩)
      go_wp2_with (first
        | (go_at_call_of 36 (Value.string (canon a)); refine (O1.out _).mono ?_; rintro e w2 ⟨A1, c1, rfl, h3, h4⟩; have S1 := Lib.hid h3; have H4 := Lib.hid (h4); clear h3 h4)
        | (go_at_call_of 36 (Value.string (canon b)); refine (O2.out _).mono ?_; rintro e w3 ⟨A2, c2, rfl, h5, h6⟩; have S2 := Lib.hid h5; have H6 := Lib.hid (H4.out.trans (h6.mono H4.out.size)); have S3 := Lib.hid (S1.out.below h6); clear h5 h6))
      go_loopg [9, 10] y0 (fun gy xv yv wr => ∃ (x : Nat) (A : Option Addr) (c : Nat) (A' : Option Addr) (c' : Nat), xv = .slice A (lim9 x).length c ∧ yv = .slice A' (lim9 gy).length c' ∧ (lim9 x).length ≤ 20000 ∧ (lim9 gy).length ≤ 20000 ∧ Sl wr .u64 A c (lim9 x) ∧ Sl wr .u64 A' c' (lim9 gy) ∧ Below w.heap.size w wr ∧ Hid (Nat.gcd x gy = Nat.gcd x0 y0))
      case atStart => exact ⟨x0, A1, c1, A2, c2, rfl, rfl, hla, hlb, S3.out, S2.out, H6.out, rfl⟩
      case round =>
        clear S1 S2 S3 H4 H6
        obtain ⟨x, A, c, A', c', rfl, rfl, hx, hy, hsx, hsy, hb, HG⟩ := hrel
        have HB := Lib.hid hb
        have HX := Lib.hid hsx
        have HY := Lib.hid hsy
        clear hb hsx hsy
        by_cases h0 : gk = 0
        · subst h0
          have hg : Nat.gcd x0 y0 = x := by rw [← HG.out]; simp
          have HN : Hid (canon (x : Int) = canon (Int.gcd a b : Int)) := by
            rw [HGG.out, hg]
            rfl
          have hl0 : (lim9 0).length = 0 := rfl
          have hcl := close_any false A c x wr HX.out (by omega) (HT.out.below HB.out)
          rw [if_neg (by simp)] at hcl
          have HCL := Lib.hid hcl
          clear hg hcl
          go_wp2_with (go_at_call 38; refine HCL.out.mono ?_; rintro e w4 ⟨rfl, h7⟩; have H7 := Lib.hid (HB.out.trans (h7.mono HB.out.size)); clear h7)
          go_ret
          rw [← HN.out]
          exact ⟨rfl, H7.out⟩
        · have hp : 0 < (lim9 gk).length := by
            rcases Nat.eq_zero_or_pos (lim9 gk).length with h | h
            · have := (lim_len_zero 1000000000 (by omega) gk).1 h; omega
            · exact h
          have hdv := divide_any A A' c c' x gk wr HX.out HY.out hx hy (by omega)
          have HN := Lib.hid (gcd_step x gk ▸ HG.out : Nat.gcd gk (x % gk) = Nat.gcd x0 y0)
          have hm : x % gk < gk := Nat.mod_lt _ (by omega)
          have hml : (lim9 (x % gk)).length ≤ (lim9 gk).length := lim_len_mono 1000000000 (by omega) _ _ (Nat.le_of_lt hm)
          have HDV := Lib.hid hdv
          clear hdv
          go_wp2_with (go_at_call 47; refine HDV.out.mono ?_; rintro e w4 ⟨A3, c3, A4, c4, rfl, h7, h8, h9⟩; have S8 := Lib.hid h8; have H9 := Lib.hid h9; clear h7 h8 h9)
          go_roundg (x % gk)
          case measure => exact hm
          case rel => exact ⟨gk, A', c', A4, c4, rfl, rfl, hy, by omega, HY.out.below H9.out, S8.out, HB.out.trans (H9.out.mono HB.out.size), HN.out⟩

end Go.Proofs.YtmkeigfckfkifaaDoor
