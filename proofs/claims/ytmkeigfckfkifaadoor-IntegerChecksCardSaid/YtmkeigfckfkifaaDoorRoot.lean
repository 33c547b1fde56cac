/- The walk of integer.Root: the root of an integer. -/
import Derived.Test.YtmkeigfckfkifaaDoorGcd
namespace Go.Proofs.YtmkeigfckfkifaaDoor
open Go.RowKit

/-- r is the root of n. -/
def IsRoot (n r : Nat) : Prop := r * r ≤ n ∧ n < (r + 1) * (r + 1)

theorem isRoot_unique {n r s : Nat} (h : IsRoot n r) (k : IsRoot n s) : r = s := by
  obtain ⟨h1, h2⟩ := h
  obtain ⟨k1, k2⟩ := k
  rcases Nat.lt_trichotomy r s with h | h | h
  · have := Nat.mul_le_mul (show r + 1 ≤ s from h) (show r + 1 ≤ s from h); omega
  · exact h
  · have := Nat.mul_le_mul (show s + 1 ≤ r from h) (show s + 1 ≤ r from h); omega

/-- A step of Newton's from above stays above. -/
theorem newton_above (n x : Nat) (hx : 0 < x) : n < ((x + n / x) / 2 + 1) * ((x + n / x) / 2 + 1) := by
  have h1 : n < x * (n / x + 1) := by
    have := Nat.lt_mul_div_succ n hx
    exact this
  generalize n / x = q at *
  obtain ⟨s, hs⟩ : ∃ s, (x + q) / 2 + 1 = s := ⟨_, rfl⟩
  rw [hs]
  have h2 : x + (q + 1) ≤ 2 * s := by omega
  have h3 : (x + (q + 1)) * (x + (q + 1)) ≤ (2 * s) * (2 * s) := Nat.mul_le_mul h2 h2
  have h4 : 4 * (x * (q + 1)) ≤ (x + (q + 1)) * (x + (q + 1)) := by
    generalize q + 1 = t
    rcases Nat.le_total x t with h | h
    · obtain ⟨d, rfl⟩ := Nat.exists_eq_add_of_le h
      have := Nat.zero_le (d * d)
      grind
    · obtain ⟨d, rfl⟩ := Nat.exists_eq_add_of_le h
      have := Nat.zero_le (d * d)
      grind
  have h5 : (2 * s) * (2 * s) = 4 * (s * s) := by grind
  omega

theorem newton_end (n x : Nat) (h : x ≤ (x + n / x) / 2) : x * x ≤ n := by
  have h1 : x ≤ n / x := by omega
  have h2 : n / x * x ≤ n := Nat.div_mul_le_self n x
  exact Nat.le_trans (Nat.mul_le_mul_right x h1) h2

theorem newton_pos (n x : Nat) (hn : 0 < n) (hx : 0 < x) : 0 < (x + n / x) / 2 := by
  rcases Nat.lt_or_ge x 2 with h | h
  · obtain rfl : x = 1 := by omega
    rw [Nat.div_one]; omega
  · generalize n / x = q
    omega

/-- A slice of the call's own, made whole. -/
theorem Own.madeN {base : Nat} {k : IntKind} {c : Nat} (w : World) (e : TypeId) (hb : base ≤ w.heap.size) (hm : c ≤ maxLen) : Own (w.alloc (.cells (zrow k c) e)) base e k (some ⟨w.heap.size, 0, none⟩) c c (List.replicate c 0) :=
  ⟨by simp, by simp, .inr ⟨w.heap.size, c, zrow k c, rfl, hb, heap_alloc_new w _, Nat.le_refl _, hm, by rw [zrow_eq]; simp, by rw [zrow_eq]; simp⟩⟩

theorem lim9_pow (k : Nat) : List.replicate k 0 ++ [1] = lim9 (1000000000 ^ k) := by
  rw [← trim_eq9 (List.replicate k 0 ++ [1]) (1000000000 ^ k) ((Digs.zeros (by omega) k).snoc (by omega) (by omega)) (by rw [valB_snoc, valB_zeros]; simp)]
  exact (trimL_snoc_ne _ _ (by omega)).symm

theorem lim9_pow_len (k : Nat) : (lim9 (1000000000 ^ k)).length = k + 1 := by rw [← lim9_pow]; simp

theorem sum_len (a b M : Nat) (ha : (lim9 a).length ≤ M) (hb : (lim9 b).length ≤ M) : (lim9 (a + b)).length ≤ M + 1 := by
  have h1 : a < 1000000000 ^ (lim9 a).length := lim_lt_pow 1000000000 (by omega) a
  have h2 : b < 1000000000 ^ (lim9 b).length := lim_lt_pow 1000000000 (by omega) b
  have h3 : (1000000000 : Nat) ^ (lim9 a).length ≤ 1000000000 ^ M := Nat.pow_le_pow_right (by omega) ha
  have h4 : (1000000000 : Nat) ^ (lim9 b).length ≤ 1000000000 ^ M := Nat.pow_le_pow_right (by omega) hb
  refine lim_len_le 1000000000 (by omega) _ _ ?_
  rw [Nat.pow_succ]
  generalize (1000000000 : Nat) ^ M = s at *
  omega

theorem lim9_two : lim9 2 = [2] := lim9_one 2 (by omega) (by omega)

theorem root_neg (z : Int) (w : World) (hz : z < 0) :
    Calls Tryd.prog 22 #[.string (canon z)] w fun e w' => e = .returned (.tuple #[.string ⟨#[]⟩, .int .i64 3]) ∧ Below w.heap.size w w' := by
  have hs := fun W => sign_any z W
  rw [Int.sign_eq_neg_one_of_neg hz] at hs
  have HS := Lib.hid hs
  clear hs hz
  go_enter Tryd.func22, Tryd.ntmps22
  go_wp2_with (go_at_call 21; refine (HS.out _).mono ?_; rintro e w' ⟨rfl, rfl⟩)
  go_ret2
  exact ⟨rfl, Below.refl _ _⟩

theorem root_zero (w : World) :
    Calls Tryd.prog 22 #[.string (canon 0)] w fun e w' => e = .returned (.tuple #[.string (canon 0), .int .i64 0]) ∧ Below w.heap.size w w' := by
  have hs := fun W => sign_any 0 W
  rw [show (0 : Int).sign = 0 from rfl] at hs
  have ho := fun W => open_any 0 W (Nat.le_trans (mag_le 0 1 (by rw [canon_zero]; decide)) (by omega))
  rw [show (0 : Int).natAbs = 0 from rfl, show (lim9 0).length = 0 from rfl] at ho
  have HC : Hid (canon 0 = ⟨#[48]⟩) := canon_zero
  generalize canon 0 = s at *
  have HS := Lib.hid hs
  have HO := Lib.hid ho
  have hfd := field_p
  clear hs ho
  go_enter Tryd.func22, Tryd.ntmps22
  go_wp2_with (first
    | (go_at_call 21; refine (HS.out _).mono ?_; rintro e w' ⟨rfl, rfl⟩)
    | (go_at_call 36; refine (HO.out _).mono ?_; rintro e w2 ⟨A1, c1, rfl, h3, h4⟩; have H4 := Lib.hid h4; clear h3 h4))
  go_ret2
  exact ⟨by rw [HC.out]; rfl, H4.out⟩

set_option maxRecDepth 100000 in
set_option maxHeartbeats 4000000 in
theorem root_pos (n : Nat) (w : World) (hn : 0 < n) (ht : Pow10 w) (hsz : (canon (n : Int)).size ≤ 10000) :
    Calls Tryd.prog 22 #[.string (canon (n : Int))] w fun e w' => (∃ r, IsRoot n r ∧ e = .returned (.tuple #[.string (canon (r : Int)), .int .i64 0])) ∧ Below w.heap.size w w' := by
  have hs := fun W => sign_any (n : Int) W
  rw [Int.sign_eq_one_of_pos (by omega)] at hs
  have hln := lim9_len_digits (n : Int) 10000 hsz
  have ho := fun W => open_any (n : Int) W (Nat.le_trans (mag_le (n : Int) 10000 hsz) (by omega))
  rw [Int.natAbs_natCast] at ho hln
  have hd0 : decide ((n : Int) < 0) = false := by simp
  rw [hd0] at ho
  have hlp : 0 < (lim9 n).length := by
    rcases Nat.eq_zero_or_pos (lim9 n).length with h | h
    · have := (lim_len_zero 1000000000 (by omega) n).1 h; omega
    · exact h
  obtain ⟨K, hK⟩ : ∃ K, ((lim9 n).length + 1) / 2 = K := ⟨_, rfl⟩
  have eK : ((lim9 n).length + 1 : Int) / 2 = (K : Int) := by omega
  have hK1 : K ≤ 10000 := by omega
  have hK2 : (lim9 n).length ≤ 2 * K := by omega
  have hmk := run_mkn Elem64 K (by omega) (K : Int) rfl
  have hn0 : (((lim9 n).length : Int) == 0) = false := beq_eq_false_iff_ne.2 (by omega)
  have hn2 : n < (1000000000 ^ K + 1) * (1000000000 ^ K + 1) := by
    have h1 : n < 1000000000 ^ (lim9 n).length := lim_lt_pow 1000000000 (by omega) n
    have h2 : (1000000000 : Nat) ^ (lim9 n).length ≤ 1000000000 ^ (2 * K) := Nat.pow_le_pow_right (by omega) hK2
    have h3 : (1000000000 : Nat) ^ (2 * K) = 1000000000 ^ K * 1000000000 ^ K := by rw [Nat.two_mul, Nat.pow_add]
    generalize (1000000000 : Nat) ^ K = s at *
    have h4 : s * s ≤ (s + 1) * (s + 1) := Nat.mul_le_mul (by omega) (by omega)
    omega
  have hxl := lim9_pow_len K
  have hxp : 0 < 1000000000 ^ K := Nat.pow_pos (by omega)
  have hLP := lim9_pow K
  generalize 1000000000 ^ K = x0 at *
  have hsum : ∀ x q, x ≤ x0 → q ≤ n → (lim9 (x + q)).length ≤ 20000 := fun x q hx hq => by
    have h1 : (lim9 x).length ≤ 15000 := Nat.le_trans (lim_len_mono 1000000000 (by omega) x x0 hx) (show (lim9 x0).length ≤ 15000 by omega)
    have h2 : (lim9 q).length ≤ 15000 := Nat.le_trans (lim_len_mono 1000000000 (by omega) q n hq) (show (lim9 n).length ≤ 15000 by omega)
    have := sum_len x q 15000 h1 h2
    omega
  have HS := Lib.hid hs
  have HO := Lib.hid ho
  have HN2 := Lib.hid hn2
  have HXL := Lib.hid hxl
  have HSUM := Lib.hid hsum
  have HT := Lib.hid ht
  have HLP := Lib.hid hLP
  have hfd := field_p
  clear hs ho hn2 hxl hsum ht hLP hd0 hsz
  go_enter Tryd.func22, Tryd.ntmps22
  go_wp2_with (first
    | (go_at_call 21; refine (HS.out _).mono ?_; rintro e w' ⟨rfl, rfl⟩)
    | (go_at_call 36; refine (HO.out _).mono ?_; rintro e w2 ⟨A1, c1, rfl, h3, h4⟩; have S1 := Lib.hid h3; have H4 := Lib.hid h4; clear h3 h4)
    | (at_builtin; refine push64 rfl (.tmp 23) (.tmp 24) rfl w2.heap.size (some ⟨w2.heap.size, 0, none⟩) K K (List.replicate K 0) (w2.alloc (.cells (zrow .u64 K) 72)) rfl (Own.madeN w2 _ (Nat.le_refl _) (by simp only [maxLen]; omega)) 1 (by simp [Act.eval]) (by omega) (by simp) ?_; intro A' c' w' hown' hg'; have HO' := Lib.hid hown'; have HG' := Lib.hid hg'; clear hown' hg'))
  have sx : Sl w' .u64 A' c' (lim9 x0) := by rw [← HLP.out]; exact HO'.out.sl
  have bx : Below w.heap.size w w' := (Own.madeN w2 _ (Nat.le_refl _) (by simp only [maxLen]; omega) : Own (w2.alloc (.cells (zrow .u64 K) 72)) w2.heap.size 72 .u64 _ K K _).grownBelow HG'.out (H4.out.alloc H4.out.size _) H4.out.size (by simp; exact Nat.le_succ_of_le H4.out.size)
  have s1 : Sl w' .u64 A1 c1 (lim9 n) := S1.out.below ((Own.madeN w2 _ (Nat.le_refl _) (by simp only [maxLen]; omega) : Own (w2.alloc (.cells (zrow .u64 K) 72)) w2.heap.size 72 .u64 _ K K _).grownBelow HG'.out ((Below.refl _ _).alloc (Nat.le_refl _) _) (Nat.le_refl _) (by simp))
  have hK1l : (lim9 x0).length = K + 1 := HXL.out
  have SX := Lib.hid sx
  have BX := Lib.hid bx
  have S1' := Lib.hid s1
  clear sx bx s1 hmk eK hn0 S1 H4 HO' HG' HLP
  rw [← hK1l]
  have hx15 : (lim9 x0).length ≤ 15000 := by omega
  clear hK1l hK hK1 hK2
  go_loopg [5] x0 (fun gx xv wr => ∃ (A : Option Addr) (c : Nat), xv = .slice A (lim9 gx).length c ∧ 0 < gx ∧ gx ≤ x0 ∧ Sl wr .u64 A c (lim9 gx) ∧ Sl wr .u64 A1 c1 (lim9 n) ∧ Below w.heap.size w wr ∧ Hid (n < (gx + 1) * (gx + 1)))
  case atStart => exact ⟨A', c', rfl, hxp, Nat.le_refl _, SX.out, S1'.out, BX.out, HN2.out⟩
  case round =>
    clear SX BX S1' HN2
    obtain ⟨A, c, rfl, hgp, hgx, hsx, hsn, hb, HG⟩ := hrel
    have hlg : (lim9 gk).length ≤ 15000 := Nat.le_trans (lim_len_mono 1000000000 (by omega) gk x0 hgx) hx15
    have hd1 := divide_any A1 A c1 c n gk wr hsn hsx (by omega) (by omega) hgp
    have hql : (lim9 (n / gk)).length ≤ 10000 := Nat.le_trans (lim_len_mono 1000000000 (by omega) _ _ (Nat.div_le_self n gk)) hln
    have hsl := HSUM.out gk (n / gk) hgx (Nat.div_le_self n gk)
    have ha := newton_above n gk hgp
    have he := newton_end n gk
    have hpz := newton_pos n gk hn hgp
    obtain ⟨q, hq⟩ : ∃ q, n / gk = q := ⟨_, rfl⟩
    rw [hq] at hd1 hql hsl ha he hpz
    obtain ⟨y, hy⟩ : ∃ y, (gk + q) / 2 = y := ⟨_, rfl⟩
    rw [hy] at ha he hpz
    have hpl := fun W A3 c3 (h1 : Sl W .u64 A c (lim9 gk)) (h2 : Sl W .u64 A3 c3 (lim9 q)) => plus_any A A3 c c3 gk q W h1 h2 (by omega) (by omega)
    have hd2 := fun W A3 c3 (h1 : Sl W .u64 A3 c3 (lim9 (gk + q))) => divide_any A3 (some ⟨W.heap.size, 0, none⟩) c3 1 (gk + q) 2 (W.alloc (.cells #[.int .u64 2] 72)) (h1.below ((Below.refl _ _).alloc (Nat.le_refl _) _))
      (by rw [lim9_two]; exact sl_one (by rw [Lib.cell_of_heap (heap_alloc_new W _)]; rfl) (by simp)) hsl (by rw [lim9_two]; simp) (by omega)
    rw [hy, show (lim9 2).length = 1 by rw [lim9_two]; rfl] at hd2
    have hyl : (lim9 y).length ≤ 20000 := Nat.le_trans (lim_len_mono 1000000000 (by omega) y (gk + q) (by omega)) hsl
    have HB := Lib.hid hb
    have HX := Lib.hid hsx
    have HNN := Lib.hid hsn
    have HD1 := Lib.hid hd1
    have HPL := Lib.hid hpl
    have HD2 := Lib.hid hd2
    have HA := Lib.hid ha
    have HE := Lib.hid he
    clear hd1 hpl hd2 ha he hb hsx hsn hq hy
    by_cases hlt : y < gk
    · have ho2 := fun W A5 c5 (h1 : Sl W .u64 A5 c5 (lim9 y)) (h2 : Sl W .u64 A c (lim9 gk)) => order_any A5 A c5 c y gk W h1 h2 (by omega) (by omega)
      rw [cmpN_lt hlt] at ho2
      have HO2 := Lib.hid ho2
      clear ho2
      go_wp2_with (first
        | (go_at_call_of 47 (Value.slice A1 (lim9 n).length c1); refine HD1.out.mono ?_; rintro e w4 ⟨A3, c3, A4, c4, rfl, h7, h8, h9⟩; have S3 := Lib.hid h7; have H9 := Lib.hid h9; clear h7 h8 h9)
        | (go_at_call 48; refine (HPL.out _ _ _ (HX.out.below H9.out) S3.out).mono ?_; rintro e w5 ⟨A5, c5, rfl, h10, h11⟩; have S5 := Lib.hid h10; have H11 := Lib.hid (H9.out.trans (h11.mono H9.out.size)); clear h10 h11)
        | (go_at_call 47; refine (HD2.out _ _ _ S5.out).mono ?_; rintro e w6 ⟨A7, c7, A8, c8, rfl, h12, h13, h14⟩; have S7 := Lib.hid h12; have H14 := Lib.hid ((H11.out.alloc H11.out.size _).trans (h14.mono (by simp; exact Nat.le_succ_of_le H11.out.size))); clear h12 h13 h14)
        | (go_at_call 49; refine (HO2.out _ _ _ S7.out (HX.out.below H14.out)).mono ?_; rintro e w7 ⟨rfl, nd, rfl⟩))
      go_roundg y
      case measure => exact hlt
      case rel => exact ⟨A7, c7, rfl, hpz, by omega, S7.out.drewN _, (HNN.out.below H14.out).drewN _, (HB.out.trans (H14.out.mono HB.out.size)).trans ((Drew.of _ _).below _), HA.out⟩
    · obtain ⟨r0, hr0⟩ : ∃ z, cmpN y gk = z := ⟨_, rfl⟩
      have hr1 : 0 ≤ r0 := by rw [← hr0]; unfold cmpN; rw [if_neg hlt]; split <;> omega
      have ho2 := fun W A5 c5 (h1 : Sl W .u64 A5 c5 (lim9 y)) (h2 : Sl W .u64 A c (lim9 gk)) => order_any A5 A c5 c y gk W h1 h2 (by omega) (by omega)
      rw [hr0] at ho2
      have hcl := fun W (h1 : Sl W .u64 A c (lim9 gk)) (h2 : Below w.heap.size w W) => close_any false A c gk W h1 (by omega) (HT.out.below h2)
      rw [if_neg (by simp)] at hcl
      have HRT : Hid (IsRoot n gk) := ⟨HE.out (by omega), HG.out⟩
      have HO2 := Lib.hid ho2
      have HCL := Lib.hid hcl
      clear ho2 hcl hr0 hlt
      go_wp2_with (first
        | (go_at_call_of 47 (Value.slice A1 (lim9 n).length c1); refine HD1.out.mono ?_; rintro e w4 ⟨A3, c3, A4, c4, rfl, h7, h8, h9⟩; have S3 := Lib.hid h7; have H9 := Lib.hid h9; clear h7 h8 h9)
        | (go_at_call 48; refine (HPL.out _ _ _ (HX.out.below H9.out) S3.out).mono ?_; rintro e w5 ⟨A5, c5, rfl, h10, h11⟩; have S5 := Lib.hid h10; have H11 := Lib.hid (H9.out.trans (h11.mono H9.out.size)); clear h10 h11)
        | (go_at_call 47; refine (HD2.out _ _ _ S5.out).mono ?_; rintro e w6 ⟨A7, c7, A8, c8, rfl, h12, h13, h14⟩; have S7 := Lib.hid h12; have H14 := Lib.hid ((H11.out.alloc H11.out.size _).trans (h14.mono (by simp; exact Nat.le_succ_of_le H11.out.size))); clear h12 h13 h14)
        | (go_at_call 49; refine (HO2.out _ _ _ S7.out (HX.out.below H14.out)).mono ?_; rintro e w7 ⟨rfl, nd, rfl⟩)
        | (go_at_call 38; refine (HCL.out _ ((HX.out.below H14.out).drewN _) ((HB.out.trans (H14.out.mono HB.out.size)).trans ((Drew.of _ _).below _))).mono ?_; rintro e w8 ⟨rfl, h15⟩; have H15 := Lib.hid h15; clear h15))
      go_ret2
      have hb8 := (HB.out.trans (H14.out.mono HB.out.size)).trans ((Drew.of _ nd).below w.heap.size)
      exact ⟨⟨gk, HRT.out, rfl⟩, hb8.trans (H15.out.mono hb8.size)⟩

end Go.Proofs.YtmkeigfckfkifaaDoor
