/- The walk of klippelaw01.Make: a description becomes an integer. -/
import Derived.Test.YtmkeigfckfkifaaDoorRefH
import Derived.Laws.BytesArg
namespace Go.Proofs.YtmkeigfckfkifaaDoor
open Go.RowKit

theorem trimB_val (l : List UInt8) : dval (Lib.trimLeftB l 48) = dval l ∧ (Lib.trimLeftB l 48 = [] ∨ ∃ c m, Lib.trimLeftB l 48 = c :: m ∧ c ≠ 48) ∧ (Lib.trimLeftB l 48).length ≤ l.length ∧ (AllDig l → AllDig (Lib.trimLeftB l 48)) := by
  induction l with
  | nil => exact ⟨rfl, .inl rfl, Nat.le_refl _, fun h => h⟩
  | cons c l ih =>
    rw [trimLeftB_cons]
    by_cases h : c = 48
    · rw [if_pos h]
      refine ⟨?_, ih.2.1, Nat.le_succ_of_le ih.2.2.1, fun hd => ih.2.2.2 hd.tail⟩
      rw [ih.1, dval_cons, h]
      simp
    · rw [if_neg h]
      exact ⟨rfl, .inr ⟨c, l, rfl, h⟩, Nat.le_refl _, fun hd => hd⟩

/-- A text of digits is read as its value. -/
theorem parse_digits (l : List UInt8) (hd : AllDig l) (hne : l ≠ []) (hl : l.length ≤ 200) : parseSpec l = (Lib.itoa (dval l : Int), 0) := by
  have hs : parseSpec l = parseTail false l := by
    cases l with
    | nil => exact absurd rfl hne
    | cons c m =>
      have hc := hd.head
      have h1 : c ≠ 45 := by rintro rfl; simp at hc
      have h2 : c ≠ 43 := by rintro rfl; simp at hc
      simp only [parseSpec, if_neg h1, if_neg h2]
  obtain ⟨h1, h2, h3, h4⟩ := trimB_val l
  rw [hs]
  rcases h2 with h2 | ⟨c, m, h2, hc⟩
  · rw [tail_zero false l hd hne h2, ← h1, h2]
    rw [show (dval [] : Nat) = 0 from rfl, itoa_of_nat, decDigits_lt 0 (by omega)]
    rfl
  · rw [tail_good false l _ hd hne rfl (by rw [h2]; simp) (by omega)]
    have h5 := h4 hd
    rw [h2] at h5
    have h6 := eq_dec h5 (fun e => hc (UInt8.toNat_inj.1 e))
    rw [if_neg (by simp), itoa_of_nat, ← h1, h2, ← h6]

theorem ElemU8 : IntElem Tryd.prog 28 5 .u8 1 := ⟨Tryd.underlying28, by kernel_rfl, by omega⟩

/-- 'append(out, x)' at a slice of bytes of the call's own. -/
theorem pushB {ops : Array Oper} {rest : List Oper} {o : Oper} {a : Act} {Q : Exit → Act → World → Prop} (hgd : o.guard = none) (s x : Operand)
    (ho : o.op = .call { callee := .builtin .append, args := #[s, x], argTypes := #[28, 28] })
    (base : Nat) (A : Option Addr) (n c : Nat) (l : List Int) (W : World) (hs : a.eval s = .slice A n c) (hown : Own W base 5 .u8 A n c l) (y : Int)
    (hx : a.eval x = .slice (some ⟨W.heap.size, 0, none⟩) 1 1) (h63 : n ≤ 1000000) (hbase : base ≤ W.heap.size)
    (h : ∀ A' c' w', Own w' base 5 .u8 A' (n + 1) c' (l ++ [y]) → W.grownBy w' (Value.slice A n c).ownBlock → wpList Tryd.prog ops Q rest (a.put o.dst (.slice A' (n + 1) c')) w') :
    wpList Tryd.prog ops Q (o :: rest) a (W.alloc (.cells #[.int .u8 y] 5)) :=
  wpList_push ElemU8 hgd s x ho base A n c l W hs hown y hx h63 hbase h

/-- The digits so far, as bytes. -/
def Bytes10 (l : List Int) : Prop := ∀ x ∈ l, 48 ≤ x ∧ x ≤ 57

theorem strOf_facts (l : List Int) (h : Bytes10 l) : (strOfNums l).data.toList.length = l.length ∧ AllDig (strOfNums l).data.toList := by
  have e : (strOfNums l).data.toList = l.map fun n => UInt8.ofNat n.toNat := rfl
  refine ⟨by rw [e]; simp, ?_⟩
  rw [e]
  intro c hc
  obtain ⟨x, hx, rfl⟩ := List.mem_map.1 hc
  have := h x hx
  have e2 : (UInt8.ofNat x.toNat).toNat = x.toNat := by
    simp
    omega
  rw [e2]
  omega

/-- The text that Make reads, and what it reads. -/
theorem made_text (l : List Int) (h : Bytes10 l) (N : Nat) (hN : N ≤ 200) (hl : l.length ≤ N) :
    ∃ (v : Nat) (r : List UInt8) (k : Int), parseSpec (strOfNums l).data.toList = (r, k) ∧ v < 10 ^ N ∧ ((k = 0 ∧ r = Lib.itoa (v : Int)) ∨ (k = 13 ∧ v = 0)) := by
  obtain ⟨h1, h2⟩ := strOf_facts l h
  have hp : (0 : Nat) < 10 ^ N := Nat.pow_pos (by omega)
  cases hs : (strOfNums l).data.toList with
  | nil => exact ⟨0, [], 13, rfl, hp, .inr ⟨rfl, rfl⟩⟩
  | cons c m =>
    rw [hs] at h1 h2
    have h3 := parse_digits (c :: m) h2 (by simp) (by omega)
    have h4 := dval_lt h2
    have h5 : (10 : Nat) ^ (c :: m).length ≤ 10 ^ N := Nat.pow_le_pow_right (by omega) (by omega)
    exact ⟨dval (c :: m), _, 0, h3, by omega, .inl ⟨rfl, rfl⟩⟩

theorem canon_size_lt (z : Int) (N : Nat) (h : z.natAbs < 10 ^ N) (h0 : 0 < N) : (canon z).size ≤ N + 1 := by
  have h1 : (mdig z).length ≤ N := decDigits_len_le N z.natAbs h h0
  show (Lib.itoa z).length ≤ N + 1
  rcases itoa_cases z with ⟨_, e⟩ | ⟨_, e⟩
  · rw [e]; omega
  · rw [e, List.length_cons]; omega

set_option maxRecDepth 100000 in
set_option maxHeartbeats 4000000 in
theorem make_any (mn : Bool) (A : Option Addr) (cap : Nat) (ds : List Int) (N : Int) (w : World) (h : Sl w .u8 A cap ds) (hb : ∀ x ∈ ds, 0 ≤ x ∧ x < 256) (hN0 : 0 < N) (hN : N ≤ 200) :
    Calls Tryd.prog 12 #[.agg #[.bool mn, .slice A ds.length cap], .int .i64 N] w fun e w' => (∃ z : Int, z.natAbs < 10 ^ N.toNat ∧ e = .returned (.string (canon z))) ∧ Below w.heap.size w w' := by
  obtain ⟨n, rfl⟩ := Int.eq_ofNat_of_zero_le (Int.le_of_lt hN0)
  rw [Int.toNat_natCast]
  have hcm := h.capMax
  have hcp := h.cap
  unfold maxLen at hcm
  have HBD := Lib.hid hb
  clear hb
  go_enter Tryd.func12, Tryd.ntmps12
  go_wp2
  have hown0 : Own (w.alloc (.cells #[.bool mn, .slice A ds.length cap] 30)) (w.heap.size + 1) 5 .u8 none 0 0 [] := Own.nil_ _ _ _ _
  have hblk0 : (w.alloc (.cells #[.bool mn, .slice A ds.length cap] 30)).heap[w.heap.size]? = some (.cells #[.bool mn, .slice A ds.length cap] 30 (0, 0)) := heap_alloc_new w _
  have hbel0 : Below w.heap.size w (w.alloc (.cells #[.bool mn, .slice A ds.length cap] 30)) := (Below.refl _ _).alloc (Nat.le_refl _) _
  go_loopw [5, 6] (fun sv iv wr => ∃ (k : Nat) (l : List Int) (Ao : Option Addr) (co : Nat), k ≤ ds.length ∧ k ≤ n ∧ iv = .int .i64 k ∧ sv = .slice Ao k co ∧ Own wr (w.heap.size + 1) 5 .u8 Ao k co l ∧ Hid (Bytes10 l) ∧
      wr.heap[w.heap.size]? = some (.cells #[.bool mn, .slice A ds.length cap] 30 (0, 0)) ∧ Below w.heap.size w wr) (fun _ iv _ => n - (intOf iv).toNat)
  case atStart => exact ⟨0, [], none, 0, Nat.zero_le _, Nat.zero_le _, rfl, rfl, hown0, fun x hx => by simp at hx, hblk0, hbel0⟩
  case round =>
    clear hown0 hblk0 hbel0
    obtain ⟨k, l, Ao, co, hk, hkn, rfl, rfl, hown, HL, hblk, hbel⟩ := hrel
    have hlt := (Array.getElem?_eq_some_iff.1 hblk).1
    have cM : wr.cell? ⟨w.heap.size, 0, none⟩ = some (.bool mn) := by rw [Lib.cell_of_heap hblk]; rfl
    have cD : wr.cell? ⟨w.heap.size, 1, none⟩ = some (.slice A ds.length cap) := by rw [Lib.cell_of_heap hblk]; rfl
    have HO := Lib.hid hown
    have HK := Lib.hid hblk
    have HB := Lib.hid hbel
    clear hown hblk hbel
    by_cases h1 : k < ds.length
    · by_cases h2 : k < n
      · have hx1 := h.below HB.out
        obtain ⟨bx, ox, rfl, hbx, hcx⟩ := hx1.at_ (by omega)
        have gx := hcx k h1
        have hbd := HBD.out (ds[k]) (List.getElem_mem h1)
        rw [List.getElem?_eq_getElem h1, Option.getD_some] at gx
        generalize ds[k] = x at *
        have x0 := hbd.1
        have x1 := hbd.2
        have HL2 : Hid (Bytes10 (l ++ [48 + x % 10])) := fun y hy => by
          rcases List.mem_append.1 hy with hy | hy
          · exact HL.out y hy
          · rw [List.mem_singleton.1 hy]; omega
        have r0 : 0 ≤ x % 10 := by omega
        have r1 : x % 10 < 10 := by omega
        clear hcx hx1 h hbd
        go_wp2_with (at_builtin; refine pushB rfl (.tmp 21) (.tmp 29) rfl (w.heap.size + 1) Ao k co l wr rfl HO.out (48 + x % 10) rfl (by omega) hlt ?_; intro A' c' w' hown' hg'; have HO' := Lib.hid hown'; have HG' := Lib.hid hg'; clear hown' hg')
        go_roundw
        case rel =>
          refine ⟨k + 1, _, A', c', by omega, by omega, by go_num, rfl, HO'.out, HL2.out, ?_, ?_⟩
          · refine (HG'.out.block _ hlt (fun e => ?_)).trans HK.out
            have := HO.out.2.lt _ e.symm
            omega
          · exact HO.out.grownBelow HG'.out HB.out (by omega) (by omega)
        case measure => simp [intOf]; omega
      · have kc : (convert 28 9 (.slice Ao k co)).run Tryd.prog wr = .ok (.string (strOfNums l)) wr := by
          have hl := HO.out.len
          rcases HO.out.form with ⟨rfl, rfl, rfl⟩ | ⟨g, cur, rfl, _⟩
          · have : l = [] := List.length_eq_zero_iff.1 hl
            subst this
            exact run_convert_bytes_nil wr 28 5 Tryd.underlying28 Tryd.underlying5 0 0 9 Tryd.underlying9
          · refine run_convert_bytes_arg wr 28 5 Tryd.underlying28 Tryd.underlying5 g 0 k co l hl (fun i hi => ?_) 9 Tryd.underlying9
            obtain ⟨b, o, e, _, hc⟩ := HO.out.sl.at_ (by omega)
            injection e with e
            injection e with e1 e2
            subst e1 e2
            have := hc i (by omega)
            rw [List.getElem?_eq_getElem (by omega), Option.getD_some] at this
            rw [this, List.getD, List.getElem?_eq_getElem (by omega)]
            rfl
        have hsl : (strOfNums l).size ≤ 1000000 := by
          have := (strOf_facts l HL.out).1
          rw [Lib.size_eq, this, HO.out.len]; omega
        obtain ⟨v, r, ke, hps, hv, hca⟩ := made_text l HL.out n (by omega) (by rw [HO.out.len]; omega)
        have hpar := fun W => parseR_any (strOfNums l) W hsl
        rw [hps] at hpar
        have hvn : ((v : Int)).natAbs < 10 ^ n := by simpa using hv
        have hng := fun W => negR_nat v W (by have := canon_size_lt (v : Int) n hvn (by omega); omega)
        have hvm : ((-(v : Int))).natAbs < 10 ^ n := by rw [Int.natAbs_neg]; exact hvn
        have HNG := Lib.hid hng
        have HV := Lib.hid hvn
        have HVM := Lib.hid hvm
        clear hps hng hv hvn hvm h
        rcases hca with ⟨rfl, rfl⟩ | ⟨rfl, rfl⟩
        · have HPAR : Hid (∀ W, Calls Tryd.prog 11 #[.string (strOfNums l)] W fun e w' => e = .returned (.tuple #[.string (canon (v : Int)), .int .i64 0]) ∧ Below W.heap.size W w') := hpar
          clear hpar
          cases mn
          · go_wp2_with (go_at_call 11; refine (HPAR.out _).mono ?_; rintro e w2 ⟨rfl, b2⟩; have cM2 := (b2.cell (p := ⟨w.heap.size, 0, none⟩) hlt).trans cM; have B2 := Lib.hid (HB.out.trans (b2.mono (Nat.le_of_lt hlt))); clear b2)
            go_ret
            exact ⟨⟨(v : Int), HV.out, rfl⟩, B2.out⟩
          · go_wp2_with (first
              | (go_at_call 11; refine (HPAR.out _).mono ?_; rintro e w2 ⟨rfl, b2⟩; have cM2 := (b2.cell (p := ⟨w.heap.size, 0, none⟩) hlt).trans cM; have B2 := Lib.hid (HB.out.trans (b2.mono (Nat.le_of_lt hlt))); clear b2)
              | (go_at_call 34; refine (HNG.out _).mono ?_; rintro e w3 ⟨rfl, b3⟩; have B3 := Lib.hid (B2.out.trans (b3.mono B2.out.size)); clear b3))
            go_ret
            exact ⟨⟨-(v : Int), HVM.out, rfl⟩, B3.out⟩
        · have HPAR := Lib.hid hpar
          have hng0 := HNG.out
          rw [show canon ((0 : Nat) : Int) = ⟨#[48]⟩ from canon_zero] at hng0
          have HN0 := Lib.hid hng0
          have HC0 : Hid (canon ((0 : Nat) : Int) = ⟨#[48]⟩) := canon_zero
          clear hpar hng0
          cases mn
          · go_wp2_with (go_at_call 11; refine (HPAR.out _).mono ?_; rintro e w2 ⟨rfl, b2⟩; have cM2 := (b2.cell (p := ⟨w.heap.size, 0, none⟩) hlt).trans cM; have B2 := Lib.hid (HB.out.trans (b2.mono (Nat.le_of_lt hlt))); clear b2)
            go_ret
            exact ⟨⟨((0 : Nat) : Int), HV.out, by rw [HC0.out]; rfl⟩, B2.out⟩
          · go_wp2_with (first
              | (go_at_call 11; refine (HPAR.out _).mono ?_; rintro e w2 ⟨rfl, b2⟩; have cM2 := (b2.cell (p := ⟨w.heap.size, 0, none⟩) hlt).trans cM; have B2 := Lib.hid (HB.out.trans (b2.mono (Nat.le_of_lt hlt))); clear b2)
              | (go_at_call 34; refine (HN0.out _).mono ?_; rintro e w3 ⟨rfl, b3⟩; have B3 := Lib.hid (B2.out.trans (b3.mono B2.out.size)); clear b3))
            go_ret
            exact ⟨⟨-((0 : Nat) : Int), HVM.out, rfl⟩, B3.out⟩
    · have kc : (convert 28 9 (.slice Ao k co)).run Tryd.prog wr = .ok (.string (strOfNums l)) wr := by
        have hl := HO.out.len
        rcases HO.out.form with ⟨rfl, rfl, rfl⟩ | ⟨g, cur, rfl, _⟩
        · have : l = [] := List.length_eq_zero_iff.1 hl
          subst this
          exact run_convert_bytes_nil wr 28 5 Tryd.underlying28 Tryd.underlying5 0 0 9 Tryd.underlying9
        · refine run_convert_bytes_arg wr 28 5 Tryd.underlying28 Tryd.underlying5 g 0 k co l hl (fun i hi => ?_) 9 Tryd.underlying9
          obtain ⟨b, o, e, _, hc⟩ := HO.out.sl.at_ (by omega)
          injection e with e
          injection e with e1 e2
          subst e1 e2
          have := hc i (by omega)
          rw [List.getElem?_eq_getElem (by omega), Option.getD_some] at this
          rw [this, List.getD, List.getElem?_eq_getElem (by omega)]
          rfl
      have hsl : (strOfNums l).size ≤ 1000000 := by
        have := (strOf_facts l HL.out).1
        rw [Lib.size_eq, this, HO.out.len]; omega
      obtain ⟨v, r, ke, hps, hv, hca⟩ := made_text l HL.out n (by omega) (by rw [HO.out.len]; omega)
      have hpar := fun W => parseR_any (strOfNums l) W hsl
      rw [hps] at hpar
      have hvn : ((v : Int)).natAbs < 10 ^ n := by simpa using hv
      have hng := fun W => negR_nat v W (by have := canon_size_lt (v : Int) n hvn (by omega); omega)
      have hvm : ((-(v : Int))).natAbs < 10 ^ n := by rw [Int.natAbs_neg]; exact hvn
      have HNG := Lib.hid hng
      have HV := Lib.hid hvn
      have HVM := Lib.hid hvm
      clear hps hng hv hvn hvm h
      rcases hca with ⟨rfl, rfl⟩ | ⟨rfl, rfl⟩
      · have HPAR : Hid (∀ W, Calls Tryd.prog 11 #[.string (strOfNums l)] W fun e w' => e = .returned (.tuple #[.string (canon (v : Int)), .int .i64 0]) ∧ Below W.heap.size W w') := hpar
        clear hpar
        cases mn
        · go_wp2_with (go_at_call 11; refine (HPAR.out _).mono ?_; rintro e w2 ⟨rfl, b2⟩; have cM2 := (b2.cell (p := ⟨w.heap.size, 0, none⟩) hlt).trans cM; have B2 := Lib.hid (HB.out.trans (b2.mono (Nat.le_of_lt hlt))); clear b2)
          go_ret
          exact ⟨⟨(v : Int), HV.out, rfl⟩, B2.out⟩
        · go_wp2_with (first
            | (go_at_call 11; refine (HPAR.out _).mono ?_; rintro e w2 ⟨rfl, b2⟩; have cM2 := (b2.cell (p := ⟨w.heap.size, 0, none⟩) hlt).trans cM; have B2 := Lib.hid (HB.out.trans (b2.mono (Nat.le_of_lt hlt))); clear b2)
            | (go_at_call 34; refine (HNG.out _).mono ?_; rintro e w3 ⟨rfl, b3⟩; have B3 := Lib.hid (B2.out.trans (b3.mono B2.out.size)); clear b3))
          go_ret
          exact ⟨⟨-(v : Int), HVM.out, rfl⟩, B3.out⟩
      · have HPAR := Lib.hid hpar
        have hng0 := HNG.out
        rw [show canon ((0 : Nat) : Int) = ⟨#[48]⟩ from canon_zero] at hng0
        have HN0 := Lib.hid hng0
        have HC0 : Hid (canon ((0 : Nat) : Int) = ⟨#[48]⟩) := canon_zero
        clear hpar hng0
        cases mn
        · go_wp2_with (go_at_call 11; refine (HPAR.out _).mono ?_; rintro e w2 ⟨rfl, b2⟩; have cM2 := (b2.cell (p := ⟨w.heap.size, 0, none⟩) hlt).trans cM; have B2 := Lib.hid (HB.out.trans (b2.mono (Nat.le_of_lt hlt))); clear b2)
          go_ret
          exact ⟨⟨((0 : Nat) : Int), HV.out, by rw [HC0.out]; rfl⟩, B2.out⟩
        · go_wp2_with (first
            | (go_at_call 11; refine (HPAR.out _).mono ?_; rintro e w2 ⟨rfl, b2⟩; have cM2 := (b2.cell (p := ⟨w.heap.size, 0, none⟩) hlt).trans cM; have B2 := Lib.hid (HB.out.trans (b2.mono (Nat.le_of_lt hlt))); clear b2)
            | (go_at_call 34; refine (HN0.out _).mono ?_; rintro e w3 ⟨rfl, b3⟩; have B3 := Lib.hid (B2.out.trans (b3.mono B2.out.size)); clear b3))
          go_ret
          exact ⟨⟨-((0 : Nat) : Int), HVM.out, rfl⟩, B3.out⟩

end Go.Proofs.YtmkeigfckfkifaaDoor
