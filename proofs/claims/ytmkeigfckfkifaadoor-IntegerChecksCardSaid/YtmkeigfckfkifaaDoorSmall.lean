/- The walk of integer.small: a magnitude times a piece. -/
import Derived.Test.YtmkeigfckfkifaaDoorTimes
import Derived.Test.YtmkeigfckfkifaaDoorDivA
namespace Go.Proofs.YtmkeigfckfkifaaDoor
open Go.RowKit

set_option maxHeartbeats 1000000 in
theorem small_any (A : Option Addr) (c a d : Nat) (w : World) (ha : Sl w .u64 A c (lim9 a)) (hla : (lim9 a).length ≤ 30000) (hd : d < 1000000000) :
    Calls Tryd.prog 75 #[.slice A (lim9 a).length c, .int .u64 (d : Int)] w fun e w' => ∃ A1 c1, e = .returned (.slice A1 (lim9 (a * d)).length c1) ∧ Sl w' .u64 A1 c1 (lim9 (a * d)) ∧ Below w.heap.size w w' := by
  have hld : (lim9 d).length ≤ 1 := lim_len_le 1000000000 (by omega) 1 d (by omega)
  have hs1 : Sl (w.alloc (.cells #[.int .u64 (d : Int)] 72)) .u64 (some ⟨w.heap.size, 0, none⟩) 1 [(d : Int)] := by
    refine sl_one ?_ (by simp)
    rw [Lib.cell_of_heap (heap_alloc_new w _)]; rfl
  have hdg : Digs 1000000000 [(d : Int)] := Digs.nil.cons (by omega) (by omega)
  have hv : valB 1000000000 [(d : Int)] = d := by simp [valB]
  have ht := trim_to (some ⟨w.heap.size, 0, none⟩) 1 1 d [(d : Int)] (w.alloc (.cells #[.int .u64 (d : Int)] 72)) hs1 rfl (by omega) hdg hv
  have hm := times_any A (some ⟨w.heap.size, 0, none⟩) c 1 a d (w.alloc (.cells #[.int .u64 (d : Int)] 72)) (ha.below ((Below.refl _ _).alloc (Nat.le_refl _) _)) (hs1.to9 hdg hv) hla (by omega)
  have hb : Below w.heap.size w (w.alloc (.cells #[.int .u64 (d : Int)] 72)) := (Below.refl _ _).alloc (Nat.le_refl _) _
  have HM := Lib.hid hm
  have HT := Lib.hid ht
  have HB := Lib.hid hb
  clear hm ht hb hs1 hdg hv ha
  go_enter Tryd.func75, Tryd.ntmps75
  go_wp2_with (first
    | (go_at_call 62; refine HT.out.mono ?_; rintro e w' ⟨rfl, rfl⟩)
    | (go_at_call 37; refine HM.out.mono ?_; rintro e w' ⟨A1, c1, rfl, h1, h2⟩))
  refine bodyPost_ret (results_tmp rfl _ _ _) rfl ⟨A1, c1, rfl, h1, (HB.out.trans (h2.mono (by simp)))⟩

end Go.Proofs.YtmkeigfckfkifaaDoor
