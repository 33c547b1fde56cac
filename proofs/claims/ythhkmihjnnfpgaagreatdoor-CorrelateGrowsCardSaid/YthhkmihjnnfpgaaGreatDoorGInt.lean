/- The walks of Mul, Gcd, DivMod, Root and Add. -/
import Derived.Test.YthhkmihjnnfpgaaGreatDoorGText
import Derived.Test.YthhkmihjnnfpgaaGreatDoorGMag
import Derived.Test.YthhkmihjnnfpgaaGreatDoorGDiv
import Derived.Test.YthhkmihjnnfpgaaGreatDoorGPlain
import Derived.Deep.CutRange
import Derived.Deep.RegionHeld3
import Derived.Deep.LoopGhost
import Derived.Outline
/- The walk of integer.Mul: the product of two integers. -/
namespace Go.Proofs.YthhkmihjnnfpgaaGreatDoor
set_option linter.all false
open Go.RowKit

theorem mul_sign (a b:Int):(if (decide (a < 0) != decide (b < 0))=true then -((a.natAbs * b.natAbs:Nat):Int) else ((a.natAbs * b.natAbs:Nat):Int))=a * b:=by
 have h:((a.natAbs * b.natAbs:Nat):Int)=(a.natAbs:Int) * (b.natAbs:Int):=by simp
 rw [h]
 rcases Int.lt_or_le a 0 with h1 | h1 <;> rcases Int.lt_or_le b 0 with h2 | h2
 ·have e1:(a.natAbs:Int) = -a:=by omega
  have e2:(b.natAbs:Int) = -b:=by omega
  simp [h1,h2,e1,e2,Int.neg_mul_neg]
 ·have e1:(a.natAbs:Int) = -a:=by omega
  have e2:(b.natAbs:Int)=b:=by omega
  have h3:¬ b < 0:=by omega
  simp [h1,h3,e1,e2,Int.neg_mul]
 ·have e1:(a.natAbs:Int)=a:=by omega
  have e2:(b.natAbs:Int) = -b:=by omega
  have h3:¬ a < 0:=by omega
  simp [h2,h3,e1,e2,Int.mul_neg]
 ·have e1:(a.natAbs:Int)=a:=by omega
  have e2:(b.natAbs:Int)=b:=by omega
  have h3:¬ a < 0:=by omega
  have h4:¬ b < 0:=by omega
  simp [h3,h4,e1,e2]

theorem lim9_len_digits (z:Int) (n:Nat) (h:(canon z).size≤n):(lim9 z.natAbs).length≤n:=by
 have h1:=itoa_len_small (z:=z) (k:=n) h
 refine lim_len_le 1000000000 (by omega) _ _ ?_
 exact Nat.lt_of_lt_of_le h1 (Nat.pow_le_pow_left (by omega) n)

set_option maxHeartbeats 2000000 in
theorem mul_any (a b:Int) (w:World) (ht:Pow10 w) (ha:(canon a).size≤20000) (hb:(canon b).size≤20000) :
  Calls Tryz.prog 59 #[.string (canon a),.string (canon b)] w fun e w'=>e=.returned (.string (canon (a * b)))∧Below w.heap.size w w':=by
 by_cases hq:(canon a).size≤9∧(canon b).size≤9
 ·obtain ⟨h1,h2⟩:=hq
  have b1:=itoa_len_small (z:=a) (k:=9) h1
  have b2:=itoa_len_small (z:=b) (k:=9) h2
  have hm:(a * b).natAbs < 1000000000000000000:=by
   rw [Int.natAbs_mul]
   have:=Nat.mul_lt_mul'' b1 b2
   omega
  have hm1:-1000000000000000000≤a * b:=by omega
  have hm2:a * b≤1000000000000000000:=by omega
  have q1:=fun W=>quick_yes a 9 (by omega) (by omega) W
  have q2:=fun W=>quick_yes b 9 (by omega) (by omega) W
  have ho:=fun W (hW:Below w.heap.size w W)=>of_any (a * b) (by omega) (by omega) W (ht.below hW)
  have Q1:=Lib.hid q1
  have Q2:=Lib.hid q2
  have HO:=Lib.hid ho
  clear q1 q2 ho b1 b2 hm
  go_enter Tryz.func59, Tryz.ntmps59
  go_wp2_with (first
   | (go_at_call_of 80 (Value.string (canon a)); refine (Q1.out _).mono ?_; rintro e w1 ⟨rfl,h3⟩; have H3:=Lib.hid h3; clear h3)
   | (go_at_call_of 80 (Value.string (canon b)); refine (Q2.out _).mono ?_; rintro e w2 ⟨rfl,h4⟩; have H4:=Lib.hid (H3.out.trans (h4.mono H3.out.size)); clear h4)
   | (go_at_call 20; refine (HO.out _ H4.out).mono ?_; rintro e w3 ⟨rfl,h5⟩; have H5:=Lib.hid (H4.out.trans (h5.mono H4.out.size)); clear h5))
  go_ret
  exact ⟨rfl,H5.out⟩
 ·have hla:=lim9_len_digits a 20000 ha
  have hlb:=lim9_len_digits b 20000 hb
  have hma:(mag a).size≤60000:=by
   have:(mag a).size≤(canon a).size:=by
    show (mdig a).length≤(Lib.itoa a).length
    rcases itoa_cases a with ⟨_,h⟩ | ⟨_,h⟩ <;> rw [h] <;> simp
   omega
  have hmb:(mag b).size≤60000:=by
   have:(mag b).size≤(canon b).size:=by
    show (mdig b).length≤(Lib.itoa b).length
    rcases itoa_cases b with ⟨_,h⟩ | ⟨_,h⟩ <;> rw [h] <;> simp
   omega
  have o1:=fun W=>open_any a W hma
  have o2:=fun W=>open_any b W hmb
  have hms:=mul_sign a b
  generalize decide (a < 0)=sa at *
  generalize decide (b < 0)=sb at *
  have hlxy:(lim9 (a.natAbs * b.natAbs)).length≤60000:=by
   have h1:=lim_lt_pow 1000000000 (by omega) a.natAbs
   have h2:=lim_lt_pow 1000000000 (by omega) b.natAbs
   have h3:=Nat.mul_lt_mul'' h1 h2
   rw [← Nat.pow_add] at h3
   have h4:=lim_len_le 1000000000 (by omega) _ _ h3
   have h5:(lim 1000000000 a.natAbs).length=(lim9 a.natAbs).length:=rfl
   have h6:(lim 1000000000 b.natAbs).length=(lim9 b.natAbs).length:=rfl
   exact Nat.le_trans h4 (by omega)
  generalize a.natAbs=x at *
  generalize b.natAbs=y at *
  have O1:=Lib.hid o1
  have O2:=Lib.hid o2
  have HMS:=Lib.hid hms
  have HT:=Lib.hid ht
  clear o1 o2 hms hma hmb ha hb ht
  by_cases h1:(canon a).size≤9
  ·have q1:=fun W=>quick_yes a 9 (by omega) (by omega) W
   have q2:=fun W=>quick_no b 9 (by omega) W
   have Q1:=Lib.hid q1
   have Q2:=Lib.hid q2
   clear q1 q2 hq h1
   go_enter Tryz.func59, Tryz.ntmps59
   go_upto_region 6 with (first
    | (go_at_call_of 80 (Value.string (canon a)); refine (Q1.out _).mono ?_; rintro e w1 ⟨rfl,h3⟩; have H3:=Lib.hid h3; clear h3)
    | (go_at_call_of 80 (Value.string (canon b)); refine (Q2.out _).mono ?_; rintro e w2 ⟨rfl,rfl⟩))
   go_wp2_with (first
    | (go_at_call_of 81 (Value.string (canon a)); refine (O1.out _).mono ?_; rintro e w2 ⟨A1,c1,rfl,h3,h4⟩; have S1:=Lib.hid h3; have H4:=Lib.hid h4; clear h3 h4)
    | (go_at_call_of 81 (Value.string (canon b)); refine (O2.out _).mono ?_; rintro e w3 ⟨A2,c2,rfl,h5,h6⟩; have S2:=Lib.hid h5; have H6:=Lib.hid h6; clear h5 h6))
   obtain ⟨g,hg⟩:∃ g,w3.heap.size=g:=⟨_,rfl⟩
   have x1:=heap_alloc_new w3 (Obj.cells #[Value.bool sa,Value.slice A1 (lim9 x).length c1] 143)
   have x2:=heap_alloc_new (w3.alloc (Obj.cells #[Value.bool sa,Value.slice A1 (lim9 x).length c1] 143)) (Obj.cells #[Value.bool sb,Value.slice A2 (lim9 y).length c2] 143)
   have x3:=heap_more x1 (Obj.cells #[Value.bool sb,Value.slice A2 (lim9 y).length c2] 143)
   have x4:Below w3.heap.size w3 ((w3.alloc (Obj.cells #[Value.bool sa,Value.slice A1 (lim9 x).length c1] 143)).alloc (Obj.cells #[Value.bool sb,Value.slice A2 (lim9 y).length c2] 143)):=((Below.refl _ _).alloc (Nat.le_refl _) _).alloc (by simp) _
   have x5:((w3.alloc (Obj.cells #[Value.bool sa,Value.slice A1 (lim9 x).length c1] 143)).alloc (Obj.cells #[Value.bool sb,Value.slice A2 (lim9 y).length c2] 143)).heap.size=g + 2:=by rw [World.size_alloc,World.size_alloc,hg]
   rw [World.size_alloc] at x2
   rw [hg] at x1 x2 x3 ⊢
   generalize (w3.alloc (Obj.cells #[Value.bool sa,Value.slice A1 (lim9 x).length c1] 143)).alloc (Obj.cells #[Value.bool sb,Value.slice A2 (lim9 y).length c2] 143)=W4 at *
   have c0:W4.cell? ⟨g,0,none⟩=some (.bool sa):=by rw [Lib.cell_of_heap x3]; rfl
   have c1':W4.cell? ⟨g,1,none⟩=some (.slice A1 (lim9 x).length c1):=by rw [Lib.cell_of_heap x3]; rfl
   have c2':W4.cell? ⟨g + 1,0,none⟩=some (.bool sb):=by rw [Lib.cell_of_heap x2]; rfl
   have c3:W4.cell? ⟨g + 1,1,none⟩=some (.slice A2 (lim9 y).length c2):=by rw [Lib.cell_of_heap x2]; rfl
   have s1:=(S1.out.below H6.out).below x4
   have s2:=S2.out.below x4
   have hbw:=((H3.out.trans (H4.out.mono H3.out.size)).trans (H6.out.mono (Nat.le_trans H3.out.size H4.out.size))).trans (x4.mono (Nat.le_trans H3.out.size (Nat.le_trans H4.out.size H6.out.size)))
   have htm:=fun W (hW:Below W4.heap.size W4 W)=>times_any A1 A2 c1 c2 x y W (s1.below hW) (s2.below hW) (by omega) (by omega)
   have hcl:=fun A c W (hs:Sl W .u64 A c (lim9 (x * y))) (hW:Below w.heap.size w W)=>close_any (sa != sb) A c (x * y) W hs hlxy (HT.out.below hW)
   rw [HMS.out] at hcl
   have HTM:=Lib.hid htm
   have HCL:=Lib.hid hcl
   have HBW:=Lib.hid hbw
   have hg4:g < W4.heap.size:=by omega
   have hg5:g + 1 < W4.heap.size:=by omega
   have HZ:=Lib.hid x5
   clear htm hcl hbw x1 x2 x3 x4 x5 s1 s2 hg
   go_region_held3 (fun w'=>w'.cell? ⟨g,0,none⟩=some (.bool sa)∧w'.cell? ⟨g,1,none⟩=some (.slice A1 (lim9 x).length c1)∧w'.cell? ⟨g + 1,0,none⟩=some (.bool sb)∧w'.cell? ⟨g + 1,1,none⟩=some (.slice A2 (lim9 y).length c2))
    (first | exact ⟨c0,c1',c2',c3⟩ | exact ⟨d0,d1,d2,d3⟩ | exact ⟨e0,e1,e2,e3⟩)
    (first
     | (go_at_call 94; refine (HTM.out _ ?_).mono ?_; (first | exact Below.refl _ _ | exact (Below.refl _ _).drew); rintro e w5 ⟨A5,c5,rfl,h7,h8⟩; have d0:=(h8.cell (p:=⟨g,0,none⟩) hg4).trans c0; have d1:=(h8.cell (p:=⟨g,1,none⟩) hg4).trans c1'; have d2:=(h8.cell (p:=⟨g + 1,0,none⟩) hg5).trans c2'; have d3:=(h8.cell (p:=⟨g + 1,1,none⟩) hg5).trans c3; have h9:=h8.size; have S5:=Lib.hid h7; have H8:=Lib.hid h8; clear h7 h8)
     | (go_at_call 83; refine (HCL.out _ _ _ S5.out (Below.trans HBW.out.drew (H8.out.mono ?_))).mono ?_; (have:=HZ.out; have:=HBW.out.size; first | exact HBW.out.size | simpa using HBW.out.size); rintro e w6 ⟨rfl,h10⟩; have e0:=(h10.cell (p:=⟨g,0,none⟩) (Nat.lt_of_lt_of_le hg4 h9)).trans d0; have e1:=(h10.cell (p:=⟨g,1,none⟩) (Nat.lt_of_lt_of_le hg4 h9)).trans d1; have e2:=(h10.cell (p:=⟨g + 1,0,none⟩) (Nat.lt_of_lt_of_le hg5 h9)).trans d2; have e3:=(h10.cell (p:=⟨g + 1,1,none⟩) (Nat.lt_of_lt_of_le hg5 h9)).trans d3; have H10:=Lib.hid (HBW.out.drew.trans (H8.out.mono HBW.out.size)); have H11:=Lib.hid h10; clear h10))
   all_goals
    go_wp2
    go_ret
    exact ⟨rfl,H10.out.trans (H11.out.mono H10.out.size)⟩
  ·have q1:=fun W=>quick_no a 9 (by omega) W
   have Q1:=Lib.hid q1
   clear q1 hq h1
   go_enter Tryz.func59, Tryz.ntmps59
   go_upto_region 6 with (go_at_call_of 80 (Value.string (canon a)); refine (Q1.out _).mono ?_; rintro e w1 ⟨rfl,rfl⟩)
   go_wp2_with (first
    | (go_at_call_of 81 (Value.string (canon a)); refine (O1.out _).mono ?_; rintro e w2 ⟨A1,c1,rfl,h3,h4⟩; have S1:=Lib.hid h3; have H4:=Lib.hid h4; clear h3 h4)
    | (go_at_call_of 81 (Value.string (canon b)); refine (O2.out _).mono ?_; rintro e w3 ⟨A2,c2,rfl,h5,h6⟩; have S2:=Lib.hid h5; have H6:=Lib.hid h6; clear h5 h6))
   obtain ⟨g,hg⟩:∃ g,w3.heap.size=g:=⟨_,rfl⟩
   have x1:=heap_alloc_new w3 (Obj.cells #[Value.bool sa,Value.slice A1 (lim9 x).length c1] 143)
   have x2:=heap_alloc_new (w3.alloc (Obj.cells #[Value.bool sa,Value.slice A1 (lim9 x).length c1] 143)) (Obj.cells #[Value.bool sb,Value.slice A2 (lim9 y).length c2] 143)
   have x3:=heap_more x1 (Obj.cells #[Value.bool sb,Value.slice A2 (lim9 y).length c2] 143)
   have x4:Below w3.heap.size w3 ((w3.alloc (Obj.cells #[Value.bool sa,Value.slice A1 (lim9 x).length c1] 143)).alloc (Obj.cells #[Value.bool sb,Value.slice A2 (lim9 y).length c2] 143)):=((Below.refl _ _).alloc (Nat.le_refl _) _).alloc (by simp) _
   have x5:((w3.alloc (Obj.cells #[Value.bool sa,Value.slice A1 (lim9 x).length c1] 143)).alloc (Obj.cells #[Value.bool sb,Value.slice A2 (lim9 y).length c2] 143)).heap.size=g + 2:=by rw [World.size_alloc,World.size_alloc,hg]
   rw [World.size_alloc] at x2
   rw [hg] at x1 x2 x3 ⊢
   generalize (w3.alloc (Obj.cells #[Value.bool sa,Value.slice A1 (lim9 x).length c1] 143)).alloc (Obj.cells #[Value.bool sb,Value.slice A2 (lim9 y).length c2] 143)=W4 at *
   have c0:W4.cell? ⟨g,0,none⟩=some (.bool sa):=by rw [Lib.cell_of_heap x3]; rfl
   have c1':W4.cell? ⟨g,1,none⟩=some (.slice A1 (lim9 x).length c1):=by rw [Lib.cell_of_heap x3]; rfl
   have c2':W4.cell? ⟨g + 1,0,none⟩=some (.bool sb):=by rw [Lib.cell_of_heap x2]; rfl
   have c3:W4.cell? ⟨g + 1,1,none⟩=some (.slice A2 (lim9 y).length c2):=by rw [Lib.cell_of_heap x2]; rfl
   have s1:=(S1.out.below H6.out).below x4
   have s2:=S2.out.below x4
   have hbw:=(H4.out.trans (H6.out.mono H4.out.size)).trans (x4.mono (Nat.le_trans H4.out.size H6.out.size))
   have htm:=fun W (hW:Below W4.heap.size W4 W)=>times_any A1 A2 c1 c2 x y W (s1.below hW) (s2.below hW) (by omega) (by omega)
   have hcl:=fun A c W (hs:Sl W .u64 A c (lim9 (x * y))) (hW:Below w.heap.size w W)=>close_any (sa != sb) A c (x * y) W hs hlxy (HT.out.below hW)
   rw [HMS.out] at hcl
   have HTM:=Lib.hid htm
   have HCL:=Lib.hid hcl
   have HBW:=Lib.hid hbw
   have hg4:g < W4.heap.size:=by omega
   have hg5:g + 1 < W4.heap.size:=by omega
   have HZ:=Lib.hid x5
   clear htm hcl hbw x1 x2 x3 x4 x5 s1 s2 hg
   go_region_held3 (fun w'=>w'.cell? ⟨g,0,none⟩=some (.bool sa)∧w'.cell? ⟨g,1,none⟩=some (.slice A1 (lim9 x).length c1)∧w'.cell? ⟨g + 1,0,none⟩=some (.bool sb)∧w'.cell? ⟨g + 1,1,none⟩=some (.slice A2 (lim9 y).length c2))
    (first | exact ⟨c0,c1',c2',c3⟩ | exact ⟨d0,d1,d2,d3⟩ | exact ⟨e0,e1,e2,e3⟩)
    (first
     | (go_at_call 94; refine (HTM.out _ ?_).mono ?_; (first | exact Below.refl _ _ | exact (Below.refl _ _).drew); rintro e w5 ⟨A5,c5,rfl,h7,h8⟩; have d0:=(h8.cell (p:=⟨g,0,none⟩) hg4).trans c0; have d1:=(h8.cell (p:=⟨g,1,none⟩) hg4).trans c1'; have d2:=(h8.cell (p:=⟨g + 1,0,none⟩) hg5).trans c2'; have d3:=(h8.cell (p:=⟨g + 1,1,none⟩) hg5).trans c3; have h9:=h8.size; have S5:=Lib.hid h7; have H8:=Lib.hid h8; clear h7 h8)
     | (go_at_call 83; refine (HCL.out _ _ _ S5.out (Below.trans HBW.out.drew (H8.out.mono ?_))).mono ?_; (have:=HZ.out; have:=HBW.out.size; first | exact HBW.out.size | simpa using HBW.out.size); rintro e w6 ⟨rfl,h10⟩; have e0:=(h10.cell (p:=⟨g,0,none⟩) (Nat.lt_of_lt_of_le hg4 h9)).trans d0; have e1:=(h10.cell (p:=⟨g,1,none⟩) (Nat.lt_of_lt_of_le hg4 h9)).trans d1; have e2:=(h10.cell (p:=⟨g + 1,0,none⟩) (Nat.lt_of_lt_of_le hg5 h9)).trans d2; have e3:=(h10.cell (p:=⟨g + 1,1,none⟩) (Nat.lt_of_lt_of_le hg5 h9)).trans d3; have H10:=Lib.hid (HBW.out.drew.trans (H8.out.mono HBW.out.size)); have H11:=Lib.hid h10; clear h10))
   all_goals
    go_wp2
    go_ret
    exact ⟨rfl,H10.out.trans (H11.out.mono H10.out.size)⟩

end Go.Proofs.YthhkmihjnnfpgaaGreatDoor

/- The walk of integer.Gcd: the greatest common divisor. -/
namespace Go.Proofs.YthhkmihjnnfpgaaGreatDoor
open Go.RowKit

theorem gcd_tmod (x y:Int):Int.gcd y (x.tmod y)=Int.gcd x y:=by
 unfold Int.gcd
 rw [Int.natAbs_tmod,Nat.gcd_comm x.natAbs,Nat.gcd_rec y.natAbs x.natAbs,Nat.gcd_comm]

set_option maxHeartbeats 1000000 in
theorem gcd_quick (a b:Int) (w:World) (ht:Pow10 w) (ha:(canon a).size≤18) (hb:(canon b).size≤18) :
  Calls Tryz.prog 91 #[.string (canon a),.string (canon b)] w fun e w'=>e=.returned (.string (canon (Int.gcd a b)))∧Below w.heap.size w w':=by
 have b1:=itoa_len_small (z:=a) (k:=18) ha
 have b2:=itoa_len_small (z:=b) (k:=18) hb
 have q1:=fun W=>quick_yes a 18 (by omega) (by omega) W
 have q2:=fun W=>quick_yes b 18 (by omega) (by omega) W
 have ho:=fun W (hW:Below w.heap.size w W) n (h0:0≤n) (h1:n≤1000000000000000000)=>of_any n (by omega) (by omega) W (ht.below hW)
 have Q1:=Lib.hid q1
 have Q2:=Lib.hid q2
 have HO:=Lib.hid ho
 have c1:-1000000000000000000≤a∧a≤1000000000000000000:=by omega
 have c2:-1000000000000000000≤b∧b≤1000000000000000000:=by omega
 clear q1 q2 ho b1 b2 ha hb ht
 go_enter Tryz.func91, Tryz.ntmps91
 go_wp2_with (first
  | (go_at_call_of 80 (Value.string (canon a)); refine (Q1.out _).mono ?_; rintro e w1 ⟨rfl,h3⟩; have H3:=Lib.hid h3; clear h3)
  | (go_at_call_of 80 (Value.string (canon b)); refine (Q2.out _).mono ?_; rintro e w2 ⟨rfl,h4⟩; have H4:=Lib.hid (H3.out.trans (h4.mono H3.out.size)); clear h4))
 go_loopw [5,7] (fun xv yv wr=>∃ (x y:Int),xv=.int .i64 x∧yv=.int .i64 y∧(-1000000000000000000≤x∧x≤1000000000000000000)∧(-1000000000000000000≤y∧y≤1000000000000000000)∧Below w.heap.size w wr∧Hid (Int.gcd x y=Int.gcd a b)) (fun _ yv _=>(intOf yv).natAbs)
 case atStart=>exact ⟨a,b,rfl,rfl,c1,c2,H4.out,rfl⟩
 case round =>
  clear c1 c2 H3 H4
  obtain ⟨x,y,rfl,rfl,⟨c1,c2⟩,⟨c3,c4⟩,hb,HG⟩:=hrel
  have HB:=Lib.hid hb
  clear hb
  by_cases hy:y=0
  ·subst hy
   have hg:Int.gcd a b=x.natAbs:=by rw [← HG.out]; simp
   have HN:Hid (canon (x.natAbs:Int)=canon (Int.gcd a b:Int)):=by rw [hg]; rfl
   clear hg
   obtain ⟨n,hn⟩:∃ n,x.natAbs=n:=⟨_,rfl⟩
   rw [hn] at HN
   have hn18:(n:Int)≤1000000000000000000:=by omega
   have hmx:max x (-x)=(n:Int):=by omega
   have hof:=fun W hW=>HO.out W hW (n:Int) (by omega) hn18
   have HOF:=Lib.hid hof
   clear hof hn HO
   go_wp2_with (go_at_call 20; refine (HOF.out _ HB.out).mono ?_; rintro e w3 ⟨rfl,h5⟩; have H5:=Lib.hid (HB.out.trans (h5.mono HB.out.size)); clear h5)
   go_ret
   rw [← HN.out]
   exact ⟨rfl,H5.out⟩
  ·have t1:(y != 0)=true:=by rw [bne_iff_ne]; exact hy
   have t2:(y == 0)=false:=beq_eq_false_iff_ne.2 hy
   have HN:=Lib.hid ((gcd_tmod x y).trans HG.out)
   have m1:(x.tmod y).natAbs < y.natAbs:=by rw [Int.natAbs_tmod]; exact Nat.mod_lt _ (by omega)
   obtain ⟨m,hm⟩:∃ m,x.tmod y=m:=⟨_,rfl⟩
   rw [hm] at m1 HN
   have c5:-1000000000000000000≤m:=by omega
   have c6:m≤1000000000000000000:=by omega
   go_wp2
   go_quiet (fail)
   go_wp2
   go_roundw
   case rel=>exact ⟨y,m,rfl,rfl,⟨c3,c4⟩,⟨c5,c6⟩,HB.out.trans ((Drew.of _ _).below _),HN.out⟩
   case measure=>simpa [intOf] using m1

theorem field_p (s:Bool) (A:Option Addr) (n c:Nat) (W:World):(Instr.field 143 (.agg #[.bool s,.slice A n c]) 1).run Tryz.prog W=.ok (.slice A n c) W:=by kernel_rfl

theorem gcd_step (x y:Nat):Nat.gcd x y=Nat.gcd y (x % y):=by
 rw [Nat.gcd_comm x y,Nat.gcd_rec y x,Nat.gcd_comm]

theorem mag_le (z:Int) (n:Nat) (h:(canon z).size≤n):(mag z).size≤n:=by
 have h1:(mag z).size≤(canon z).size:=by
  show (mdig z).length≤(Lib.itoa z).length
  rcases itoa_cases z with ⟨_,h⟩ | ⟨_,h⟩ <;> rw [h] <;> simp
 omega

set_option maxRecDepth 100000 in
set_option maxHeartbeats 2000000 in
theorem gcd_any (a b:Int) (w:World) (ht:Pow10 w) (ha:(canon a).size≤20000) (hb:(canon b).size≤20000) :
  Calls Tryz.prog 91 #[.string (canon a),.string (canon b)] w fun e w'=>e=.returned (.string (canon (Int.gcd a b)))∧Below w.heap.size w w':=by
 by_cases hq:(canon a).size≤18∧(canon b).size≤18
 ·exact gcd_quick a b w ht hq.1 hq.2
 ·have hla:=lim9_len_digits a 20000 ha
  have hlb:=lim9_len_digits b 20000 hb
  have o1:=fun W=>open_any a W (Nat.le_trans (mag_le a 20000 ha) (by omega))
  have o2:=fun W=>open_any b W (Nat.le_trans (mag_le b 20000 hb) (by omega))
  have hgg:Int.gcd a b=Nat.gcd a.natAbs b.natAbs:=rfl
  generalize decide (a < 0)=sa at *
  generalize decide (b < 0)=sb at *
  generalize a.natAbs=x0 at *
  generalize b.natAbs=y0 at *
  have HGG:=Lib.hid hgg
  have O1:=Lib.hid o1
  have O2:=Lib.hid o2
  have HT:=Lib.hid ht
  clear o1 o2 ht ha hb hgg
  have hfd:=field_p
  by_cases h1:(canon a).size≤18
  ·have q1:=fun W=>quick_yes a 18 (by omega) (by omega) W
   have q2:=fun W=>quick_no b 18 (by omega) W
   have Q1:=Lib.hid q1
   have Q2:=Lib.hid q2
   clear q1 q2 hq h1
   go_enter Tryz.func91, Tryz.ntmps91
   go_upto_region 8 with (first
    | (go_at_call_of 80 (Value.string (canon a)); refine (Q1.out _).mono ?_; rintro e w1 ⟨rfl,h3⟩; have H3:=Lib.hid h3; clear h3)
    | (go_at_call_of 80 (Value.string (canon b)); refine (Q2.out _).mono ?_; rintro e w2 ⟨rfl,rfl⟩))
   go_wp2_with (first
    | (go_at_call_of 81 (Value.string (canon a)); refine (O1.out _).mono ?_; rintro e w2 ⟨A1,c1,rfl,h3,h4⟩; have S1:=Lib.hid h3; have H4:=Lib.hid (H3.out.trans (h4.mono H3.out.size)); clear h3 h4)
    | (go_at_call_of 81 (Value.string (canon b)); refine (O2.out _).mono ?_; rintro e w3 ⟨A2,c2,rfl,h5,h6⟩; have S2:=Lib.hid h5; have H6:=Lib.hid (H4.out.trans (h6.mono H4.out.size)); have S3:=Lib.hid (S1.out.below h6); clear h5 h6))
   go_loopg [9,10] y0 (fun gy xv yv wr=>∃ (x:Nat) (A:Option Addr) (c:Nat) (A':Option Addr) (c':Nat),xv=.slice A (lim9 x).length c∧yv=.slice A' (lim9 gy).length c'∧(lim9 x).length≤20000∧(lim9 gy).length≤20000∧Sl wr .u64 A c (lim9 x)∧Sl wr .u64 A' c' (lim9 gy)∧Below w.heap.size w wr∧Hid (Nat.gcd x gy=Nat.gcd x0 y0))
   case atStart=>exact ⟨x0,A1,c1,A2,c2,rfl,rfl,hla,hlb,S3.out,S2.out,H6.out,rfl⟩
   case round =>
    clear S1 S2 S3 H4 H6
    obtain ⟨x,A,c,A',c',rfl,rfl,hx,hy,hsx,hsy,hb,HG⟩:=hrel
    have HB:=Lib.hid hb
    have HX:=Lib.hid hsx
    have HY:=Lib.hid hsy
    clear hb hsx hsy
    by_cases h0:gk=0
    ·subst h0
     have hg:Nat.gcd x0 y0=x:=by rw [← HG.out]; simp
     have HN:Hid (canon (x:Int)=canon (Int.gcd a b:Int)):=by
      rw [HGG.out,hg]
      rfl
     have hl0:(lim9 0).length=0:=rfl
     have hcl:=close_any false A c x wr HX.out (by omega) (HT.out.below HB.out)
     rw [if_neg (by simp)] at hcl
     have HCL:=Lib.hid hcl
     clear hg hcl
     go_wp2_with (go_at_call 83; refine HCL.out.mono ?_; rintro e w4 ⟨rfl,h7⟩; have H7:=Lib.hid (HB.out.trans (h7.mono HB.out.size)); clear h7)
     go_ret
     rw [← HN.out]
     exact ⟨rfl,H7.out⟩
    ·have hp:0 < (lim9 gk).length:=by
      rcases Nat.eq_zero_or_pos (lim9 gk).length with h | h
      ·have:=(lim_len_zero 1000000000 (by omega) gk).1 h; omega
      ·exact h
     have hdv:=divide_any A A' c c' x gk wr HX.out HY.out hx hy (by omega)
     have HN:=Lib.hid (gcd_step x gk ▸ HG.out:Nat.gcd gk (x % gk)=Nat.gcd x0 y0)
     have hm:x % gk < gk:=Nat.mod_lt _ (by omega)
     have hml:(lim9 (x % gk)).length≤(lim9 gk).length:=lim_len_mono 1000000000 (by omega) _ _ (Nat.le_of_lt hm)
     have HDV:=Lib.hid hdv
     clear hdv
     go_wp2_with (go_at_call 113; refine HDV.out.mono ?_; rintro e w4 ⟨A3,c3,A4,c4,rfl,h7,h8,h9⟩; have S8:=Lib.hid h8; have H9:=Lib.hid h9; clear h7 h8 h9)
     go_roundg (x % gk)
     case measure=>exact hm
     case rel=>exact ⟨gk,A',c',A4,c4,rfl,rfl,hy,by omega,HY.out.below H9.out,S8.out,HB.out.trans (H9.out.mono HB.out.size),HN.out⟩
  ·have q1:=fun W=>quick_no a 18 (by omega) W
   have Q1:=Lib.hid q1
   clear q1 hq h1
   go_enter Tryz.func91, Tryz.ntmps91
   go_upto_region 8 with (go_at_call_of 80 (Value.string (canon a)); refine (Q1.out _).mono ?_; rintro e w1 ⟨rfl,rfl⟩)
   go_wp2_with (first
    | (go_at_call_of 81 (Value.string (canon a)); refine (O1.out _).mono ?_; rintro e w2 ⟨A1,c1,rfl,h3,h4⟩; have S1:=Lib.hid h3; have H4:=Lib.hid (h4); clear h3 h4)
    | (go_at_call_of 81 (Value.string (canon b)); refine (O2.out _).mono ?_; rintro e w3 ⟨A2,c2,rfl,h5,h6⟩; have S2:=Lib.hid h5; have H6:=Lib.hid (H4.out.trans (h6.mono H4.out.size)); have S3:=Lib.hid (S1.out.below h6); clear h5 h6))
   go_loopg [9,10] y0 (fun gy xv yv wr=>∃ (x:Nat) (A:Option Addr) (c:Nat) (A':Option Addr) (c':Nat),xv=.slice A (lim9 x).length c∧yv=.slice A' (lim9 gy).length c'∧(lim9 x).length≤20000∧(lim9 gy).length≤20000∧Sl wr .u64 A c (lim9 x)∧Sl wr .u64 A' c' (lim9 gy)∧Below w.heap.size w wr∧Hid (Nat.gcd x gy=Nat.gcd x0 y0))
   case atStart=>exact ⟨x0,A1,c1,A2,c2,rfl,rfl,hla,hlb,S3.out,S2.out,H6.out,rfl⟩
   case round =>
    clear S1 S2 S3 H4 H6
    obtain ⟨x,A,c,A',c',rfl,rfl,hx,hy,hsx,hsy,hb,HG⟩:=hrel
    have HB:=Lib.hid hb
    have HX:=Lib.hid hsx
    have HY:=Lib.hid hsy
    clear hb hsx hsy
    by_cases h0:gk=0
    ·subst h0
     have hg:Nat.gcd x0 y0=x:=by rw [← HG.out]; simp
     have HN:Hid (canon (x:Int)=canon (Int.gcd a b:Int)):=by
      rw [HGG.out,hg]
      rfl
     have hl0:(lim9 0).length=0:=rfl
     have hcl:=close_any false A c x wr HX.out (by omega) (HT.out.below HB.out)
     rw [if_neg (by simp)] at hcl
     have HCL:=Lib.hid hcl
     clear hg hcl
     go_wp2_with (go_at_call 83; refine HCL.out.mono ?_; rintro e w4 ⟨rfl,h7⟩; have H7:=Lib.hid (HB.out.trans (h7.mono HB.out.size)); clear h7)
     go_ret
     rw [← HN.out]
     exact ⟨rfl,H7.out⟩
    ·have hp:0 < (lim9 gk).length:=by
      rcases Nat.eq_zero_or_pos (lim9 gk).length with h | h
      ·have:=(lim_len_zero 1000000000 (by omega) gk).1 h; omega
      ·exact h
     have hdv:=divide_any A A' c c' x gk wr HX.out HY.out hx hy (by omega)
     have HN:=Lib.hid (gcd_step x gk ▸ HG.out:Nat.gcd gk (x % gk)=Nat.gcd x0 y0)
     have hm:x % gk < gk:=Nat.mod_lt _ (by omega)
     have hml:(lim9 (x % gk)).length≤(lim9 gk).length:=lim_len_mono 1000000000 (by omega) _ _ (Nat.le_of_lt hm)
     have HDV:=Lib.hid hdv
     clear hdv
     go_wp2_with (go_at_call 113; refine HDV.out.mono ?_; rintro e w4 ⟨A3,c3,A4,c4,rfl,h7,h8,h9⟩; have S8:=Lib.hid h8; have H9:=Lib.hid h9; clear h7 h8 h9)
     go_roundg (x % gk)
     case measure=>exact hm
     case rel=>exact ⟨gk,A',c',A4,c4,rfl,rfl,hy,by omega,HY.out.below H9.out,S8.out,HB.out.trans (H9.out.mono HB.out.size),HN.out⟩

end Go.Proofs.YthhkmihjnnfpgaaGreatDoor

/- The walk of integer.DivMod: quotient and remainder. -/
namespace Go.Proofs.YthhkmihjnnfpgaaGreatDoor
open Go.RowKit

set_option maxRecDepth 100000 in
set_option maxHeartbeats 4000000 in
theorem divmod_easy (a b:Int) (w:World) (ht:Pow10 w) (ha:(canon a).size≤20000) (hb:(canon b).size≤20000) (hb0:b ≠ 0) (hm:0≤a ∨ a.natAbs % b.natAbs=0) :
  Calls Tryz.prog 92 #[.string (canon a),.string (canon b)] w fun e w'=>e=.returned (.tuple #[.string (canon (a / b)),.string (canon (a % b)),.int .i64 0])∧Below w.heap.size w w':=by
 have hz:((canon b).toList == [48])=false:=by rw [canon_beq0]; simp [hb0]
 have hla:=lim9_len_digits a 20000 ha
 have hlb:=lim9_len_digits b 20000 hb
 have o1:=fun W=>open_any a W (Nat.le_trans (mag_le a 20000 ha) (by omega))
 have o2:=fun W=>open_any b W (Nat.le_trans (mag_le b 20000 hb) (by omega))
 obtain ⟨hd1,hd2⟩:=div_easy a b hb0 hm
 have hyp:0 < b.natAbs:=by omega
 have hma:decide (a < 0)=true→a.natAbs % b.natAbs=0:=fun h=>by
  have:=of_decide_eq_true h
  omega
 generalize a / b=qz at *
 generalize a % b=rz at *
 generalize decide (a < 0)=sa at *
 generalize decide (b < 0)=sb at *
 generalize a.natAbs=x at *
 generalize b.natAbs=y at *
 have hql:(lim9 (x / y)).length≤20000:=Nat.le_trans (lim_len_mono 1000000000 (by omega) _ _ (Nat.div_le_self x y)) hla
 have hrl:(lim9 (x % y)).length≤20000:=Nat.le_trans (lim_len_mono 1000000000 (by omega) _ _ (Nat.mod_le x y)) hla
 have O1:=Lib.hid o1
 have O2:=Lib.hid o2
 have HD1:=Lib.hid hd1
 have HD2:=Lib.hid hd2
 have HT:=Lib.hid ht
 have HMA:=Lib.hid hma
 clear o1 o2 hd1 hd2 hma ha hb hb0 hm ht
 go_enter Tryz.func92, Tryz.ntmps92
 go_upto_region 4 with (first
  | (go_at_call_of 81 (Value.string (canon a)); refine (O1.out _).mono ?_; rintro e w2 ⟨A1,c1,rfl,h3,h4⟩; have S1:=Lib.hid h3; have H4:=Lib.hid h4; clear h3 h4)
  | (go_at_call_of 81 (Value.string (canon b)); refine (O2.out _).mono ?_; rintro e w3 ⟨A2,c2,rfl,h5,h6⟩; have S2:=Lib.hid h5; have H6:=Lib.hid h6; clear h5 h6))
 obtain ⟨g,hg⟩:∃ g,w3.heap.size=g:=⟨_,rfl⟩
 have x1:=heap_alloc_new w3 (Obj.cells #[Value.bool sa,Value.slice A1 (lim9 x).length c1] 143)
 have x2:=heap_alloc_new (w3.alloc (Obj.cells #[Value.bool sa,Value.slice A1 (lim9 x).length c1] 143)) (Obj.cells #[Value.bool sb,Value.slice A2 (lim9 y).length c2] 143)
 have x3:=heap_more x1 (Obj.cells #[Value.bool sb,Value.slice A2 (lim9 y).length c2] 143)
 have x4:Below w3.heap.size w3 ((w3.alloc (Obj.cells #[Value.bool sa,Value.slice A1 (lim9 x).length c1] 143)).alloc (Obj.cells #[Value.bool sb,Value.slice A2 (lim9 y).length c2] 143)):=((Below.refl _ _).alloc (Nat.le_refl _) _).alloc (by simp) _
 have x5:((w3.alloc (Obj.cells #[Value.bool sa,Value.slice A1 (lim9 x).length c1] 143)).alloc (Obj.cells #[Value.bool sb,Value.slice A2 (lim9 y).length c2] 143)).heap.size=g + 2:=by rw [World.size_alloc,World.size_alloc,hg]
 rw [World.size_alloc] at x2
 rw [hg] at x1 x2 x3 ⊢
 generalize (w3.alloc (Obj.cells #[Value.bool sa,Value.slice A1 (lim9 x).length c1] 143)).alloc (Obj.cells #[Value.bool sb,Value.slice A2 (lim9 y).length c2] 143)=W4 at *
 have c0:W4.cell? ⟨g,0,none⟩=some (.bool sa):=by rw [Lib.cell_of_heap x3]; rfl
 have c1':W4.cell? ⟨g,1,none⟩=some (.slice A1 (lim9 x).length c1):=by rw [Lib.cell_of_heap x3]; rfl
 have c2':W4.cell? ⟨g + 1,0,none⟩=some (.bool sb):=by rw [Lib.cell_of_heap x2]; rfl
 have c3:W4.cell? ⟨g + 1,1,none⟩=some (.slice A2 (lim9 y).length c2):=by rw [Lib.cell_of_heap x2]; rfl
 have s1:=(S1.out.below H6.out).below x4
 have s2:=S2.out.below x4
 have hbw:=(H4.out.trans (H6.out.mono H4.out.size)).trans (x4.mono (Nat.le_trans H4.out.size H6.out.size))
 have hdv:=divide_any A1 A2 c1 c2 x y W4 s1 s2 hla hlb hyp
 have hg4:g < W4.heap.size:=by omega
 have hg5:g + 1 < W4.heap.size:=by omega
 have hc1:=fun A c W (hs:Sl W .u64 A c (lim9 (x / y))) (hW:Below w.heap.size w W)=>close_any (sa != sb) A c (x / y) W hs (by omega) (HT.out.below hW)
 have hc2:=fun A c W (hs:Sl W .u64 A c (lim9 (x % y))) (hW:Below w.heap.size w W)=>close_any false A c (x % y) W hs (by omega) (HT.out.below hW)
 rw [HD1.out] at hc1
 rw [if_neg (by simp),HD2.out] at hc2
 have HDV:=Lib.hid hdv
 have HC1:=Lib.hid hc1
 have HC2:=Lib.hid hc2
 have HBW:=Lib.hid hbw
 have hrz:sa=true→(lim9 (x % y)).length=0:=fun h=>by rw [HMA.out h]; rfl
 have HRZ:=Lib.hid hrz
 clear hdv hc1 hc2 hbw x1 x2 x3 x4 x5 s1 s2 hg hrz HMA HD1 HD2
 cases hsa:sa with
 | false =>
  subst hsa
  have hc:=HC1.out
  rw [show (false != sb)=sb by cases sb <;> rfl] at hc
  have HC1:=Lib.hid hc
  clear hc
  go_wp2_with (first
   | (go_at_call 113; refine HDV.out.mono ?_; rintro e w5 ⟨A5,c5,A6,c6,rfl,h7,h8,h9⟩; have d0:=(h9.cell (p:=⟨g,0,none⟩) hg4).trans c0; have d2:=(h9.cell (p:=⟨g + 1,0,none⟩) hg5).trans c2'; have S5:=Lib.hid h7; have S6:=Lib.hid h8; have H9:=Lib.hid (HBW.out.trans (h9.mono HBW.out.size)); clear h7 h8 h9)
   | (go_at_call_of 83 A5; refine (HC1.out _ _ _ S5.out H9.out).mono ?_; rintro e w6 ⟨rfl,h10⟩; have S7:=Lib.hid (S6.out.below h10); have H10:=Lib.hid (H9.out.trans (h10.mono H9.out.size)); clear h10)
   | (go_at_call_of 83 A6; refine (HC2.out _ _ _ S7.out H10.out).mono ?_; rintro e w7 ⟨rfl,h11⟩; have H11:=Lib.hid (H10.out.trans (h11.mono H10.out.size)); clear h11))
  go_ret3
  exact ⟨rfl,H11.out⟩
 | true =>
  have hl1:decide ((0:Int) < ((lim9 (x % y)).length:Int))=false:=by rw [HRZ.out hsa]; rfl
  have hl2:decide (0 < (lim9 (x % y)).length)=false:=by rw [HRZ.out hsa]; rfl
  subst hsa
  have hc:=HC1.out
  rw [show (true != sb)=!sb by cases sb <;> rfl] at hc
  have HC1:=Lib.hid hc
  clear hc
  go_wp2_with (first
   | (go_at_call 113; refine HDV.out.mono ?_; rintro e w5 ⟨A5,c5,A6,c6,rfl,h7,h8,h9⟩; have d0:=(h9.cell (p:=⟨g,0,none⟩) hg4).trans c0; have d2:=(h9.cell (p:=⟨g + 1,0,none⟩) hg5).trans c2'; have S5:=Lib.hid h7; have S6:=Lib.hid h8; have H9:=Lib.hid (HBW.out.trans (h9.mono HBW.out.size)); clear h7 h8 h9)
   | (go_at_call_of 83 A5; refine (HC1.out _ _ _ S5.out H9.out).mono ?_; rintro e w6 ⟨rfl,h10⟩; have S7:=Lib.hid (S6.out.below h10); have H10:=Lib.hid (H9.out.trans (h10.mono H9.out.size)); clear h10)
   | (go_at_call_of 83 A6; refine (HC2.out _ _ _ S7.out H10.out).mono ?_; rintro e w7 ⟨rfl,h11⟩; have H11:=Lib.hid (H10.out.trans (h11.mono H10.out.size)); clear h11))
  go_ret3
  exact ⟨rfl,H11.out⟩

end Go.Proofs.YthhkmihjnnfpgaaGreatDoor

/- The walk of integer.DivMod where the dividend is negative and leaves a remainder; and DivMod as a whole. -/
namespace Go.Proofs.YthhkmihjnnfpgaaGreatDoor
open Go.RowKit Go.Shelf

theorem lim9_unit:lim9 1=[1]:=lim9_one 1 (by omega) (by omega)

theorem div_hard (a b:Int) (hb:b ≠ 0) (ha:a < 0) (hm:a.natAbs % b.natAbs ≠ 0) :
  (if (!decide (b < 0))=true then -((a.natAbs / b.natAbs + 1:Nat):Int) else ((a.natAbs / b.natAbs + 1:Nat):Int))=a / b∧((b.natAbs - a.natAbs % b.natAbs:Nat):Int)=a % b:=by
 have hx:=Nat.div_add_mod a.natAbs b.natAbs
 have hy:0 < b.natAbs:=by omega
 have hl:=Nat.mod_lt a.natAbs hy
 obtain ⟨y,hyb⟩:∃ y,b.natAbs=y:=⟨_,rfl⟩
 obtain ⟨x,hxa⟩:∃ x,a.natAbs=x:=⟨_,rfl⟩
 rw [hyb,hxa] at hx hl hm
 rw [hyb] at hy
 rw [hyb,hxa]
 have key:a / (y:Int) = -((x / y + 1:Nat):Int)∧a % (y:Int)=((y - x % y:Nat):Int):=by
  refine (Int.ediv_emod_unique (by omega)).2 ⟨?_,by omega,by omega⟩
  generalize x / y=q at *
  generalize x % y=r at *
  have e:(y:Int) * (q:Int) + (r:Int)=(x:Int):=by rw [← hx]; simp
  rw [Int.mul_neg,Int.natCast_add,Int.mul_add]
  generalize (y:Int) * (q:Int)=p at *
  omega
 by_cases hb0:b < 0
 ·have hbe:b = -(y:Int):=by omega
  rw [hbe,Int.ediv_neg,Int.emod_neg,key.1,key.2]
  have hny:decide (-(y:Int) < 0)=true:=decide_eq_true (by omega)
  rw [hny]
  simp
 ·have hbe:b=(y:Int):=by omega
  rw [hbe,key.1,key.2]
  have hny:decide ((y:Int) < 0)=false:=decide_eq_false (by omega)
  rw [hny]
  simp

set_option maxRecDepth 100000 in
set_option maxHeartbeats 4000000 in
theorem divmod_hard (a b:Int) (w:World) (ht:Pow10 w) (ha:(canon a).size≤20000) (hb:(canon b).size≤20000) (hb0:b ≠ 0) (ha0:a < 0) (hm:a.natAbs % b.natAbs ≠ 0) :
  Calls Tryz.prog 92 #[.string (canon a),.string (canon b)] w fun e w'=>e=.returned (.tuple #[.string (canon (a / b)),.string (canon (a % b)),.int .i64 0])∧Below w.heap.size w w':=by
 have hz:((canon b).toList == [48])=false:=by rw [canon_beq0]; simp [hb0]
 have hla:=lim9_len_digits a 20000 ha
 have hlb:=lim9_len_digits b 20000 hb
 have o1:=fun W=>open_any a W (Nat.le_trans (mag_le a 20000 ha) (by omega))
 have o2:=fun W=>open_any b W (Nat.le_trans (mag_le b 20000 hb) (by omega))
 obtain ⟨hd1,hd2⟩:=div_hard a b hb0 ha0 hm
 have hyp:0 < b.natAbs:=by omega
 have hsa:decide (a < 0)=true:=decide_eq_true ha0
 generalize a / b=qz at *
 generalize a % b=rz at *
 generalize decide (b < 0)=sb at *
 generalize a.natAbs=x at *
 generalize b.natAbs=y at *
 rw [hsa] at o1
 have hml:=Nat.mod_lt x hyp
 have hpos:0 < (lim9 (x % y)).length:=by
  rcases Nat.eq_zero_or_pos (lim9 (x % y)).length with h | h
  ·have h1:x % y < 1000000000 ^ (lim9 (x % y)).length:=lim_lt_pow 1000000000 (by omega) (x % y)
   rw [h,Nat.pow_zero] at h1
   omega
  ·exact h
 have hl1:decide ((0:Int) < ((lim9 (x % y)).length:Int))=true:=decide_eq_true (by omega)
 have hl2:decide (0 < (lim9 (x % y)).length)=true:=decide_eq_true hpos
 have hql1:(lim9 (x / y + 1)).length≤20001:=by
  have h1:x / y < 1000000000 ^ (lim9 (x / y)).length:=lim_lt_pow 1000000000 (by omega) (x / y)
  have h2:(lim9 (x / y)).length≤20000:=Nat.le_trans (lim_len_mono 1000000000 (by omega) _ _ (Nat.div_le_self x y)) hla
  have h3:(lim9 (x / y + 1)).length≤(lim9 (x / y)).length + 1:=by
   refine lim_len_le 1000000000 (by omega) _ _ ?_
   rw [Nat.pow_succ]
   generalize x / y=q at *
   omega
  omega
 have hrl1:(lim9 (y - x % y)).length≤20000:=Nat.le_trans (lim_len_mono 1000000000 (by omega) _ _ (Nat.sub_le y _)) hlb
 have hql:(lim9 (x / y)).length≤20000:=Nat.le_trans (lim_len_mono 1000000000 (by omega) _ _ (Nat.div_le_self x y)) hla
 have hrl:(lim9 (x % y)).length≤20000:=Nat.le_trans (lim_len_mono 1000000000 (by omega) _ _ (Nat.mod_le x y)) hla
 have O1:=Lib.hid o1
 have O2:=Lib.hid o2
 have HD1:=Lib.hid hd1
 have HD2:=Lib.hid hd2
 have HT:=Lib.hid ht
 clear o1 o2 hd1 hd2 ha hb hb0 ha0 hsa hm ht
 go_enter Tryz.func92, Tryz.ntmps92
 go_upto_region 4 with (first
  | (go_at_call_of 81 (Value.string (canon a)); refine (O1.out _).mono ?_; rintro e w2 ⟨A1,c1,rfl,h3,h4⟩; have S1:=Lib.hid h3; have H4:=Lib.hid h4; clear h3 h4)
  | (go_at_call_of 81 (Value.string (canon b)); refine (O2.out _).mono ?_; rintro e w3 ⟨A2,c2,rfl,h5,h6⟩; have S2:=Lib.hid h5; have H6:=Lib.hid h6; clear h5 h6))
 obtain ⟨g,hg⟩:∃ g,w3.heap.size=g:=⟨_,rfl⟩
 have x1:=heap_alloc_new w3 (Obj.cells #[Value.bool true,Value.slice A1 (lim9 x).length c1] 143)
 have x2:=heap_alloc_new (w3.alloc (Obj.cells #[Value.bool true,Value.slice A1 (lim9 x).length c1] 143)) (Obj.cells #[Value.bool sb,Value.slice A2 (lim9 y).length c2] 143)
 have x3:=heap_more x1 (Obj.cells #[Value.bool sb,Value.slice A2 (lim9 y).length c2] 143)
 have x4:Below w3.heap.size w3 ((w3.alloc (Obj.cells #[Value.bool true,Value.slice A1 (lim9 x).length c1] 143)).alloc (Obj.cells #[Value.bool sb,Value.slice A2 (lim9 y).length c2] 143)):=((Below.refl _ _).alloc (Nat.le_refl _) _).alloc (by simp) _
 have x5:((w3.alloc (Obj.cells #[Value.bool true,Value.slice A1 (lim9 x).length c1] 143)).alloc (Obj.cells #[Value.bool sb,Value.slice A2 (lim9 y).length c2] 143)).heap.size=g + 2:=by rw [World.size_alloc,World.size_alloc,hg]
 rw [World.size_alloc] at x2
 rw [hg] at x1 x2 x3 ⊢
 generalize (w3.alloc (Obj.cells #[Value.bool true,Value.slice A1 (lim9 x).length c1] 143)).alloc (Obj.cells #[Value.bool sb,Value.slice A2 (lim9 y).length c2] 143)=W4 at *
 have c0:W4.cell? ⟨g,0,none⟩=some (.bool true):=by rw [Lib.cell_of_heap x3]; rfl
 have c1':W4.cell? ⟨g,1,none⟩=some (.slice A1 (lim9 x).length c1):=by rw [Lib.cell_of_heap x3]; rfl
 have c2':W4.cell? ⟨g + 1,0,none⟩=some (.bool sb):=by rw [Lib.cell_of_heap x2]; rfl
 have c3:W4.cell? ⟨g + 1,1,none⟩=some (.slice A2 (lim9 y).length c2):=by rw [Lib.cell_of_heap x2]; rfl
 have s1:=(S1.out.below H6.out).below x4
 have s2:=S2.out.below x4
 have hbw:=(H4.out.trans (H6.out.mono H4.out.size)).trans (x4.mono (Nat.le_trans H4.out.size H6.out.size))
 have hdv:=divide_any A1 A2 c1 c2 x y W4 s1 s2 hla hlb hyp
 have hg4:g < W4.heap.size:=by omega
 have hg5:g + 1 < W4.heap.size:=by omega
 have hc1:=fun A c W (hs:Sl W .u64 A c (lim9 (x / y + 1))) (hW:Below w.heap.size w W)=>close_any (!sb) A c (x / y + 1) W hs (by omega) (HT.out.below hW)
 have hc2:=fun A c W (hs:Sl W .u64 A c (lim9 (y - x % y))) (hW:Below w.heap.size w W)=>close_any false A c (y - x % y) W hs (by omega) (HT.out.below hW)
 rw [HD1.out] at hc1
 rw [if_neg (by simp),HD2.out] at hc2
 have HDV:=Lib.hid hdv
 have HC1:=Lib.hid hc1
 have HC2:=Lib.hid hc2
 have HBW:=Lib.hid hbw
 have T2:=Lib.hid s2
 clear hdv hc1 hc2 hbw x1 x2 x3 x4 x5 s1 s2 hg HD1 HD2
 go_upto_region 6 with (go_at_call 113; refine HDV.out.mono ?_; rintro e w5 ⟨A5,c5,A6,c6,rfl,h7,h8,h9⟩; have d0:=(h9.cell (p:=⟨g,0,none⟩) hg4).trans c0; have d2:=(h9.cell (p:=⟨g + 1,0,none⟩) hg5).trans c2'; have d3:=(h9.cell (p:=⟨g + 1,1,none⟩) hg5).trans c3; have S5:=Lib.hid h7; have S6:=Lib.hid h8; have U2:=Lib.hid (T2.out.below h9); have q5:=h9.size; have H9:=Lib.hid (HBW.out.trans (h9.mono HBW.out.size)); clear h7 h8 h9)
 have hg4:g < w5.heap.size:=by omega
 have hg5:g + 1 < w5.heap.size:=by omega
 have hpl:=fun W (hW:Below w5.heap.size w5 W) (hc:W.cell? ⟨w5.heap.size,0,none⟩=some (.int .u64 1)) (hz:w5.heap.size < W.heap.size)=>plus_any A5 (some ⟨w5.heap.size,0,none⟩) c5 1 (x / y) 1 W (S5.out.below hW)
  (by rw [lim9_unit]; exact sl_one hc hz) (by omega) (by rw [lim9_unit]; simp)
 rw [show (lim9 1).length=1 by rw [lim9_unit]; rfl] at hpl
 have hmi:=fun W (hW:Below w5.heap.size w5 W)=>minus_any A2 A6 c2 c6 y (x % y) W (U2.out.below hW) (S6.out.below hW) (by omega) (by omega)
 obtain ⟨W6,hW6⟩:∃ W6,w5.alloc (.cells #[.int .u64 1] 165)=W6:=⟨_,rfl⟩
 have ka:Below w5.heap.size w5 W6:=by rw [← hW6]; exact (Below.refl _ _).alloc (Nat.le_refl _) _
 have kc:W6.cell? ⟨w5.heap.size,0,none⟩=some (.int .u64 1):=by rw [← hW6,Lib.cell_of_heap (heap_alloc_new w5 _)]; rfl
 have kz:w5.heap.size < W6.heap.size:=by rw [← hW6,World.size_alloc]; omega
 have k1:W6.cell? ⟨g + 1,1,none⟩=some (.slice A2 (lim9 y).length c2):=(ka.cell (p:=⟨g + 1,1,none⟩) hg5).trans d3
 have KA:=Lib.hid ka
 have KC:=Lib.hid kc
 have HPL:=Lib.hid hpl
 have HMI:=Lib.hid hmi
 have HW6:=Lib.hid hW6
 clear hpl hmi ka kc hW6
 go_region_with (first
  | (go_at_call 82; rw [HW6.out]; (with_reducible refine (HPL.out _ ?_ ?_ ?_).mono ?_); (first | exact KA.out | exact KA.out.drew); exact KC.out; exact kz; rintro e w6 ⟨A7,c7,rfl,h1,h2⟩; have f0:=(h2.cell (p:=⟨g,0,none⟩) (Nat.lt_trans hg4 kz)).trans ((KA.out.cell (p:=⟨g,0,none⟩) hg4).trans d0); have f2:=(h2.cell (p:=⟨g + 1,0,none⟩) (Nat.lt_trans hg5 kz)).trans ((KA.out.cell (p:=⟨g + 1,0,none⟩) hg5).trans d2); have f3:=(h2.cell (p:=⟨g + 1,1,none⟩) (Nat.lt_trans hg5 kz)).trans k1; have F1:=Lib.hid h1; have q6:=Nat.lt_of_lt_of_le kz h2.size; have F2:=Lib.hid (KA.out.drew.trans (h2.mono (Nat.le_of_lt kz))); clear h1 h2)
  | (go_at_call 85; (with_reducible refine (HMI.out _ F2.out).mono ?_); rintro e w7 ⟨A8,c8,rfl,h1,h2⟩; have g0:=(h2.cell (p:=⟨g,0,none⟩) (Nat.lt_trans hg4 q6)).trans f0; have g2:=(h2.cell (p:=⟨g + 1,0,none⟩) (Nat.lt_trans hg5 q6)).trans f2; have G1:=Lib.hid (F1.out.below h2); have G3:=Lib.hid h1; have G2:=Lib.hid (H9.out.trans ((F2.out.trans (h2.mono (Nat.le_of_lt q6))).mono H9.out.size)); clear h1 h2)
  | fail "arm")
 all_goals
  go_wp2_with (first
   | (go_at_call_of 83 A7; (with_reducible refine (HC1.out _ _ _ G1.out G2.out).mono ?_); rintro e w8 ⟨rfl,h10⟩; have I1:=Lib.hid (G3.out.below h10); have I2:=Lib.hid (G2.out.trans (h10.mono G2.out.size)); clear h10)
   | (go_at_call_of 83 A8; (with_reducible refine (HC2.out _ _ _ I1.out I2.out).mono ?_); rintro e w9 ⟨rfl,h11⟩; have H11:=Lib.hid (I2.out.trans (h11.mono I2.out.size)); clear h11))
  go_ret3
  exact ⟨rfl,H11.out⟩

theorem divmod_any (a b:Int) (w:World) (ht:Pow10 w) (ha:(canon a).size≤20000) (hb:(canon b).size≤20000) (hb0:b ≠ 0) :
  Calls Tryz.prog 92 #[.string (canon a),.string (canon b)] w fun e w'=>e=.returned (.tuple #[.string (canon (a / b)),.string (canon (a % b)),.int .i64 0])∧Below w.heap.size w w':=by
 by_cases h:0≤a ∨ a.natAbs % b.natAbs=0
 ·exact divmod_easy a b w ht ha hb hb0 h
 ·exact divmod_hard a b w ht ha hb hb0 (by omega) (fun e=>h (.inr e))

end Go.Proofs.YthhkmihjnnfpgaaGreatDoor

/- The walks of integer.Neg, Abs, Add and Sub. -/
namespace Go.Proofs.YthhkmihjnnfpgaaGreatDoor
open Go.RowKit

theorem add_same (a b:Int) (h:decide (a < 0)=decide (b < 0)):(if decide (a < 0)=true then -((a.natAbs + b.natAbs:Nat):Int) else ((a.natAbs + b.natAbs:Nat):Int))=a + b:=by
 by_cases ha:a < 0
 ·have hb:b < 0:=by simpa [ha] using h
  rw [if_pos (decide_eq_true ha)]; omega
 ·have hb:¬ b < 0:=by simpa [ha] using h
  rw [if_neg (by simpa using ha)]; omega

theorem add_left (a b:Int) (h:decide (a < 0) ≠ decide (b < 0)) (hl:b.natAbs≤a.natAbs):(if decide (a < 0)=true then -((a.natAbs - b.natAbs:Nat):Int) else ((a.natAbs - b.natAbs:Nat):Int))=a + b:=by
 by_cases ha:a < 0
 ·have hb:¬ b < 0:=fun hb=>h (by rw [decide_eq_true ha,decide_eq_true hb])
  rw [if_pos (decide_eq_true ha)]; omega
 ·have hb:b < 0:=by
   rcases Int.lt_or_le b 0 with hb | hb
   ·exact hb
   ·exact absurd (show decide (a < 0)=decide (b < 0) by rw [decide_eq_false ha,decide_eq_false (by omega)]) h
  rw [if_neg (by simpa using ha)]; omega

theorem add_right (a b:Int) (h:decide (a < 0) ≠ decide (b < 0)) (hl:a.natAbs < b.natAbs):(if decide (b < 0)=true then -((b.natAbs - a.natAbs:Nat):Int) else ((b.natAbs - a.natAbs:Nat):Int))=a + b:=by
 rw [add_left b a (Ne.symm h) (by omega),Int.add_comm]

theorem swap_boxes {W4 W5:World} {g:Nat} {e:TypeId} {fr:Nat × Nat} {sa sb:Bool} {A1 A2:Option Addr} {n1 n2 c1 c2:Nat} (nd:Nat)
  (h1:W4.heap[g]?=some (.cells #[.bool sa,.slice A1 n1 c1] e fr)) (h2:W4.heap[g + 1]?=some (.cells #[.bool sb,.slice A2 n2 c2] e fr))
  (hW:(((((W4.drewN nd).setCell ⟨g,0,none⟩ (.bool sb)).setCell ⟨g,1,none⟩ (.slice A2 n2 c2)).setCell ⟨g + 1,0,none⟩ (.bool sa)).setCell ⟨g + 1,1,none⟩ (.slice A1 n1 c1))=W5) :
  W5.heap[g]?=some (.cells #[.bool sb,.slice A2 n2 c2] e fr)∧W5.heap[g + 1]?=some (.cells #[.bool sa,.slice A1 n1 c1] e fr)∧W5.heap.size=W4.heap.size∧∀ (B:Nat) (a:World),B≤g→Below B a W4→Below B a W5:=by
 subst hW
 refine ⟨?_,?_,?_,fun B a hB hb=>?_⟩
 ·simp [World.setCell,Array.getElem?_modify,World.drewN,h1]
 ·simp [World.setCell,Array.getElem?_modify,World.drewN,h2]
 ·simp [World.setCell,World.drewN]
 ·exact ((((Below.trans hb ((Drew.of W4 nd).below B)).setCell (p:=⟨g,0,none⟩) hB _).setCell (p:=⟨g,1,none⟩) hB _).setCell (p:=⟨g + 1,0,none⟩) (Nat.le_succ_of_le hB) _).setCell (p:=⟨g + 1,1,none⟩) (Nat.le_succ_of_le hB) _

set_option maxRecDepth 100000 in
set_option maxHeartbeats 4000000 in
theorem add_any (a b:Int) (w:World) (ht:Pow10 w) (ha:(canon a).size≤10000) (hb:(canon b).size≤10000) :
  Calls Tryz.prog 52 #[.string (canon a),.string (canon b)] w fun e w'=>e=.returned (.string (canon (a + b)))∧Below w.heap.size w w':=by
 by_cases hq:(canon a).size≤18∧(canon b).size≤18
 ·obtain ⟨h1,h2⟩:=hq
  have b1:=itoa_len_small (z:=a) (k:=18) h1
  have b2:=itoa_len_small (z:=b) (k:=18) h2
  have a1:-1000000000000000000≤a:=by omega
  have a2:a≤1000000000000000000:=by omega
  have a3:-1000000000000000000≤b:=by omega
  have a4:b≤1000000000000000000:=by omega
  have q1:=fun W=>quick_yes a 18 (by omega) (by omega) W
  have q2:=fun W=>quick_yes b 18 (by omega) (by omega) W
  have ho:=fun W (hW:Below w.heap.size w W)=>of_any (a + b) (by omega) (by omega) W (ht.below hW)
  have Q1:=Lib.hid q1
  have Q2:=Lib.hid q2
  have HO:=Lib.hid ho
  clear q1 q2 ho b1 b2
  go_enter Tryz.func52, Tryz.ntmps52
  go_wp2_with (first
   | (go_at_call_of 80 (Value.string (canon a)); refine (Q1.out _).mono ?_; rintro e w1 ⟨rfl,h3⟩; have H3:=Lib.hid h3; clear h3)
   | (go_at_call_of 80 (Value.string (canon b)); refine (Q2.out _).mono ?_; rintro e w2 ⟨rfl,h4⟩; have H4:=Lib.hid (H3.out.trans (h4.mono H3.out.size)); clear h4)
   | (go_at_call 20; refine (HO.out _ H4.out).mono ?_; rintro e w3 ⟨rfl,h5⟩; have H5:=Lib.hid (H4.out.trans (h5.mono H4.out.size)); clear h5))
  go_ret
  exact ⟨rfl,H5.out⟩
 ·have hla:=lim9_len_digits a 10000 ha
  have hlb:=lim9_len_digits b 10000 hb
  have o1:=fun W=>open_any a W (Nat.le_trans (mag_le a 10000 ha) (by omega))
  have o2:=fun W=>open_any b W (Nat.le_trans (mag_le b 10000 hb) (by omega))
  have e1:=add_same a b
  have e2:=add_left a b
  have e3:=add_right a b
  have hlxy:(lim9 (a.natAbs + b.natAbs)).length≤20001:=by
   have h1:a.natAbs < 1000000000 ^ (lim9 a.natAbs).length:=lim_lt_pow 1000000000 (by omega) a.natAbs
   have h2:b.natAbs < 1000000000 ^ (lim9 b.natAbs).length:=lim_lt_pow 1000000000 (by omega) b.natAbs
   have h3:(1000000000:Nat) ^ (lim9 a.natAbs).length≤1000000000 ^ ((lim9 a.natAbs).length + (lim9 b.natAbs).length):=Nat.pow_le_pow_right (by omega) (by omega)
   have h4:(1000000000:Nat) ^ (lim9 b.natAbs).length≤1000000000 ^ ((lim9 a.natAbs).length + (lim9 b.natAbs).length):=Nat.pow_le_pow_right (by omega) (by omega)
   have h5:(lim9 (a.natAbs + b.natAbs)).length≤(lim9 a.natAbs).length + (lim9 b.natAbs).length + 1:=by
    refine lim_len_le 1000000000 (by omega) _ _ ?_
    rw [Nat.pow_succ]
    omega
   omega
  generalize decide (a < 0)=sa at *
  generalize decide (b < 0)=sb at *
  generalize a.natAbs=x at *
  generalize b.natAbs=y at *
  have O1:=Lib.hid o1
  have O2:=Lib.hid o2
  have E1:=Lib.hid e1
  have E2:=Lib.hid e2
  have E3:=Lib.hid e3
  have HT:=Lib.hid ht
  clear o1 o2 e1 e2 e3 ha hb ht
  by_cases h1:(canon a).size≤18
  ·have q1:=fun W=>quick_yes a 18 (by omega) (by omega) W
   have q2:=fun W=>quick_no b 18 (by omega) W
   have Q1:=Lib.hid q1
   have Q2:=Lib.hid q2
   clear q1 q2 hq h1
   go_enter Tryz.func52, Tryz.ntmps52
   go_upto_region 7 with (first
    | (go_at_call_of 80 (Value.string (canon a)); refine (Q1.out _).mono ?_; rintro e w1 ⟨rfl,h3⟩; have H3:=Lib.hid h3; clear h3)
    | (go_at_call_of 80 (Value.string (canon b)); refine (Q2.out _).mono ?_; rintro e w2 ⟨rfl,rfl⟩)
    | (go_at_call_of 81 (Value.string (canon a)); refine (O1.out _).mono ?_; rintro e w2 ⟨A1,c1,rfl,h3,h4⟩; have S1:=Lib.hid h3; have H4:=Lib.hid h4; clear h3 h4)
    | (go_at_call_of 81 (Value.string (canon b)); refine (O2.out _).mono ?_; rintro e w3 ⟨A2,c2,rfl,h5,h6⟩; have S2:=Lib.hid h5; have H6:=Lib.hid h6; clear h5 h6))
   obtain ⟨g,hg⟩:∃ g,w3.heap.size=g:=⟨_,rfl⟩
   have x1:=heap_alloc_new w3 (Obj.cells #[Value.bool sa,Value.slice A1 (lim9 x).length c1] 143)
   have x2:=heap_alloc_new (w3.alloc (Obj.cells #[Value.bool sa,Value.slice A1 (lim9 x).length c1] 143)) (Obj.cells #[Value.bool sb,Value.slice A2 (lim9 y).length c2] 143)
   have x3:=heap_more x1 (Obj.cells #[Value.bool sb,Value.slice A2 (lim9 y).length c2] 143)
   have x4:Below w3.heap.size w3 ((w3.alloc (Obj.cells #[Value.bool sa,Value.slice A1 (lim9 x).length c1] 143)).alloc (Obj.cells #[Value.bool sb,Value.slice A2 (lim9 y).length c2] 143)):=((Below.refl _ _).alloc (Nat.le_refl _) _).alloc (by simp) _
   have x5:((w3.alloc (Obj.cells #[Value.bool sa,Value.slice A1 (lim9 x).length c1] 143)).alloc (Obj.cells #[Value.bool sb,Value.slice A2 (lim9 y).length c2] 143)).heap.size=g + 2:=by rw [World.size_alloc,World.size_alloc,hg]
   rw [World.size_alloc] at x2
   rw [hg] at x1 x2 x3 ⊢
   generalize (w3.alloc (Obj.cells #[Value.bool sa,Value.slice A1 (lim9 x).length c1] 143)).alloc (Obj.cells #[Value.bool sb,Value.slice A2 (lim9 y).length c2] 143)=W4 at *
   have c0:W4.cell? ⟨g,0,none⟩=some (.bool sa):=by rw [Lib.cell_of_heap x3]; rfl
   have c1':W4.cell? ⟨g,1,none⟩=some (.slice A1 (lim9 x).length c1):=by rw [Lib.cell_of_heap x3]; rfl
   have c2':W4.cell? ⟨g + 1,0,none⟩=some (.bool sb):=by rw [Lib.cell_of_heap x2]; rfl
   have c3:W4.cell? ⟨g + 1,1,none⟩=some (.slice A2 (lim9 y).length c2):=by rw [Lib.cell_of_heap x2]; rfl
   have s1:=(S1.out.below H6.out).below x4
   have s2:=S2.out.below x4
   have hbw:=((H3.out.trans (H4.out.mono H3.out.size)).trans (H6.out.mono (Nat.le_trans H3.out.size H4.out.size))).trans (x4.mono (Nat.le_trans H3.out.size (Nat.le_trans H4.out.size H6.out.size)))
   have hg4:g < W4.heap.size:=by omega
   have hg5:g + 1 < W4.heap.size:=by omega
   have HBW:=Lib.hid hbw
   have X1:=Lib.hid x3
   have X2:=Lib.hid x2
   have T1:=Lib.hid s1
   have T2:=Lib.hid s2
   have S3:=Lib.hid (S1.out.below H6.out)
   have X4:=Lib.hid x4
   have HG:=Lib.hid hg
   have hwg:w.heap.size≤g:=by
    rw [← hg]
    first
     | exact Nat.le_trans H3.out.size (Nat.le_trans H4.out.size H6.out.size)
     | exact Nat.le_trans H4.out.size H6.out.size
   have HWG:=Lib.hid hwg
   clear hbw x1 x2 x3 x4 x5 s1 s2 hg hwg
   by_cases hs:sa=sb
   ·subst hs
    have hpl:=fun W (hW:Below W4.heap.size W4 W)=>plus_any A1 A2 c1 c2 x y W (T1.out.below hW) (T2.out.below hW) (by omega) (by omega)
    have hcl:=fun A c W (hs:Sl W .u64 A c (lim9 (x + y))) (hW:Below w.heap.size w W)=>close_any sa A c (x + y) W hs (by omega) (HT.out.below hW)
    rw [E1.out rfl] at hcl
    have HPL:=Lib.hid hpl
    have HCL:=Lib.hid hcl
    clear hpl hcl
    go_upto_region 8 with fail
    go_region_held3 (fun w'=>w'.cell? ⟨g,0,none⟩=some (.bool sa)∧w'.cell? ⟨g,1,none⟩=some (.slice A1 (lim9 x).length c1)∧w'.cell? ⟨g + 1,1,none⟩=some (.slice A2 (lim9 y).length c2))
     (first | exact ⟨c0,c1',c3⟩ | exact ⟨d0,d1,d3⟩ | exact ⟨e0,e1,e3⟩)
     (first
      | (go_at_call 82; refine (HPL.out _ ?_).mono ?_; (first | exact Below.refl _ _ | exact (Below.refl _ _).drew); rintro e w5 ⟨A5,c5,rfl,h7,h8⟩; have d0:=(h8.cell (p:=⟨g,0,none⟩) hg4).trans c0; have d1:=(h8.cell (p:=⟨g,1,none⟩) hg4).trans c1'; have d3:=(h8.cell (p:=⟨g + 1,1,none⟩) hg5).trans c3; have h9:=h8.size; have S5:=Lib.hid h7; have H8:=Lib.hid (HBW.out.drew.trans (h8.mono HBW.out.size)); clear h7 h8)
      | (go_at_call 83; refine (HCL.out _ _ _ S5.out H8.out).mono ?_; rintro e w6 ⟨rfl,h10⟩; have e0:=(h10.cell (p:=⟨g,0,none⟩) (Nat.lt_of_lt_of_le hg4 h9)).trans d0; have e1:=(h10.cell (p:=⟨g,1,none⟩) (Nat.lt_of_lt_of_le hg4 h9)).trans d1; have e3:=(h10.cell (p:=⟨g + 1,1,none⟩) (Nat.lt_of_lt_of_le hg5 h9)).trans d3; have H11:=Lib.hid (H8.out.trans (h10.mono H8.out.size)); clear h10))
    all_goals
     go_wp2
     go_ret
     exact ⟨rfl,H11.out⟩
   ·have t1:(sa == sb)=false:=beq_eq_false_iff_ne.2 hs
    have ho:=fun W (hW:Below W4.heap.size W4 W)=>order_any A1 A2 c1 c2 x y W (T1.out.below hW) (T2.out.below hW) (by omega) (by omega)
    by_cases hlt:x < y
    ·rw [cmpN_lt hlt] at ho
     have HO:=Lib.hid ho
     have hz:=E3.out hs hlt
     have f0:=Lib.frozen_of_heap X1.out 0
     have f1:=Lib.frozen_of_heap X1.out 1
     have f2:=Lib.frozen_of_heap X2.out 0
     have f3:=Lib.frozen_of_heap X2.out 1
     have HZ:=Lib.hid hz
     clear ho hz
     go_upto_region 11 with (go_at_call 84; refine (HO.out _ (Below.refl _ _)).mono ?_; rintro e w5 ⟨rfl,nd,rfl⟩)
     obtain ⟨W5,hW5⟩:∃ W5,(((((W4.drewN nd).setCell ⟨g,0,none⟩ (.bool sb)).setCell ⟨g,1,none⟩ (.slice A2 (lim9 y).length c2)).setCell ⟨g + 1,0,none⟩ (.bool sa)).setCell ⟨g + 1,1,none⟩ (.slice A1 (lim9 x).length c1))=W5:=⟨_,rfl⟩
     rw [hW5]
     obtain ⟨y1,y2,y3,y4⟩:=swap_boxes nd X1.out X2.out hW5
     clear hW5 c0 c1' c2' c3 f0 f1 f2 f3
     have c0:W5.cell? ⟨g,0,none⟩=some (.bool sb):=by rw [Lib.cell_of_heap y1]; rfl
     have c1':W5.cell? ⟨g,1,none⟩=some (.slice A2 (lim9 y).length c2):=by rw [Lib.cell_of_heap y1]; rfl
     have c3:W5.cell? ⟨g + 1,1,none⟩=some (.slice A1 (lim9 x).length c1):=by rw [Lib.cell_of_heap y2]; rfl
     have v0:Below w3.heap.size w3 W5:=y4 _ _ (by rw [HG.out]; exact Nat.le_refl _) X4.out
     have v1:=S3.out.below v0
     have v2:=S2.out.below v0
     have hb5:=y4 _ _ HWG.out HBW.out
     have V1:=Lib.hid v1
     have V2:=Lib.hid v2
     have HB5:=Lib.hid hb5
     have hg4:g < W5.heap.size:=by omega
     have hg5:g + 1 < W5.heap.size:=by omega
     have hmi:=fun W (hW:Below W5.heap.size W5 W)=>minus_any A2 A1 c2 c1 y x W (V2.out.below hW) (V1.out.below hW) (by omega) (by omega)
     have hdl:(lim9 (y - x)).length≤20000:=Nat.le_trans (lim_len_mono 1000000000 (by omega) (y - x) y (Nat.sub_le y x)) (show (lim9 y).length≤20000 by omega)
     have hcl:=fun A c W (hs:Sl W .u64 A c (lim9 (y - x))) (hW:Below w.heap.size w W)=>close_any sb A c (y - x) W hs (by omega) (HT.out.below hW)
     rw [HZ.out] at hcl
     have HMI:=Lib.hid hmi
     have HCL:=Lib.hid hcl
     clear hmi hcl y1 y2 y3 y4 v0 v1 v2 hb5 hlt
     go_region_held3 (fun w'=>w'.cell? ⟨g,0,none⟩=some (.bool sb)∧w'.cell? ⟨g,1,none⟩=some (.slice A2 (lim9 y).length c2)∧w'.cell? ⟨g + 1,1,none⟩=some (.slice A1 (lim9 x).length c1))
      (first | exact ⟨c0,c1',c3⟩ | exact ⟨d0,d1,d3⟩ | exact ⟨e0,e1,e3⟩)
      (first
       | (go_at_call 85; refine (HMI.out _ ?_).mono ?_; (first | exact Below.refl _ _ | exact (Below.refl _ _).drew); rintro e w6 ⟨A5,c5,rfl,h7,h8⟩; have d0:=(h8.cell (p:=⟨g,0,none⟩) hg4).trans c0; have d1:=(h8.cell (p:=⟨g,1,none⟩) hg4).trans c1'; have d3:=(h8.cell (p:=⟨g + 1,1,none⟩) hg5).trans c3; have h9:=h8.size; have S5:=Lib.hid h7; have H8:=Lib.hid (HB5.out.drew.trans (h8.mono HB5.out.size)); clear h7 h8)
       | (go_at_call 83; refine (HCL.out _ _ _ S5.out H8.out).mono ?_; rintro e w7 ⟨rfl,h10⟩; have e0:=(h10.cell (p:=⟨g,0,none⟩) (Nat.lt_of_lt_of_le hg4 h9)).trans d0; have e1:=(h10.cell (p:=⟨g,1,none⟩) (Nat.lt_of_lt_of_le hg4 h9)).trans d1; have e3:=(h10.cell (p:=⟨g + 1,1,none⟩) (Nat.lt_of_lt_of_le hg5 h9)).trans d3; have H11:=Lib.hid (H8.out.trans (h10.mono H8.out.size)); clear h10))
     all_goals
      go_wp2
      go_ret
      exact ⟨rfl,H11.out⟩
    ·obtain ⟨r0,hr0⟩:∃ z,cmpN x y=z:=⟨_,rfl⟩
     have hr1:0≤r0:=by rw [← hr0]; unfold cmpN; rw [if_neg hlt]; split <;> omega
     rw [hr0] at ho
     have HO:=Lib.hid ho
     have hmi:=fun W (hW:Below W4.heap.size W4 W)=>minus_any A1 A2 c1 c2 x y W (T1.out.below hW) (T2.out.below hW) (by omega) (by omega)
     have hdl:(lim9 (x - y)).length≤20000:=Nat.le_trans (lim_len_mono 1000000000 (by omega) (x - y) x (Nat.sub_le x y)) (show (lim9 x).length≤20000 by omega)
     have hcl:=fun A c W (hs:Sl W .u64 A c (lim9 (x - y))) (hW:Below w.heap.size w W)=>close_any sa A c (x - y) W hs (by omega) (HT.out.below hW)
     rw [E2.out hs (by omega)] at hcl
     have HMI:=Lib.hid hmi
     have HCL:=Lib.hid hcl
     clear ho hmi hcl hr0 hlt
     go_upto_region 11 with (go_at_call 84; refine (HO.out _ (Below.refl _ _)).mono ?_; rintro e w5 ⟨rfl,nd,rfl⟩)
     obtain ⟨W5,hW5⟩:∃ W5,W4.drewN nd=W5:=⟨_,rfl⟩
     rw [hW5]
     have l5:Below W4.heap.size W4 W5:=by rw [← hW5]; exact (Drew.of _ nd).below _
     have z5:W5.heap.size=W4.heap.size:=by rw [← hW5]; rfl
     have c0:W5.cell? ⟨g,0,none⟩=some (.bool sa):=by rw [← hW5]; exact c0
     have c1':W5.cell? ⟨g,1,none⟩=some (.slice A1 (lim9 x).length c1):=by rw [← hW5]; exact c1'
     have c3:W5.cell? ⟨g + 1,1,none⟩=some (.slice A2 (lim9 y).length c2):=by rw [← hW5]; exact c3
     have hg4:g < W5.heap.size:=by omega
     have hg5:g + 1 < W5.heap.size:=by omega
     have hb5:=HBW.out.trans (l5.mono HBW.out.size)
     have L5:=Lib.hid l5
     have HB5:=Lib.hid hb5
     clear hW5 l5 z5 hb5
     go_region_held3 (fun w'=>w'.cell? ⟨g,0,none⟩=some (.bool sa)∧w'.cell? ⟨g,1,none⟩=some (.slice A1 (lim9 x).length c1)∧w'.cell? ⟨g + 1,1,none⟩=some (.slice A2 (lim9 y).length c2))
      (first | exact ⟨c0,c1',c3⟩ | exact ⟨d0,d1,d3⟩ | exact ⟨e0,e1,e3⟩)
      (first
       | (go_at_call 85; refine (HMI.out _ ?_).mono ?_; (first | exact L5.out | exact L5.out.drew); rintro e w6 ⟨A5,c5,rfl,h7,h8⟩; have d0:=(h8.cell (p:=⟨g,0,none⟩) hg4).trans c0; have d1:=(h8.cell (p:=⟨g,1,none⟩) hg4).trans c1'; have d3:=(h8.cell (p:=⟨g + 1,1,none⟩) hg5).trans c3; have h9:=h8.size; have S5:=Lib.hid h7; have H8:=Lib.hid (HB5.out.drew.trans (h8.mono HB5.out.size)); clear h7 h8)
       | (go_at_call 83; refine (HCL.out _ _ _ S5.out H8.out).mono ?_; rintro e w7 ⟨rfl,h10⟩; have e0:=(h10.cell (p:=⟨g,0,none⟩) (Nat.lt_of_lt_of_le hg4 h9)).trans d0; have e1:=(h10.cell (p:=⟨g,1,none⟩) (Nat.lt_of_lt_of_le hg4 h9)).trans d1; have e3:=(h10.cell (p:=⟨g + 1,1,none⟩) (Nat.lt_of_lt_of_le hg5 h9)).trans d3; have H11:=Lib.hid (H8.out.trans (h10.mono H8.out.size)); clear h10))
     all_goals
      go_wp2
      go_ret
      exact ⟨rfl,H11.out⟩

  ·have q1:=fun W=>quick_no a 18 (by omega) W
   have Q1:=Lib.hid q1
   clear q1 hq h1
   go_enter Tryz.func52, Tryz.ntmps52
   go_upto_region 7 with (first
    | (go_at_call_of 80 (Value.string (canon a)); refine (Q1.out _).mono ?_; rintro e w1 ⟨rfl,rfl⟩)
    | (go_at_call_of 81 (Value.string (canon a)); refine (O1.out _).mono ?_; rintro e w2 ⟨A1,c1,rfl,h3,h4⟩; have S1:=Lib.hid h3; have H4:=Lib.hid h4; clear h3 h4)
    | (go_at_call_of 81 (Value.string (canon b)); refine (O2.out _).mono ?_; rintro e w3 ⟨A2,c2,rfl,h5,h6⟩; have S2:=Lib.hid h5; have H6:=Lib.hid h6; clear h5 h6))
   obtain ⟨g,hg⟩:∃ g,w3.heap.size=g:=⟨_,rfl⟩
   have x1:=heap_alloc_new w3 (Obj.cells #[Value.bool sa,Value.slice A1 (lim9 x).length c1] 143)
   have x2:=heap_alloc_new (w3.alloc (Obj.cells #[Value.bool sa,Value.slice A1 (lim9 x).length c1] 143)) (Obj.cells #[Value.bool sb,Value.slice A2 (lim9 y).length c2] 143)
   have x3:=heap_more x1 (Obj.cells #[Value.bool sb,Value.slice A2 (lim9 y).length c2] 143)
   have x4:Below w3.heap.size w3 ((w3.alloc (Obj.cells #[Value.bool sa,Value.slice A1 (lim9 x).length c1] 143)).alloc (Obj.cells #[Value.bool sb,Value.slice A2 (lim9 y).length c2] 143)):=((Below.refl _ _).alloc (Nat.le_refl _) _).alloc (by simp) _
   have x5:((w3.alloc (Obj.cells #[Value.bool sa,Value.slice A1 (lim9 x).length c1] 143)).alloc (Obj.cells #[Value.bool sb,Value.slice A2 (lim9 y).length c2] 143)).heap.size=g + 2:=by rw [World.size_alloc,World.size_alloc,hg]
   rw [World.size_alloc] at x2
   rw [hg] at x1 x2 x3 ⊢
   generalize (w3.alloc (Obj.cells #[Value.bool sa,Value.slice A1 (lim9 x).length c1] 143)).alloc (Obj.cells #[Value.bool sb,Value.slice A2 (lim9 y).length c2] 143)=W4 at *
   have c0:W4.cell? ⟨g,0,none⟩=some (.bool sa):=by rw [Lib.cell_of_heap x3]; rfl
   have c1':W4.cell? ⟨g,1,none⟩=some (.slice A1 (lim9 x).length c1):=by rw [Lib.cell_of_heap x3]; rfl
   have c2':W4.cell? ⟨g + 1,0,none⟩=some (.bool sb):=by rw [Lib.cell_of_heap x2]; rfl
   have c3:W4.cell? ⟨g + 1,1,none⟩=some (.slice A2 (lim9 y).length c2):=by rw [Lib.cell_of_heap x2]; rfl
   have s1:=(S1.out.below H6.out).below x4
   have s2:=S2.out.below x4
   have hbw:=(H4.out.trans (H6.out.mono H4.out.size)).trans (x4.mono (Nat.le_trans H4.out.size H6.out.size))
   have hg4:g < W4.heap.size:=by omega
   have hg5:g + 1 < W4.heap.size:=by omega
   have HBW:=Lib.hid hbw
   have X1:=Lib.hid x3
   have X2:=Lib.hid x2
   have T1:=Lib.hid s1
   have T2:=Lib.hid s2
   have S3:=Lib.hid (S1.out.below H6.out)
   have X4:=Lib.hid x4
   have HG:=Lib.hid hg
   have hwg:w.heap.size≤g:=by
    rw [← hg]
    first
     | exact Nat.le_trans H3.out.size (Nat.le_trans H4.out.size H6.out.size)
     | exact Nat.le_trans H4.out.size H6.out.size
   have HWG:=Lib.hid hwg
   clear hbw x1 x2 x3 x4 x5 s1 s2 hg hwg
   by_cases hs:sa=sb
   ·subst hs
    have hpl:=fun W (hW:Below W4.heap.size W4 W)=>plus_any A1 A2 c1 c2 x y W (T1.out.below hW) (T2.out.below hW) (by omega) (by omega)
    have hcl:=fun A c W (hs:Sl W .u64 A c (lim9 (x + y))) (hW:Below w.heap.size w W)=>close_any sa A c (x + y) W hs (by omega) (HT.out.below hW)
    rw [E1.out rfl] at hcl
    have HPL:=Lib.hid hpl
    have HCL:=Lib.hid hcl
    clear hpl hcl
    go_upto_region 8 with fail
    go_region_held3 (fun w'=>w'.cell? ⟨g,0,none⟩=some (.bool sa)∧w'.cell? ⟨g,1,none⟩=some (.slice A1 (lim9 x).length c1)∧w'.cell? ⟨g + 1,1,none⟩=some (.slice A2 (lim9 y).length c2))
     (first | exact ⟨c0,c1',c3⟩ | exact ⟨d0,d1,d3⟩ | exact ⟨e0,e1,e3⟩)
     (first
      | (go_at_call 82; refine (HPL.out _ ?_).mono ?_; (first | exact Below.refl _ _ | exact (Below.refl _ _).drew); rintro e w5 ⟨A5,c5,rfl,h7,h8⟩; have d0:=(h8.cell (p:=⟨g,0,none⟩) hg4).trans c0; have d1:=(h8.cell (p:=⟨g,1,none⟩) hg4).trans c1'; have d3:=(h8.cell (p:=⟨g + 1,1,none⟩) hg5).trans c3; have h9:=h8.size; have S5:=Lib.hid h7; have H8:=Lib.hid (HBW.out.drew.trans (h8.mono HBW.out.size)); clear h7 h8)
      | (go_at_call 83; refine (HCL.out _ _ _ S5.out H8.out).mono ?_; rintro e w6 ⟨rfl,h10⟩; have e0:=(h10.cell (p:=⟨g,0,none⟩) (Nat.lt_of_lt_of_le hg4 h9)).trans d0; have e1:=(h10.cell (p:=⟨g,1,none⟩) (Nat.lt_of_lt_of_le hg4 h9)).trans d1; have e3:=(h10.cell (p:=⟨g + 1,1,none⟩) (Nat.lt_of_lt_of_le hg5 h9)).trans d3; have H11:=Lib.hid (H8.out.trans (h10.mono H8.out.size)); clear h10))
    all_goals
     go_wp2
     go_ret
     exact ⟨rfl,H11.out⟩
   ·have t1:(sa == sb)=false:=beq_eq_false_iff_ne.2 hs
    have ho:=fun W (hW:Below W4.heap.size W4 W)=>order_any A1 A2 c1 c2 x y W (T1.out.below hW) (T2.out.below hW) (by omega) (by omega)
    by_cases hlt:x < y
    ·rw [cmpN_lt hlt] at ho
     have HO:=Lib.hid ho
     have hz:=E3.out hs hlt
     have f0:=Lib.frozen_of_heap X1.out 0
     have f1:=Lib.frozen_of_heap X1.out 1
     have f2:=Lib.frozen_of_heap X2.out 0
     have f3:=Lib.frozen_of_heap X2.out 1
     have HZ:=Lib.hid hz
     clear ho hz
     go_upto_region 11 with (go_at_call 84; refine (HO.out _ (Below.refl _ _)).mono ?_; rintro e w5 ⟨rfl,nd,rfl⟩)
     obtain ⟨W5,hW5⟩:∃ W5,(((((W4.drewN nd).setCell ⟨g,0,none⟩ (.bool sb)).setCell ⟨g,1,none⟩ (.slice A2 (lim9 y).length c2)).setCell ⟨g + 1,0,none⟩ (.bool sa)).setCell ⟨g + 1,1,none⟩ (.slice A1 (lim9 x).length c1))=W5:=⟨_,rfl⟩
     rw [hW5]
     obtain ⟨y1,y2,y3,y4⟩:=swap_boxes nd X1.out X2.out hW5
     clear hW5 c0 c1' c2' c3 f0 f1 f2 f3
     have c0:W5.cell? ⟨g,0,none⟩=some (.bool sb):=by rw [Lib.cell_of_heap y1]; rfl
     have c1':W5.cell? ⟨g,1,none⟩=some (.slice A2 (lim9 y).length c2):=by rw [Lib.cell_of_heap y1]; rfl
     have c3:W5.cell? ⟨g + 1,1,none⟩=some (.slice A1 (lim9 x).length c1):=by rw [Lib.cell_of_heap y2]; rfl
     have v0:Below w3.heap.size w3 W5:=y4 _ _ (by rw [HG.out]; exact Nat.le_refl _) X4.out
     have v1:=S3.out.below v0
     have v2:=S2.out.below v0
     have hb5:=y4 _ _ HWG.out HBW.out
     have V1:=Lib.hid v1
     have V2:=Lib.hid v2
     have HB5:=Lib.hid hb5
     have hg4:g < W5.heap.size:=by omega
     have hg5:g + 1 < W5.heap.size:=by omega
     have hmi:=fun W (hW:Below W5.heap.size W5 W)=>minus_any A2 A1 c2 c1 y x W (V2.out.below hW) (V1.out.below hW) (by omega) (by omega)
     have hdl:(lim9 (y - x)).length≤20000:=Nat.le_trans (lim_len_mono 1000000000 (by omega) (y - x) y (Nat.sub_le y x)) (show (lim9 y).length≤20000 by omega)
     have hcl:=fun A c W (hs:Sl W .u64 A c (lim9 (y - x))) (hW:Below w.heap.size w W)=>close_any sb A c (y - x) W hs (by omega) (HT.out.below hW)
     rw [HZ.out] at hcl
     have HMI:=Lib.hid hmi
     have HCL:=Lib.hid hcl
     clear hmi hcl y1 y2 y3 y4 v0 v1 v2 hb5 hlt
     go_region_held3 (fun w'=>w'.cell? ⟨g,0,none⟩=some (.bool sb)∧w'.cell? ⟨g,1,none⟩=some (.slice A2 (lim9 y).length c2)∧w'.cell? ⟨g + 1,1,none⟩=some (.slice A1 (lim9 x).length c1))
      (first | exact ⟨c0,c1',c3⟩ | exact ⟨d0,d1,d3⟩ | exact ⟨e0,e1,e3⟩)
      (first
       | (go_at_call 85; refine (HMI.out _ ?_).mono ?_; (first | exact Below.refl _ _ | exact (Below.refl _ _).drew); rintro e w6 ⟨A5,c5,rfl,h7,h8⟩; have d0:=(h8.cell (p:=⟨g,0,none⟩) hg4).trans c0; have d1:=(h8.cell (p:=⟨g,1,none⟩) hg4).trans c1'; have d3:=(h8.cell (p:=⟨g + 1,1,none⟩) hg5).trans c3; have h9:=h8.size; have S5:=Lib.hid h7; have H8:=Lib.hid (HB5.out.drew.trans (h8.mono HB5.out.size)); clear h7 h8)
       | (go_at_call 83; refine (HCL.out _ _ _ S5.out H8.out).mono ?_; rintro e w7 ⟨rfl,h10⟩; have e0:=(h10.cell (p:=⟨g,0,none⟩) (Nat.lt_of_lt_of_le hg4 h9)).trans d0; have e1:=(h10.cell (p:=⟨g,1,none⟩) (Nat.lt_of_lt_of_le hg4 h9)).trans d1; have e3:=(h10.cell (p:=⟨g + 1,1,none⟩) (Nat.lt_of_lt_of_le hg5 h9)).trans d3; have H11:=Lib.hid (H8.out.trans (h10.mono H8.out.size)); clear h10))
     all_goals
      go_wp2
      go_ret
      exact ⟨rfl,H11.out⟩
    ·obtain ⟨r0,hr0⟩:∃ z,cmpN x y=z:=⟨_,rfl⟩
     have hr1:0≤r0:=by rw [← hr0]; unfold cmpN; rw [if_neg hlt]; split <;> omega
     rw [hr0] at ho
     have HO:=Lib.hid ho
     have hmi:=fun W (hW:Below W4.heap.size W4 W)=>minus_any A1 A2 c1 c2 x y W (T1.out.below hW) (T2.out.below hW) (by omega) (by omega)
     have hdl:(lim9 (x - y)).length≤20000:=Nat.le_trans (lim_len_mono 1000000000 (by omega) (x - y) x (Nat.sub_le x y)) (show (lim9 x).length≤20000 by omega)
     have hcl:=fun A c W (hs:Sl W .u64 A c (lim9 (x - y))) (hW:Below w.heap.size w W)=>close_any sa A c (x - y) W hs (by omega) (HT.out.below hW)
     rw [E2.out hs (by omega)] at hcl
     have HMI:=Lib.hid hmi
     have HCL:=Lib.hid hcl
     clear ho hmi hcl hr0 hlt
     go_upto_region 11 with (go_at_call 84; refine (HO.out _ (Below.refl _ _)).mono ?_; rintro e w5 ⟨rfl,nd,rfl⟩)
     obtain ⟨W5,hW5⟩:∃ W5,W4.drewN nd=W5:=⟨_,rfl⟩
     rw [hW5]
     have l5:Below W4.heap.size W4 W5:=by rw [← hW5]; exact (Drew.of _ nd).below _
     have z5:W5.heap.size=W4.heap.size:=by rw [← hW5]; rfl
     have c0:W5.cell? ⟨g,0,none⟩=some (.bool sa):=by rw [← hW5]; exact c0
     have c1':W5.cell? ⟨g,1,none⟩=some (.slice A1 (lim9 x).length c1):=by rw [← hW5]; exact c1'
     have c3:W5.cell? ⟨g + 1,1,none⟩=some (.slice A2 (lim9 y).length c2):=by rw [← hW5]; exact c3
     have hg4:g < W5.heap.size:=by omega
     have hg5:g + 1 < W5.heap.size:=by omega
     have hb5:=HBW.out.trans (l5.mono HBW.out.size)
     have L5:=Lib.hid l5
     have HB5:=Lib.hid hb5
     clear hW5 l5 z5 hb5
     go_region_held3 (fun w'=>w'.cell? ⟨g,0,none⟩=some (.bool sa)∧w'.cell? ⟨g,1,none⟩=some (.slice A1 (lim9 x).length c1)∧w'.cell? ⟨g + 1,1,none⟩=some (.slice A2 (lim9 y).length c2))
      (first | exact ⟨c0,c1',c3⟩ | exact ⟨d0,d1,d3⟩ | exact ⟨e0,e1,e3⟩)
      (first
       | (go_at_call 85; refine (HMI.out _ ?_).mono ?_; (first | exact L5.out | exact L5.out.drew); rintro e w6 ⟨A5,c5,rfl,h7,h8⟩; have d0:=(h8.cell (p:=⟨g,0,none⟩) hg4).trans c0; have d1:=(h8.cell (p:=⟨g,1,none⟩) hg4).trans c1'; have d3:=(h8.cell (p:=⟨g + 1,1,none⟩) hg5).trans c3; have h9:=h8.size; have S5:=Lib.hid h7; have H8:=Lib.hid (HB5.out.drew.trans (h8.mono HB5.out.size)); clear h7 h8)
       | (go_at_call 83; refine (HCL.out _ _ _ S5.out H8.out).mono ?_; rintro e w7 ⟨rfl,h10⟩; have e0:=(h10.cell (p:=⟨g,0,none⟩) (Nat.lt_of_lt_of_le hg4 h9)).trans d0; have e1:=(h10.cell (p:=⟨g,1,none⟩) (Nat.lt_of_lt_of_le hg4 h9)).trans d1; have e3:=(h10.cell (p:=⟨g + 1,1,none⟩) (Nat.lt_of_lt_of_le hg5 h9)).trans d3; have H11:=Lib.hid (H8.out.trans (h10.mono H8.out.size)); clear h10))
     all_goals
      go_wp2
      go_ret
      exact ⟨rfl,H11.out⟩

end Go.Proofs.YthhkmihjnnfpgaaGreatDoor
