/- Plain mathematics of correlation. No program in sight. -/
import Derived.Test.YthhkmihjnnfpgaaGreatDoorGCorA
/- Correlate's plain mathematics: least rests, ways, potentials. -/
namespace Go.Proofs.YthhkmihjnnfpgaaGreatDoor
set_option linter.all false
open Go.RowKit

theorem kinds_of {k:Nat} (h:1≤k∧k≤5):k ∈ kinds:=by
 unfold kinds
 simp only [List.mem_cons,List.not_mem_nil,or_false]
 omega
theorem of_kinds {k:Nat} (h:k ∈ kinds):1≤k∧k≤5:=by
 unfold kinds at h
 simp only [List.mem_cons,List.not_mem_nil,or_false] at h
 omega
theorem imp_le (a:Option Int) (x y:Int) (h:imp a x=some y):y≤x∧∀ z,a=some z→y≤z:=by
 unfold imp at h
 cases a with
 | none =>
  injection h with h
  subst h
  exact ⟨Int.le_refl _,fun z e=>by cases e⟩
 | some z =>
  dsimp only at h
  split at h
  ·injection h with h
   subst h
   exact ⟨Int.le_refl _,fun z' e=>by injection e with e; omega⟩
  ·injection h with h
   subst h
   exact ⟨by omega,fun z' e=>by injection e with e; omega⟩
theorem fold_le (q:CQ) (r:Nat→Nat→Int) (i j:Nat):∀ (l:List Nat) (a:Option Int) (y:Int),l.foldl (tryK q r i j) a=some y→(∀ z,a=some z→y≤z)∧∀ k ∈ l,okS q k i j→y≤r (nxI k i) (nxJ k j) + cst q k i j
 | [],a,y,h=>⟨fun z e=>by rw [List.foldl_nil,e] at h; injection h with h; omega,fun k hk=>by cases hk⟩
 | k :: l,a,y,h=>by
  rw [List.foldl_cons] at h
  obtain ⟨h1,h2⟩:=fold_le q r i j l _ y h
  unfold tryK at h1
  by_cases ho:okS q k i j
  ·rw [if_pos ho] at h1
   obtain ⟨v,hv,hv2⟩:=imp_some a (r (nxI k i) (nxJ k j) + cst q k i j)
   have h3:=h1 v hv
   have h4:=(imp_le _ _ _ hv).2
   refine ⟨fun z e=>Int.le_trans h3 (h4 z e),fun k' hk' ho'=>?_⟩
   rcases List.mem_cons.1 hk' with rfl | hk'
   ·omega
   ·exact h2 k' hk' ho'
  ·rw [if_neg ho] at h1
   refine ⟨h1,fun k' hk' ho'=>?_⟩
   rcases List.mem_cons.1 hk' with rfl | hk'
   ·exact absurd ho' ho
   ·exact h2 k' hk' ho'
theorem rst_le (q:CQ) (i j k:Nat) (hi:i≤q.L.length) (hj:j≤q.R.length) (hk:k ∈ kinds) (ho:okS q k i j):rst q i j≤rst q (nxI k i) (nxJ k j) + cst q k i j :=
 (fold_le q (rst q) i j kinds _ _ (part_all q i j hi hj)).2 k hk ho
theorem ok_end {q:CQ} {k:Nat} (hk:k ∈ kinds):¬ okS q k q.L.length q.R.length:=by
 intro h
 have h1:=nx_more (i:=q.L.length) (j:=q.R.length) hk
 have h2:=h.1
 have h3:=h.2.1
 omega
theorem fold_end (q:CQ) (r:Nat→Nat→Int) (i j:Nat):∀ (l:List Nat) (a:Option Int),(∀ k ∈ l,¬ okS q k i j)→l.foldl (tryK q r i j) a=a
 | [],a,_=>rfl
 | k :: l,a,h=>by
  rw [List.foldl_cons]
  unfold tryK
  rw [if_neg (h k List.mem_cons_self)]
  exact fold_end q r i j l a (fun k' hk'=>h k' (List.mem_cons_of_mem _ hk'))
theorem rst_end (q:CQ):rst q q.L.length q.R.length=0:=by
 rw [rst_eq q _ _ (Nat.le_refl _) (Nat.le_refl _)]
 unfold part
 rw [fold_end q (rst q) _ _ _ _ (fun k hk=>ok_end (List.mem_of_mem_take hk))]
 unfold fin?
 rw [if_pos ⟨rfl,rfl⟩]
 rfl
def left (q:CQ) (i j:Nat):Nat:=q.L.length - i + (q.R.length - j)
theorem left_nx {q:CQ} {k i j:Nat} (hk:k ∈ kinds) (ho:okS q k i j):left q (nxI k i) (nxJ k j) < left q i j:=by
 have h1:=nx_more (i:=i) (j:=j) hk
 have h2:=ho.1
 have h3:=ho.2.1
 unfold left
 omega
theorem left_zero {q:CQ} {i j:Nat} (hi:i≤q.L.length) (hj:j≤q.R.length) (h:left q i j=0):i=q.L.length∧j=q.R.length:=by
 unfold left at h
 omega
theorem rst_bd (q:CQ) (b:Nat) (hc:∀ k i j,k ∈ kinds→0≤cst q k i j∧cst q k i j≤b):∀ (d i j:Nat),left q i j=d→i≤q.L.length→j≤q.R.length→0≤rst q i j∧rst q i j≤(d * b:Nat)
 | d,i,j,hd,hi,hj=>by
  by_cases h0:d=0
  ·obtain ⟨rfl,rfl⟩:=left_zero hi hj (hd.trans h0)
   rw [rst_end]
   omega
  ·have hne:i < q.L.length ∨ j < q.R.length:=by unfold left at hd; omega
   constructor
   ·obtain ⟨k,hk,ho,he⟩:=good_some q i j hi hj hne
    have h1:=left_nx hk ho
    have:=(rst_bd q b hc (left q (nxI k i) (nxJ k j)) _ _ rfl ho.1 ho.2.1).1
    have:=(hc k i j hk).1
    omega
   ·obtain ⟨k,hk,ho,hl⟩:∃ k,k ∈ kinds∧okS q k i j∧left q (nxI k i) (nxJ k j)=d - 1:=by
     by_cases h1:i < q.L.length
     ·exact ⟨2,by decide,by unfold okS nxI nxJ; simp; omega,by unfold left nxI nxJ at *; simp; omega⟩
     ·exact ⟨3,by decide,by unfold okS nxI nxJ; simp; omega,by unfold left nxI nxJ at *; simp; omega⟩
    have h1:=(rst_bd q b hc (d - 1) _ _ hl ho.1 ho.2.1).2
    have h2:=rst_le q i j k hi hj hk ho
    have h3:=(hc k i j hk).2
    have h4:(d - 1) * b + b=d * b:=by
     obtain ⟨e,rfl⟩:∃ e,d=e + 1:=⟨d - 1,by omega⟩
     rw [Nat.add_sub_cancel,Nat.succ_mul]
    omega
 termination_by d=>d
 decreasing_by all_goals (subst hd; first | exact left_nx hk ho | omega)

/-! The number of ways. -/
theorem cntF_more (q:CQ):∀ (d e i j:Nat),left q i j < d→left q i j < e→cntF q d i j=cntF q e i j
 | 0,_,i,j,h,_=>by omega
 | _,0,i,j,_,h=>by omega
 | d + 1,e + 1,i,j,hd,he=>by
  show _ + ((kinds.filter (fun k=>goodS q i j k)).map (fun k=>cntF q d (nxI k i) (nxJ k j))).sum=_ + ((kinds.filter (fun k=>goodS q i j k)).map (fun k=>cntF q e (nxI k i) (nxJ k j))).sum
  congr 2
  refine List.map_congr_left (fun k hk=>?_)
  obtain ⟨h1,h2⟩:=List.mem_filter.1 hk
  have ho:=(of_decide_eq_true h2).1
  have:=left_nx h1 ho
  exact cntF_more q d e _ _ (by omega) (by omega)
theorem cnt_eq (q:CQ) (i j:Nat):cnt q i j=(if i=q.L.length∧j=q.R.length then 1 else 0) + ((kinds.filter (fun k=>goodS q i j k)).map (fun k=>cnt q (nxI k i) (nxJ k j))).sum:=by
 show cntF q (left q i j + 1) i j=_
 show _ + ((kinds.filter (fun k=>goodS q i j k)).map (fun k=>cntF q (left q i j) (nxI k i) (nxJ k j))).sum=_
 congr 2
 refine List.map_congr_left (fun k hk=>?_)
 obtain ⟨h1,h2⟩:=List.mem_filter.1 hk
 have ho:=(of_decide_eq_true h2).1
 have:=left_nx h1 ho
 exact cntF_more q _ (left q (nxI k i) (nxJ k j) + 1) _ _ (by omega) (by omega)
theorem csum_le (l:List Nat) (f:Nat→Nat) (b:Nat) (h:∀ k ∈ l,f k≤b):(l.map f).sum≤l.length * b:=by
 induction l with
 | nil=>simp
 | cons x l ih =>
  have h1:=h x List.mem_cons_self
  have h2:=ih (fun k hk=>h k (List.mem_cons_of_mem _ hk))
  rw [List.map_cons,List.sum_cons,List.length_cons,Nat.succ_mul]
  omega
theorem cnt_bd (q:CQ):∀ (d i j:Nat),left q i j=d→i≤q.L.length→j≤q.R.length→cnt q i j≤5 ^ d
 | d,i,j,hd,hi,hj=>by
  rw [cnt_eq]
  by_cases h0:d=0
  ·obtain ⟨rfl,rfl⟩:=left_zero hi hj (hd.trans h0)
   rw [if_pos ⟨rfl,rfl⟩,List.filter_eq_nil_iff.2 (fun k hk h=>ok_end hk (of_decide_eq_true h).1),h0]
   simp
  ·have hne:¬ (i=q.L.length∧j=q.R.length):=by unfold left at hd; omega
   rw [if_neg hne,Nat.zero_add]
   have h5:(5:Nat) ^ d=5 * 5 ^ (d - 1):=by
    obtain ⟨e,rfl⟩:∃ e,d=e + 1:=⟨d - 1,by omega⟩
    rw [Nat.add_sub_cancel,Nat.pow_succ,Nat.mul_comm]
   have hl:(kinds.filter (fun k=>goodS q i j k)).length≤5:=Nat.le_trans (List.length_filter_le _ _) (by decide)
   have:=csum_le (kinds.filter (fun k=>goodS q i j k)) (fun k=>cnt q (nxI k i) (nxJ k j)) (5 ^ (d - 1)) (fun k hk=>by
    obtain ⟨h1,h2⟩:=List.mem_filter.1 hk
    have ho:=(of_decide_eq_true h2).1
    have h3:=left_nx h1 ho
    have h4:=cnt_bd q (left q (nxI k i) (nxJ k j)) _ _ rfl ho.1 ho.2.1
    exact Nat.le_trans h4 (Nat.pow_le_pow_right (by omega) (by omega)))
   have:=Nat.mul_le_mul_right (5 ^ (d - 1)) hl
   omega
 termination_by d=>d
 decreasing_by subst hd; exact left_nx h1 ho

/-! The least best way. -/
theorem cfirst_good (q:CQ) (i j:Nat) (hi:i≤q.L.length) (hj:j≤q.R.length) (hne:i < q.L.length ∨ j < q.R.length):firstK q i j ∈ kinds∧goodS q i j (firstK q i j):=by
 obtain ⟨k,hk,hg⟩:=good_some q i j hi hj hne
 unfold firstK
 cases h:kinds.find? (fun k=>goodS q i j k) with
 | none=>exact absurd (decide_eq_true hg) (by simpa using List.find?_eq_none.1 h k hk)
 | some x =>
  have h2:=List.find?_some (p:=fun k=>decide (goodS q i j k)) h
  exact ⟨List.mem_of_find?_eq_some h,of_decide_eq_true h2⟩
def way (q:CQ) (i j:Nat):List (Nat × Nat × Nat):=wayF q (left q i j) i j
theorem wayF_more (q:CQ):∀ (d e i j:Nat),left q i j≤d→left q i j≤e→i≤q.L.length→j≤q.R.length→wayF q d i j=wayF q e i j
 | 0,0,_,_,_,_,_,_=>rfl
 | 0,e + 1,i,j,h,_,hi,hj=>by
  have:=left_zero hi hj (by omega)
  show []=if i < q.L.length ∨ j < q.R.length then _ else []
  rw [if_neg (by omega)]
 | d + 1,0,i,j,_,h,hi,hj=>by
  have:=left_zero hi hj (by omega)
  show (if i < q.L.length ∨ j < q.R.length then _ else [])=[]
  rw [if_neg (by omega)]
 | d + 1,e + 1,i,j,hd,he,hi,hj=>by
  show (if i < q.L.length ∨ j < q.R.length then _ else [])=(if i < q.L.length ∨ j < q.R.length then _ else [])
  by_cases hne:i < q.L.length ∨ j < q.R.length
  ·rw [if_pos hne,if_pos hne]
   obtain ⟨h1,h2⟩:=cfirst_good q i j hi hj hne
   have h3:=left_nx h1 h2.1
   rw [wayF_more q d e _ _ (by omega) (by omega) h2.1.1 h2.1.2.1]
  ·rw [if_neg hne,if_neg hne]
theorem way_cons (q:CQ) (i j:Nat) (hi:i≤q.L.length) (hj:j≤q.R.length) (hne:i < q.L.length ∨ j < q.R.length):way q i j=(firstK q i j,i,j) :: way q (nxI (firstK q i j) i) (nxJ (firstK q i j) j):=by
 obtain ⟨h1,h2⟩:=cfirst_good q i j hi hj hne
 have h3:=left_nx h1 h2.1
 unfold way
 obtain ⟨d,hd⟩:∃ d,left q i j=d + 1:=⟨left q i j - 1,by omega⟩
 rw [hd]
 show (if i < q.L.length ∨ j < q.R.length then _ else [])=_
 rw [if_pos hne,wayF_more q d (left q (nxI (firstK q i j) i) (nxJ (firstK q i j) j)) _ _ (by omega) (Nat.le_refl _) h2.1.1 h2.1.2.1]
theorem way_nil (q:CQ) (i j:Nat) (hne:¬ (i < q.L.length ∨ j < q.R.length)):way q i j=[]:=by
 unfold way
 have:left q i j=0:=by unfold left; omega
 rw [this]
 rfl
theorem way_len (q:CQ):∀ (d i j:Nat),left q i j=d→i≤q.L.length→j≤q.R.length→(way q i j).length≤d
 | d,i,j,hd,hi,hj=>by
  by_cases hne:i < q.L.length ∨ j < q.R.length
  ·obtain ⟨h1,h2⟩:=cfirst_good q i j hi hj hne
   have h3:=left_nx h1 h2.1
   rw [way_cons q i j hi hj hne,List.length_cons]
   have:=way_len q _ _ _ rfl h2.1.1 h2.1.2.1
   omega
  ·rw [way_nil q i j hne]
   exact Nat.zero_le _
 termination_by d=>d
 decreasing_by subst hd; exact h3

def LeO (s t:Nat→Nat→Option Int):Prop:=∀ x y v,t x y=some v→∃ v',s x y=some v'∧v'≤v
theorem LeO.refl (t:Nat→Nat→Option Int):LeO t t:=fun _ _ v h=>⟨v,h,Int.le_refl _⟩
theorem LeO.trans {r s t:Nat→Nat→Option Int} (h:LeO r s) (k:LeO s t):LeO r t:=fun x y v e=>by
 obtain ⟨v1,e1,l1⟩:=k x y v e
 obtain ⟨v2,e2,l2⟩:=h x y v1 e1
 exact ⟨v2,e2,Int.le_trans l2 l1⟩

end Go.Proofs.YthhkmihjnnfpgaaGreatDoor

/- Correlate's plain mathematics: the number of ways as it is counted, all ways in order, exchanged logs, greater costs, a log with itself, a further interval. -/
namespace Go.Proofs.YthhkmihjnnfpgaaGreatDoor
set_option linter.all false
open Go.RowKit

def tryC (q:CQ) (i j:Nat) (a:Option Int × Nat) (k:Nat):Option Int × Nat :=
 if okS q k i j then
  (match a.1 with
  | none=>(some (rst q (nxI k i) (nxJ k j) + cst q k i j),cnt q (nxI k i) (nxJ k j))
  | some y=>if rst q (nxI k i) (nxJ k j) + cst q k i j < y then (some (rst q (nxI k i) (nxJ k j) + cst q k i j),cnt q (nxI k i) (nxJ k j))
   else if rst q (nxI k i) (nxJ k j) + cst q k i j=y then (some y,a.2 + cnt q (nxI k i) (nxJ k j)) else a)
 else a
def sumG (q:CQ) (i j:Nat) (A:Option Int) (l:List Nat):Nat:=((l.filter (fun k=>decide (okS q k i j∧some (rst q (nxI k i) (nxJ k j) + cst q k i j)=A))).map (fun k=>cnt q (nxI k i) (nxJ k j))).sum
theorem sumG_cons (q:CQ) (i j:Nat) (A:Option Int) (k:Nat) (l:List Nat):sumG q i j A (k :: l)=(if okS q k i j∧some (rst q (nxI k i) (nxJ k j) + cst q k i j)=A then cnt q (nxI k i) (nxJ k j) else 0) + sumG q i j A l:=by
 unfold sumG
 by_cases h:okS q k i j∧some (rst q (nxI k i) (nxJ k j) + cst q k i j)=A
 ·rw [if_pos h,List.filter_cons_of_pos (by simpa using h),List.map_cons,List.sum_cons]
 ·rw [if_neg h,List.filter_cons_of_neg (by simpa using h),Nat.zero_add]
theorem tryC_fold (q:CQ) (i j:Nat):∀ (l:List Nat) (a:Option Int) (n:Nat),l.foldl (tryC q i j) (a,n)=(l.foldl (tryK q (rst q) i j) a,(if l.foldl (tryK q (rst q) i j) a=a then n else 0) + sumG q i j (l.foldl (tryK q (rst q) i j) a) l)
 | [],a,n=>by simp [sumG]
 | k :: l, a, n => by
  rw [List.foldl_cons,List.foldl_cons]
  by_cases ho:okS q k i j
  ·have hk:tryK q (rst q) i j a k=imp a (rst q (nxI k i) (nxJ k j) + cst q k i j):=if_pos ho
   rw [hk,sumG_cons]
   have hle:=fold_le q (rst q) i j l (imp a (rst q (nxI k i) (nxJ k j) + cst q k i j))
   cases a with
   | none =>
    have ht:tryC q i j (none,n) k=(some (rst q (nxI k i) (nxJ k j) + cst q k i j),cnt q (nxI k i) (nxJ k j)):=by unfold tryC; rw [if_pos ho]
    rw [ht]
    show l.foldl (tryC q i j) _=(l.foldl (tryK q (rst q) i j) (some _),_)
    rw [tryC_fold q i j l _ _]
    obtain ⟨A,hA⟩:=Option.isSome_iff_exists.1 (fold_some q (rst q) i j l (some (rst q (nxI k i) (nxJ k j) + cst q k i j)) (.inl rfl))
    rw [show imp none (rst q (nxI k i) (nxJ k j) + cst q k i j)=some (rst q (nxI k i) (nxJ k j) + cst q k i j) from rfl,hA]
    congr 1
    by_cases e:some A=some (rst q (nxI k i) (nxJ k j) + cst q k i j)
    ·rw [if_pos e,if_neg (by simp),if_pos ⟨ho,e.symm⟩]; omega
    ·rw [if_neg e,if_neg (by simp),if_neg (fun h=>e h.2.symm)]
     omega
   | some y =>
    generalize hc:rst q (nxI k i) (nxJ k j) + cst q k i j=c at *
    by_cases h1:c < y
    ·have ht:tryC q i j (some y,n) k=(some c,cnt q (nxI k i) (nxJ k j)):=by unfold tryC; rw [if_pos ho]; dsimp only; rw [hc,if_pos h1]
     have hi:imp (some y) c=some c:=if_pos h1
     rw [hi] at hle ⊢
     rw [ht,tryC_fold q i j l _ _]
     obtain ⟨A,hA⟩:=Option.isSome_iff_exists.1 (fold_some q (rst q) i j l (some c) (.inl rfl))
     have:=(hle A hA).1 c rfl
     rw [hA]
     congr 1
     rw [if_neg (show ¬ some A=some y by simp; omega)]
     by_cases e:some A=some c
     ·rw [if_pos e,if_pos ⟨ho,e.symm⟩]; omega
     ·rw [if_neg e,if_neg (fun h=>e h.2.symm)]
      omega
    ·have hi:imp (some y) c=some y:=if_neg h1
     rw [hi] at hle ⊢
     obtain ⟨A,hA⟩:=Option.isSome_iff_exists.1 (fold_some q (rst q) i j l (some y) (.inl rfl))
     have hAy:=(hle A hA).1 y rfl
     by_cases h2:c=y
     ·have ht:tryC q i j (some y,n) k=(some y,n + cnt q (nxI k i) (nxJ k j)):=by unfold tryC; rw [if_pos ho]; dsimp only; rw [hc,if_neg h1,if_pos h2]
      rw [ht,tryC_fold q i j l _ _,hA]
      congr 1
      by_cases e:some A=some y
      ·rw [if_pos e,if_pos e,if_pos ⟨ho,by rw [h2]; exact e.symm⟩]; omega
      ·rw [if_neg e,if_neg e,if_neg (fun h=>e (by rw [← h2]; exact h.2.symm))]
       omega
     ·have ht:tryC q i j (some y,n) k=(some y,n):=by unfold tryC; rw [if_pos ho]; dsimp only; rw [hc,if_neg h1,if_neg h2]
      rw [ht,tryC_fold q i j l _ _,hA]
      congr 1
      rw [if_neg (show ¬ (okS q k i j∧some c=some A) from fun h=>by have:=h.2; injection this; omega)]
      omega
  ·have hk:tryK q (rst q) i j a k=a:=if_neg ho
   have ht:tryC q i j (a,n) k=(a,n):=if_neg ho
   rw [hk,ht,sumG_cons,if_neg (show ¬ (okS q k i j∧some (rst q (nxI k i) (nxJ k j) + cst q k i j)=l.foldl (tryK q (rst q) i j) a) from fun h=>ho h.1),Nat.zero_add]
   exact tryC_fold q i j l a n
def cntP (q:CQ) (i j k:Nat):Option Int × Nat:=(kinds.take k).foldl (tryC q i j) (none,0)
theorem cntP_next (q:CQ) (i j k:Nat) (hk:k < 5):cntP q i j (k + 1)=tryC q i j (cntP q i j k) (k + 1):=by
 rcases (show k=0 ∨ k=1 ∨ k=2 ∨ k=3 ∨ k=4 by omega) with rfl | rfl | rfl | rfl | rfl <;> rfl
theorem cntP_all (q:CQ) (i j:Nat) (hi:i≤q.L.length) (hj:j≤q.R.length) (hne:¬ (i=q.L.length∧j=q.R.length)):cntP q i j 5=(some (rst q i j),cnt q i j):=by
 have hp:=part_all q i j hi hj
 unfold part fin? at hp
 rw [if_neg hne] at hp
 have ht:kinds.take 5=kinds:=rfl
 rw [ht] at hp
 unfold cntP
 rw [ht,tryC_fold,hp,if_neg (by simp),Nat.zero_add,cnt_eq,if_neg hne,Nat.zero_add]
 unfold sumG
 congr 3
 refine List.filter_congr (fun k _=>?_)
 rw [decide_eq_decide]
 unfold goodS
 constructor
 ·rintro ⟨h1,h2⟩
  injection h2 with h2
  exact ⟨h1,by omega⟩
 ·rintro ⟨h1,h2⟩
  exact ⟨h1,by rw [← h2,Int.add_comm]⟩

/-! All best ways,in order. -/
def allF (q:CQ):Nat→Nat→Nat→List (List (Nat × Nat × Nat))
 | 0,_,_=>[[]]
 | d + 1,i,j=>if i=q.L.length∧j=q.R.length then [[]] else (kinds.filter (fun k=>goodS q i j k)).flatMap (fun k=>(allF q d (nxI k i) (nxJ k j)).map ((k,i,j) :: ·))
def allW (q:CQ) (i j:Nat):List (List (Nat × Nat × Nat)):=allF q (left q i j) i j
theorem flatMap_congr' {α β:Type} {f g:α→List β} {l:List α} (h:∀ a ∈ l,f a=g a):l.flatMap f=l.flatMap g:=by
 induction l with
 | nil=>rfl
 | cons a l ih=>rw [List.flatMap_cons,List.flatMap_cons,h a List.mem_cons_self,ih (fun b hb=>h b (List.mem_cons_of_mem _ hb))]
theorem allF_more (q:CQ):∀ (d e i j:Nat),left q i j≤d→left q i j≤e→i≤q.L.length→j≤q.R.length→allF q d i j=allF q e i j
 | 0,0,_,_,_,_,_,_=>rfl
 | 0,e + 1,i,j,h,_,hi,hj=>by
  have:=left_zero hi hj (by omega)
  show [[]]=if i=q.L.length∧j=q.R.length then [[]] else _
  rw [if_pos this]
 | d + 1,0,i,j,_,h,hi,hj=>by
  have:=left_zero hi hj (by omega)
  show (if i=q.L.length∧j=q.R.length then [[]] else _)=[[]]
  rw [if_pos this]
 | d + 1,e + 1,i,j,hd,he,hi,hj=>by
  show (if i=q.L.length∧j=q.R.length then [[]] else _)=(if i=q.L.length∧j=q.R.length then [[]] else _)
  split
  ·rfl
  ·refine flatMap_congr' (fun k hk=>?_)
   obtain ⟨h1,h2⟩:=List.mem_filter.1 hk
   have ho:=(of_decide_eq_true h2).1
   have:=left_nx h1 ho
   rw [allF_more q d e _ _ (by omega) (by omega) ho.1 ho.2.1]
theorem allW_end (q:CQ):allW q q.L.length q.R.length=[[]]:=by
 unfold allW
 have:left q q.L.length q.R.length=0:=by unfold left; omega
 rw [this]; rfl
theorem allW_eq (q:CQ) (i j:Nat) (hi:i≤q.L.length) (hj:j≤q.R.length) (hne:¬ (i=q.L.length∧j=q.R.length)):allW q i j=(kinds.filter (fun k=>goodS q i j k)).flatMap (fun k=>(allW q (nxI k i) (nxJ k j)).map ((k,i,j) :: ·)):=by
 show allF q (left q i j) i j=_
 obtain ⟨d,hd⟩:∃ d,left q i j=d + 1:=⟨left q i j - 1,by unfold left at *; omega⟩
 rw [hd]
 show (if i=q.L.length∧j=q.R.length then [[]] else _)=_
 rw [if_neg hne]
 refine flatMap_congr' (fun k hk=>?_)
 obtain ⟨h1,h2⟩:=List.mem_filter.1 hk
 have ho:=(of_decide_eq_true h2).1
 have:=left_nx h1 ho
 show (allF q d _ _).map _=(allF q _ _ _).map _
 rw [allF_more q d _ _ _ (by omega) (Nat.le_refl _) ho.1 ho.2.1]
theorem allW_len (q:CQ):∀ (d i j:Nat),left q i j=d→i≤q.L.length→j≤q.R.length→(allW q i j).length=cnt q i j
 | d,i,j,hd,hi,hj=>by
  rw [cnt_eq]
  by_cases hne:i=q.L.length∧j=q.R.length
  ·obtain ⟨rfl,rfl⟩:=hne
   rw [allW_end,if_pos ⟨rfl,rfl⟩,List.filter_eq_nil_iff.2 (fun k hk h=>ok_end hk (of_decide_eq_true h).1)]
   rfl
  ·rw [allW_eq q i j hi hj hne,if_neg hne,Nat.zero_add,List.length_flatMap]
   congr 1
   refine List.map_congr_left (fun k hk=>?_)
   obtain ⟨h1,h2⟩:=List.mem_filter.1 hk
   have ho:=(of_decide_eq_true h2).1
   have h3:=left_nx h1 ho
   rw [List.length_map,allW_len q _ _ _ rfl ho.1 ho.2.1]
 termination_by d=>d
 decreasing_by subst hd; exact h3
def lessS:List (Nat × Nat × Nat)→List (Nat × Nat × Nat)→Bool
 | [],[]=>false
 | [],_ :: _=>true
 | _ :: _,[]=>false
 | x :: a,y :: b=>if x.1=y.1 then lessS a b else decide (x.1 < y.1)
theorem kinds_sorted:kinds.Pairwise (· < ·):=by decide
theorem allW_sorted (q:CQ):∀ (d i j:Nat),left q i j=d→i≤q.L.length→j≤q.R.length→(allW q i j).Pairwise (fun a b=>lessS a b=true)
 | d,i,j,hd,hi,hj=>by
  by_cases hne:i=q.L.length∧j=q.R.length
  ·obtain ⟨rfl,rfl⟩:=hne
   rw [allW_end]
   exact List.pairwise_singleton _ _
  ·rw [allW_eq q i j hi hj hne,List.pairwise_flatMap]
   refine ⟨fun k hk=>?_,?_⟩
   ·obtain ⟨h1,h2⟩:=List.mem_filter.1 hk
    have ho:=(of_decide_eq_true h2).1
    have h3:=left_nx h1 ho
    rw [List.pairwise_map]
    refine (allW_sorted q _ _ _ rfl ho.1 ho.2.1).imp (fun {a b} h=>?_)
    show (if k=k then lessS a b else _)=true
    rw [if_pos rfl]
    exact h
   ·refine (kinds_sorted.filter _).imp (fun {k k'} hlt x hx y hy=>?_)
    obtain ⟨a,_,rfl⟩:=List.mem_map.1 hx
    obtain ⟨b,_,rfl⟩:=List.mem_map.1 hy
    show (if k=k' then _ else decide (k < k'))=true
    rw [if_neg (by omega)]
    exact decide_eq_true hlt
 termination_by d=>d
 decreasing_by subst hd; exact h3

/-! Steps in integers; the total of a list of steps,or its first error. -/
def errI (q:CQ) (k i j:Int):Int :=
 if k < 1 ∨ 5 < k then 12
 else if i < 0 ∨ (q.L.length:Int) < i ∨ j < 0 ∨ (q.R.length:Int) < j then 3
 else if q.L.length < nxI k.toNat i.toNat ∨ q.R.length < nxJ k.toNat j.toNat then 11
 else if (k=4∧¬ repI q.L i.toNat) ∨ (k=5∧¬ repI q.R j.toNat) then 7 else 0
theorem errI_ok {q:CQ} {k i j:Int} (h:errI q k i j=0):∃ k' i' j':Nat,k=k'∧i=i'∧j=j'∧k' ∈ kinds∧i'≤q.L.length∧j'≤q.R.length∧okS q k' i' j':=by
 unfold errI at h
 split at h
 ·cases h
 ·split at h
  ·cases h
  ·split at h
   ·cases h
   ·split at h
    ·cases h
    ·rename_i h1 h2 h3 h4
     refine ⟨k.toNat,i.toNat,j.toNat,by omega,by omega,by omega,kinds_of (by omega),by omega,by omega,by omega,by omega,fun h=>?_,fun h=>?_⟩
     ·exact Classical.byContradiction fun h5=>h4 (.inl ⟨by omega,h5⟩)
     ·exact Classical.byContradiction fun h5=>h4 (.inr ⟨by omega,h5⟩)
theorem errI_nat {q:CQ} {k i j:Nat} (hk:k ∈ kinds) (hi:i≤q.L.length) (hj:j≤q.R.length) (ho:okS q k i j):errI q k i j=0:=by
 have h1:=of_kinds hk
 unfold errI
 rw [if_neg (by omega),if_neg (by omega)]
 simp only [Int.toNat_natCast]
 rw [if_neg (by have:=ho.1; have:=ho.2.1; omega),if_neg ?_]
 rintro (⟨h2,h3⟩ | ⟨h2,h3⟩)
 ·exact h3 (ho.2.2.1 (by omega))
 ·exact h3 (ho.2.2.2 (by omega))
def runF (q:CQ):Nat→Nat→Int→List (Int × Int × Int)→Int × Int
 | i,j,s,[]=>if i=q.L.length∧j=q.R.length then (0,s) else (25,0)
 | i,j,s,(k,a,b) :: l=>if a ≠ (i:Int) ∨ b ≠ (j:Int) then (6,0) else if errI q k a b ≠ 0 then (errI q k a b,0) else runF q (nxI k.toNat i) (nxJ k.toNat j) (s + cst q k.toNat i j) l
def castS (l:List (Nat × Nat × Nat)):List (Int × Int × Int):=l.map (fun x=>((x.1:Int),(x.2.1:Int),(x.2.2:Int)))
theorem runF_cons {q:CQ} {k i j:Nat} (hk:k ∈ kinds) (hi:i≤q.L.length) (hj:j≤q.R.length) (ho:okS q k i j) (s:Int) (l:List (Nat × Nat × Nat)):runF q i j s (castS ((k,i,j) :: l))=runF q (nxI k i) (nxJ k j) (s + cst q k i j) (castS l):=by
 show (if (i:Int) ≠ (i:Int) ∨ (j:Int) ≠ (j:Int) then _ else if errI q k i j ≠ 0 then _ else runF q (nxI ((k:Int).toNat) i) (nxJ ((k:Int).toNat) j) (s + cst q ((k:Int).toNat) i j) (castS l))=_
 rw [if_neg (by omega),if_neg (by rw [errI_nat hk hi hj ho]; omega),Int.toNat_natCast]
theorem allW_run (q:CQ):∀ (d i j:Nat),left q i j=d→i≤q.L.length→j≤q.R.length→∀ w ∈ allW q i j,∀ s,runF q i j s (castS w)=(0,s + rst q i j)
 | d,i,j,hd,hi,hj=>by
  intro w hw s
  by_cases hne:i=q.L.length∧j=q.R.length
  ·obtain ⟨rfl,rfl⟩:=hne
   rw [allW_end,List.mem_singleton] at hw
   subst hw
   show (if q.L.length=q.L.length∧q.R.length=q.R.length then (0,s) else (25,0))=_
   rw [if_pos ⟨rfl,rfl⟩,rst_end,Int.add_zero]
  ·rw [allW_eq q i j hi hj hne,List.mem_flatMap] at hw
   obtain ⟨k,hk,hw⟩:=hw
   obtain ⟨h1,h2⟩:=List.mem_filter.1 hk
   obtain ⟨ho,he⟩:=of_decide_eq_true h2
   have h3:=left_nx h1 ho
   obtain ⟨v,hv,rfl⟩:=List.mem_map.1 hw
   rw [runF_cons h1 hi hj ho,allW_run q _ _ _ rfl ho.1 ho.2.1 v hv]
   congr 1
   omega
 termination_by d=>d
 decreasing_by subst hd; exact h3

end Go.Proofs.YthhkmihjnnfpgaaGreatDoor
