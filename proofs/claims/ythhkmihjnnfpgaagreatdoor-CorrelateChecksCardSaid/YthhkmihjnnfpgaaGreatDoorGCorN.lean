/- Plain mathematics of correlation. No program in sight. -/
import Derived.Test.YthhkmihjnnfpgaaGreatDoorGCorA
/- Correlate's plain mathematics: least rests, ways, potentials. -/
namespace Go.Proofs.YthhkmihjnnfpgaaGreatDoor
set_option linter.all false
open Go.RowKit

theorem kinds_of {k:Nat} (h:1≤k∧k≤5):k ∈ kinds:=by
 unfold kinds
 simp only [List.mem_cons,List.not_mem_nil,or_false]
 omega
theorem of_kinds {k:Nat} (h:k ∈ kinds):1≤k∧k≤5:=by
 unfold kinds at h
 simp only [List.mem_cons,List.not_mem_nil,or_false] at h
 omega
theorem imp_le (a:Option Int) (x y:Int) (h:imp a x=some y):y≤x∧∀ z,a=some z→y≤z:=by
 unfold imp at h
 cases a with
 | none =>
  injection h with h
  subst h
  exact ⟨Int.le_refl _,fun z e=>by cases e⟩
 | some z =>
  dsimp only at h
  split at h
  ·injection h with h
   subst h
   exact ⟨Int.le_refl _,fun z' e=>by injection e with e; omega⟩
  ·injection h with h
   subst h
   exact ⟨by omega,fun z' e=>by injection e with e; omega⟩
theorem fold_le (q:CQ) (r:Nat→Nat→Int) (i j:Nat):∀ (l:List Nat) (a:Option Int) (y:Int),l.foldl (tryK q r i j) a=some y→(∀ z,a=some z→y≤z)∧∀ k ∈ l,okS q k i j→y≤r (nxI k i) (nxJ k j) + cst q k i j
 | [],a,y,h=>⟨fun z e=>by rw [List.foldl_nil,e] at h; injection h with h; omega,fun k hk=>by cases hk⟩
 | k :: l,a,y,h=>by
  rw [List.foldl_cons] at h
  obtain ⟨h1,h2⟩:=fold_le q r i j l _ y h
  unfold tryK at h1
  by_cases ho:okS q k i j
  ·rw [if_pos ho] at h1
   obtain ⟨v,hv,hv2⟩:=imp_some a (r (nxI k i) (nxJ k j) + cst q k i j)
   have h3:=h1 v hv
   have h4:=(imp_le _ _ _ hv).2
   refine ⟨fun z e=>Int.le_trans h3 (h4 z e),fun k' hk' ho'=>?_⟩
   rcases List.mem_cons.1 hk' with rfl | hk'
   ·omega
   ·exact h2 k' hk' ho'
  ·rw [if_neg ho] at h1
   refine ⟨h1,fun k' hk' ho'=>?_⟩
   rcases List.mem_cons.1 hk' with rfl | hk'
   ·exact absurd ho' ho
   ·exact h2 k' hk' ho'
theorem rst_le (q:CQ) (i j k:Nat) (hi:i≤q.L.length) (hj:j≤q.R.length) (hk:k ∈ kinds) (ho:okS q k i j):rst q i j≤rst q (nxI k i) (nxJ k j) + cst q k i j :=
 (fold_le q (rst q) i j kinds _ _ (part_all q i j hi hj)).2 k hk ho
theorem ok_end {q:CQ} {k:Nat} (hk:k ∈ kinds):¬ okS q k q.L.length q.R.length:=by
 intro h
 have h1:=nx_more (i:=q.L.length) (j:=q.R.length) hk
 have h2:=h.1
 have h3:=h.2.1
 omega
theorem fold_end (q:CQ) (r:Nat→Nat→Int) (i j:Nat):∀ (l:List Nat) (a:Option Int),(∀ k ∈ l,¬ okS q k i j)→l.foldl (tryK q r i j) a=a
 | [],a,_=>rfl
 | k :: l,a,h=>by
  rw [List.foldl_cons]
  unfold tryK
  rw [if_neg (h k List.mem_cons_self)]
  exact fold_end q r i j l a (fun k' hk'=>h k' (List.mem_cons_of_mem _ hk'))
theorem rst_end (q:CQ):rst q q.L.length q.R.length=0:=by
 rw [rst_eq q _ _ (Nat.le_refl _) (Nat.le_refl _)]
 unfold part
 rw [fold_end q (rst q) _ _ _ _ (fun k hk=>ok_end (List.mem_of_mem_take hk))]
 unfold fin?
 rw [if_pos ⟨rfl,rfl⟩]
 rfl
def left (q:CQ) (i j:Nat):Nat:=q.L.length - i + (q.R.length - j)
theorem left_nx {q:CQ} {k i j:Nat} (hk:k ∈ kinds) (ho:okS q k i j):left q (nxI k i) (nxJ k j) < left q i j:=by
 have h1:=nx_more (i:=i) (j:=j) hk
 have h2:=ho.1
 have h3:=ho.2.1
 unfold left
 omega
theorem left_zero {q:CQ} {i j:Nat} (hi:i≤q.L.length) (hj:j≤q.R.length) (h:left q i j=0):i=q.L.length∧j=q.R.length:=by
 unfold left at h
 omega
theorem rst_bd (q:CQ) (b:Nat) (hc:∀ k i j,k ∈ kinds→0≤cst q k i j∧cst q k i j≤b):∀ (d i j:Nat),left q i j=d→i≤q.L.length→j≤q.R.length→0≤rst q i j∧rst q i j≤(d * b:Nat)
 | d,i,j,hd,hi,hj=>by
  by_cases h0:d=0
  ·obtain ⟨rfl,rfl⟩:=left_zero hi hj (hd.trans h0)
   rw [rst_end]
   omega
  ·have hne:i < q.L.length ∨ j < q.R.length:=by unfold left at hd; omega
   constructor
   ·obtain ⟨k,hk,ho,he⟩:=good_some q i j hi hj hne
    have h1:=left_nx hk ho
    have:=(rst_bd q b hc (left q (nxI k i) (nxJ k j)) _ _ rfl ho.1 ho.2.1).1
    have:=(hc k i j hk).1
    omega
   ·obtain ⟨k,hk,ho,hl⟩:∃ k,k ∈ kinds∧okS q k i j∧left q (nxI k i) (nxJ k j)=d - 1:=by
     by_cases h1:i < q.L.length
     ·exact ⟨2,by decide,by unfold okS nxI nxJ; simp; omega,by unfold left nxI nxJ at *; simp; omega⟩
     ·exact ⟨3,by decide,by unfold okS nxI nxJ; simp; omega,by unfold left nxI nxJ at *; simp; omega⟩
    have h1:=(rst_bd q b hc (d - 1) _ _ hl ho.1 ho.2.1).2
    have h2:=rst_le q i j k hi hj hk ho
    have h3:=(hc k i j hk).2
    have h4:(d - 1) * b + b=d * b:=by
     obtain ⟨e,rfl⟩:∃ e,d=e + 1:=⟨d - 1,by omega⟩
     rw [Nat.add_sub_cancel,Nat.succ_mul]
    omega
 termination_by d=>d
 decreasing_by all_goals (subst hd; first | exact left_nx hk ho | omega)

/-! The number of ways. -/
theorem cntF_more (q:CQ):∀ (d e i j:Nat),left q i j < d→left q i j < e→cntF q d i j=cntF q e i j
 | 0,_,i,j,h,_=>by omega
 | _,0,i,j,_,h=>by omega
 | d + 1,e + 1,i,j,hd,he=>by
  show _ + ((kinds.filter (fun k=>goodS q i j k)).map (fun k=>cntF q d (nxI k i) (nxJ k j))).sum=_ + ((kinds.filter (fun k=>goodS q i j k)).map (fun k=>cntF q e (nxI k i) (nxJ k j))).sum
  congr 2
  refine List.map_congr_left (fun k hk=>?_)
  obtain ⟨h1,h2⟩:=List.mem_filter.1 hk
  have ho:=(of_decide_eq_true h2).1
  have:=left_nx h1 ho
  exact cntF_more q d e _ _ (by omega) (by omega)
theorem cnt_eq (q:CQ) (i j:Nat):cnt q i j=(if i=q.L.length∧j=q.R.length then 1 else 0) + ((kinds.filter (fun k=>goodS q i j k)).map (fun k=>cnt q (nxI k i) (nxJ k j))).sum:=by
 show cntF q (left q i j + 1) i j=_
 show _ + ((kinds.filter (fun k=>goodS q i j k)).map (fun k=>cntF q (left q i j) (nxI k i) (nxJ k j))).sum=_
 congr 2
 refine List.map_congr_left (fun k hk=>?_)
 obtain ⟨h1,h2⟩:=List.mem_filter.1 hk
 have ho:=(of_decide_eq_true h2).1
 have:=left_nx h1 ho
 exact cntF_more q _ (left q (nxI k i) (nxJ k j) + 1) _ _ (by omega) (by omega)
theorem csum_le (l:List Nat) (f:Nat→Nat) (b:Nat) (h:∀ k ∈ l,f k≤b):(l.map f).sum≤l.length * b:=by
 induction l with
 | nil=>simp
 | cons x l ih =>
  have h1:=h x List.mem_cons_self
  have h2:=ih (fun k hk=>h k (List.mem_cons_of_mem _ hk))
  rw [List.map_cons,List.sum_cons,List.length_cons,Nat.succ_mul]
  omega
theorem cnt_bd (q:CQ):∀ (d i j:Nat),left q i j=d→i≤q.L.length→j≤q.R.length→cnt q i j≤5 ^ d
 | d,i,j,hd,hi,hj=>by
  rw [cnt_eq]
  by_cases h0:d=0
  ·obtain ⟨rfl,rfl⟩:=left_zero hi hj (hd.trans h0)
   rw [if_pos ⟨rfl,rfl⟩,List.filter_eq_nil_iff.2 (fun k hk h=>ok_end hk (of_decide_eq_true h).1),h0]
   simp
  ·have hne:¬ (i=q.L.length∧j=q.R.length):=by unfold left at hd; omega
   rw [if_neg hne,Nat.zero_add]
   have h5:(5:Nat) ^ d=5 * 5 ^ (d - 1):=by
    obtain ⟨e,rfl⟩:∃ e,d=e + 1:=⟨d - 1,by omega⟩
    rw [Nat.add_sub_cancel,Nat.pow_succ,Nat.mul_comm]
   have hl:(kinds.filter (fun k=>goodS q i j k)).length≤5:=Nat.le_trans (List.length_filter_le _ _) (by decide)
   have:=csum_le (kinds.filter (fun k=>goodS q i j k)) (fun k=>cnt q (nxI k i) (nxJ k j)) (5 ^ (d - 1)) (fun k hk=>by
    obtain ⟨h1,h2⟩:=List.mem_filter.1 hk
    have ho:=(of_decide_eq_true h2).1
    have h3:=left_nx h1 ho
    have h4:=cnt_bd q (left q (nxI k i) (nxJ k j)) _ _ rfl ho.1 ho.2.1
    exact Nat.le_trans h4 (Nat.pow_le_pow_right (by omega) (by omega)))
   have:=Nat.mul_le_mul_right (5 ^ (d - 1)) hl
   omega
 termination_by d=>d
 decreasing_by subst hd; exact left_nx h1 ho

/-! The least best way. -/
theorem cfirst_good (q:CQ) (i j:Nat) (hi:i≤q.L.length) (hj:j≤q.R.length) (hne:i < q.L.length ∨ j < q.R.length):firstK q i j ∈ kinds∧goodS q i j (firstK q i j):=by
 obtain ⟨k,hk,hg⟩:=good_some q i j hi hj hne
 unfold firstK
 cases h:kinds.find? (fun k=>goodS q i j k) with
 | none=>exact absurd (decide_eq_true hg) (by simpa using List.find?_eq_none.1 h k hk)
 | some x =>
  have h2:=List.find?_some (p:=fun k=>decide (goodS q i j k)) h
  exact ⟨List.mem_of_find?_eq_some h,of_decide_eq_true h2⟩
def way (q:CQ) (i j:Nat):List (Nat × Nat × Nat):=wayF q (left q i j) i j
theorem wayF_more (q:CQ):∀ (d e i j:Nat),left q i j≤d→left q i j≤e→i≤q.L.length→j≤q.R.length→wayF q d i j=wayF q e i j
 | 0,0,_,_,_,_,_,_=>rfl
 | 0,e + 1,i,j,h,_,hi,hj=>by
  have:=left_zero hi hj (by omega)
  show []=if i < q.L.length ∨ j < q.R.length then _ else []
  rw [if_neg (by omega)]
 | d + 1,0,i,j,_,h,hi,hj=>by
  have:=left_zero hi hj (by omega)
  show (if i < q.L.length ∨ j < q.R.length then _ else [])=[]
  rw [if_neg (by omega)]
 | d + 1,e + 1,i,j,hd,he,hi,hj=>by
  show (if i < q.L.length ∨ j < q.R.length then _ else [])=(if i < q.L.length ∨ j < q.R.length then _ else [])
  by_cases hne:i < q.L.length ∨ j < q.R.length
  ·rw [if_pos hne,if_pos hne]
   obtain ⟨h1,h2⟩:=cfirst_good q i j hi hj hne
   have h3:=left_nx h1 h2.1
   rw [wayF_more q d e _ _ (by omega) (by omega) h2.1.1 h2.1.2.1]
  ·rw [if_neg hne,if_neg hne]
theorem way_cons (q:CQ) (i j:Nat) (hi:i≤q.L.length) (hj:j≤q.R.length) (hne:i < q.L.length ∨ j < q.R.length):way q i j=(firstK q i j,i,j) :: way q (nxI (firstK q i j) i) (nxJ (firstK q i j) j):=by
 obtain ⟨h1,h2⟩:=cfirst_good q i j hi hj hne
 have h3:=left_nx h1 h2.1
 unfold way
 obtain ⟨d,hd⟩:∃ d,left q i j=d + 1:=⟨left q i j - 1,by omega⟩
 rw [hd]
 show (if i < q.L.length ∨ j < q.R.length then _ else [])=_
 rw [if_pos hne,wayF_more q d (left q (nxI (firstK q i j) i) (nxJ (firstK q i j) j)) _ _ (by omega) (Nat.le_refl _) h2.1.1 h2.1.2.1]
theorem way_nil (q:CQ) (i j:Nat) (hne:¬ (i < q.L.length ∨ j < q.R.length)):way q i j=[]:=by
 unfold way
 have:left q i j=0:=by unfold left; omega
 rw [this]
 rfl
theorem way_len (q:CQ):∀ (d i j:Nat),left q i j=d→i≤q.L.length→j≤q.R.length→(way q i j).length≤d
 | d,i,j,hd,hi,hj=>by
  by_cases hne:i < q.L.length ∨ j < q.R.length
  ·obtain ⟨h1,h2⟩:=cfirst_good q i j hi hj hne
   have h3:=left_nx h1 h2.1
   rw [way_cons q i j hi hj hne,List.length_cons]
   have:=way_len q _ _ _ rfl h2.1.1 h2.1.2.1
   omega
  ·rw [way_nil q i j hne]
   exact Nat.zero_le _
 termination_by d=>d
 decreasing_by subst hd; exact h3

def LeO (s t:Nat→Nat→Option Int):Prop:=∀ x y v,t x y=some v→∃ v',s x y=some v'∧v'≤v
theorem LeO.refl (t:Nat→Nat→Option Int):LeO t t:=fun _ _ v h=>⟨v,h,Int.le_refl _⟩
theorem LeO.trans {r s t:Nat→Nat→Option Int} (h:LeO r s) (k:LeO s t):LeO r t:=fun x y v e=>by
 obtain ⟨v1,e1,l1⟩:=k x y v e
 obtain ⟨v2,e2,l2⟩:=h x y v1 e1
 exact ⟨v2,e2,Int.le_trans l2 l1⟩

end Go.Proofs.YthhkmihjnnfpgaaGreatDoor
