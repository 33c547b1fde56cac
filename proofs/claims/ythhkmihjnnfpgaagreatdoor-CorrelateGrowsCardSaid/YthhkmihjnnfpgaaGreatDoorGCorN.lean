/- Plain mathematics of correlation. No program in sight. -/
import Derived.Test.YthhkmihjnnfpgaaGreatDoorGCorA
/- Correlate's plain mathematics: least rests, ways, potentials. -/
namespace Go.Proofs.YthhkmihjnnfpgaaGreatDoor
set_option linter.all false
open Go.RowKit

theorem kinds_of {k:Nat} (h:1≤k∧k≤5):k ∈ kinds:=by
 unfold kinds
 simp only [List.mem_cons,List.not_mem_nil,or_false]
 omega
theorem of_kinds {k:Nat} (h:k ∈ kinds):1≤k∧k≤5:=by
 unfold kinds at h
 simp only [List.mem_cons,List.not_mem_nil,or_false] at h
 omega
theorem imp_le (a:Option Int) (x y:Int) (h:imp a x=some y):y≤x∧∀ z,a=some z→y≤z:=by
 unfold imp at h
 cases a with
 | none =>
  injection h with h
  subst h
  exact ⟨Int.le_refl _,fun z e=>by cases e⟩
 | some z =>
  dsimp only at h
  split at h
  ·injection h with h
   subst h
   exact ⟨Int.le_refl _,fun z' e=>by injection e with e; omega⟩
  ·injection h with h
   subst h
   exact ⟨by omega,fun z' e=>by injection e with e; omega⟩
theorem fold_le (q:CQ) (r:Nat→Nat→Int) (i j:Nat):∀ (l:List Nat) (a:Option Int) (y:Int),l.foldl (tryK q r i j) a=some y→(∀ z,a=some z→y≤z)∧∀ k ∈ l,okS q k i j→y≤r (nxI k i) (nxJ k j) + cst q k i j
 | [],a,y,h=>⟨fun z e=>by rw [List.foldl_nil,e] at h; injection h with h; omega,fun k hk=>by cases hk⟩
 | k :: l,a,y,h=>by
  rw [List.foldl_cons] at h
  obtain ⟨h1,h2⟩:=fold_le q r i j l _ y h
  unfold tryK at h1
  by_cases ho:okS q k i j
  ·rw [if_pos ho] at h1
   obtain ⟨v,hv,hv2⟩:=imp_some a (r (nxI k i) (nxJ k j) + cst q k i j)
   have h3:=h1 v hv
   have h4:=(imp_le _ _ _ hv).2
   refine ⟨fun z e=>Int.le_trans h3 (h4 z e),fun k' hk' ho'=>?_⟩
   rcases List.mem_cons.1 hk' with rfl | hk'
   ·omega
   ·exact h2 k' hk' ho'
  ·rw [if_neg ho] at h1
   refine ⟨h1,fun k' hk' ho'=>?_⟩
   rcases List.mem_cons.1 hk' with rfl | hk'
   ·exact absurd ho' ho
   ·exact h2 k' hk' ho'
theorem rst_le (q:CQ) (i j k:Nat) (hi:i≤q.L.length) (hj:j≤q.R.length) (hk:k ∈ kinds) (ho:okS q k i j):rst q i j≤rst q (nxI k i) (nxJ k j) + cst q k i j :=
 (fold_le q (rst q) i j kinds _ _ (part_all q i j hi hj)).2 k hk ho
theorem ok_end {q:CQ} {k:Nat} (hk:k ∈ kinds):¬ okS q k q.L.length q.R.length:=by
 intro h
 have h1:=nx_more (i:=q.L.length) (j:=q.R.length) hk
 have h2:=h.1
 have h3:=h.2.1
 omega
theorem fold_end (q:CQ) (r:Nat→Nat→Int) (i j:Nat):∀ (l:List Nat) (a:Option Int),(∀ k ∈ l,¬ okS q k i j)→l.foldl (tryK q r i j) a=a
 | [],a,_=>rfl
 | k :: l,a,h=>by
  rw [List.foldl_cons]
  unfold tryK
  rw [if_neg (h k List.mem_cons_self)]
  exact fold_end q r i j l a (fun k' hk'=>h k' (List.mem_cons_of_mem _ hk'))
theorem rst_end (q:CQ):rst q q.L.length q.R.length=0:=by
 rw [rst_eq q _ _ (Nat.le_refl _) (Nat.le_refl _)]
 unfold part
 rw [fold_end q (rst q) _ _ _ _ (fun k hk=>ok_end (List.mem_of_mem_take hk))]
 unfold fin?
 rw [if_pos ⟨rfl,rfl⟩]
 rfl
def left (q:CQ) (i j:Nat):Nat:=q.L.length - i + (q.R.length - j)
theorem left_nx {q:CQ} {k i j:Nat} (hk:k ∈ kinds) (ho:okS q k i j):left q (nxI k i) (nxJ k j) < left q i j:=by
 have h1:=nx_more (i:=i) (j:=j) hk
 have h2:=ho.1
 have h3:=ho.2.1
 unfold left
 omega
theorem left_zero {q:CQ} {i j:Nat} (hi:i≤q.L.length) (hj:j≤q.R.length) (h:left q i j=0):i=q.L.length∧j=q.R.length:=by
 unfold left at h
 omega
theorem rst_bd (q:CQ) (b:Nat) (hc:∀ k i j,k ∈ kinds→0≤cst q k i j∧cst q k i j≤b):∀ (d i j:Nat),left q i j=d→i≤q.L.length→j≤q.R.length→0≤rst q i j∧rst q i j≤(d * b:Nat)
 | d,i,j,hd,hi,hj=>by
  by_cases h0:d=0
  ·obtain ⟨rfl,rfl⟩:=left_zero hi hj (hd.trans h0)
   rw [rst_end]
   omega
  ·have hne:i < q.L.length ∨ j < q.R.length:=by unfold left at hd; omega
   constructor
   ·obtain ⟨k,hk,ho,he⟩:=good_some q i j hi hj hne
    have h1:=left_nx hk ho
    have:=(rst_bd q b hc (left q (nxI k i) (nxJ k j)) _ _ rfl ho.1 ho.2.1).1
    have:=(hc k i j hk).1
    omega
   ·obtain ⟨k,hk,ho,hl⟩:∃ k,k ∈ kinds∧okS q k i j∧left q (nxI k i) (nxJ k j)=d - 1:=by
     by_cases h1:i < q.L.length
     ·exact ⟨2,by decide,by unfold okS nxI nxJ; simp; omega,by unfold left nxI nxJ at *; simp; omega⟩
     ·exact ⟨3,by decide,by unfold okS nxI nxJ; simp; omega,by unfold left nxI nxJ at *; simp; omega⟩
    have h1:=(rst_bd q b hc (d - 1) _ _ hl ho.1 ho.2.1).2
    have h2:=rst_le q i j k hi hj hk ho
    have h3:=(hc k i j hk).2
    have h4:(d - 1) * b + b=d * b:=by
     obtain ⟨e,rfl⟩:∃ e,d=e + 1:=⟨d - 1,by omega⟩
     rw [Nat.add_sub_cancel,Nat.succ_mul]
    omega
 termination_by d=>d
 decreasing_by all_goals (subst hd; first | exact left_nx hk ho | omega)

/-! The number of ways. -/
theorem cntF_more (q:CQ):∀ (d e i j:Nat),left q i j < d→left q i j < e→cntF q d i j=cntF q e i j
 | 0,_,i,j,h,_=>by omega
 | _,0,i,j,_,h=>by omega
 | d + 1,e + 1,i,j,hd,he=>by
  show _ + ((kinds.filter (fun k=>goodS q i j k)).map (fun k=>cntF q d (nxI k i) (nxJ k j))).sum=_ + ((kinds.filter (fun k=>goodS q i j k)).map (fun k=>cntF q e (nxI k i) (nxJ k j))).sum
  congr 2
  refine List.map_congr_left (fun k hk=>?_)
  obtain ⟨h1,h2⟩:=List.mem_filter.1 hk
  have ho:=(of_decide_eq_true h2).1
  have:=left_nx h1 ho
  exact cntF_more q d e _ _ (by omega) (by omega)
theorem cnt_eq (q:CQ) (i j:Nat):cnt q i j=(if i=q.L.length∧j=q.R.length then 1 else 0) + ((kinds.filter (fun k=>goodS q i j k)).map (fun k=>cnt q (nxI k i) (nxJ k j))).sum:=by
 show cntF q (left q i j + 1) i j=_
 show _ + ((kinds.filter (fun k=>goodS q i j k)).map (fun k=>cntF q (left q i j) (nxI k i) (nxJ k j))).sum=_
 congr 2
 refine List.map_congr_left (fun k hk=>?_)
 obtain ⟨h1,h2⟩:=List.mem_filter.1 hk
 have ho:=(of_decide_eq_true h2).1
 have:=left_nx h1 ho
 exact cntF_more q _ (left q (nxI k i) (nxJ k j) + 1) _ _ (by omega) (by omega)
theorem csum_le (l:List Nat) (f:Nat→Nat) (b:Nat) (h:∀ k ∈ l,f k≤b):(l.map f).sum≤l.length * b:=by
 induction l with
 | nil=>simp
 | cons x l ih =>
  have h1:=h x List.mem_cons_self
  have h2:=ih (fun k hk=>h k (List.mem_cons_of_mem _ hk))
  rw [List.map_cons,List.sum_cons,List.length_cons,Nat.succ_mul]
  omega
theorem cnt_bd (q:CQ):∀ (d i j:Nat),left q i j=d→i≤q.L.length→j≤q.R.length→cnt q i j≤5 ^ d
 | d,i,j,hd,hi,hj=>by
  rw [cnt_eq]
  by_cases h0:d=0
  ·obtain ⟨rfl,rfl⟩:=left_zero hi hj (hd.trans h0)
   rw [if_pos ⟨rfl,rfl⟩,List.filter_eq_nil_iff.2 (fun k hk h=>ok_end hk (of_decide_eq_true h).1),h0]
   simp
  ·have hne:¬ (i=q.L.length∧j=q.R.length):=by unfold left at hd; omega
   rw [if_neg hne,Nat.zero_add]
   have h5:(5:Nat) ^ d=5 * 5 ^ (d - 1):=by
    obtain ⟨e,rfl⟩:∃ e,d=e + 1:=⟨d - 1,by omega⟩
    rw [Nat.add_sub_cancel,Nat.pow_succ,Nat.mul_comm]
   have hl:(kinds.filter (fun k=>goodS q i j k)).length≤5:=Nat.le_trans (List.length_filter_le _ _) (by decide)
   have:=csum_le (kinds.filter (fun k=>goodS q i j k)) (fun k=>cnt q (nxI k i) (nxJ k j)) (5 ^ (d - 1)) (fun k hk=>by
    obtain ⟨h1,h2⟩:=List.mem_filter.1 hk
    have ho:=(of_decide_eq_true h2).1
    have h3:=left_nx h1 ho
    have h4:=cnt_bd q (left q (nxI k i) (nxJ k j)) _ _ rfl ho.1 ho.2.1
    exact Nat.le_trans h4 (Nat.pow_le_pow_right (by omega) (by omega)))
   have:=Nat.mul_le_mul_right (5 ^ (d - 1)) hl
   omega
 termination_by d=>d
 decreasing_by subst hd; exact left_nx h1 ho

/-! The least best way. -/
theorem cfirst_good (q:CQ) (i j:Nat) (hi:i≤q.L.length) (hj:j≤q.R.length) (hne:i < q.L.length ∨ j < q.R.length):firstK q i j ∈ kinds∧goodS q i j (firstK q i j):=by
 obtain ⟨k,hk,hg⟩:=good_some q i j hi hj hne
 unfold firstK
 cases h:kinds.find? (fun k=>goodS q i j k) with
 | none=>exact absurd (decide_eq_true hg) (by simpa using List.find?_eq_none.1 h k hk)
 | some x =>
  have h2:=List.find?_some (p:=fun k=>decide (goodS q i j k)) h
  exact ⟨List.mem_of_find?_eq_some h,of_decide_eq_true h2⟩
def way (q:CQ) (i j:Nat):List (Nat × Nat × Nat):=wayF q (left q i j) i j
theorem wayF_more (q:CQ):∀ (d e i j:Nat),left q i j≤d→left q i j≤e→i≤q.L.length→j≤q.R.length→wayF q d i j=wayF q e i j
 | 0,0,_,_,_,_,_,_=>rfl
 | 0,e + 1,i,j,h,_,hi,hj=>by
  have:=left_zero hi hj (by omega)
  show []=if i < q.L.length ∨ j < q.R.length then _ else []
  rw [if_neg (by omega)]
 | d + 1,0,i,j,_,h,hi,hj=>by
  have:=left_zero hi hj (by omega)
  show (if i < q.L.length ∨ j < q.R.length then _ else [])=[]
  rw [if_neg (by omega)]
 | d + 1,e + 1,i,j,hd,he,hi,hj=>by
  show (if i < q.L.length ∨ j < q.R.length then _ else [])=(if i < q.L.length ∨ j < q.R.length then _ else [])
  by_cases hne:i < q.L.length ∨ j < q.R.length
  ·rw [if_pos hne,if_pos hne]
   obtain ⟨h1,h2⟩:=cfirst_good q i j hi hj hne
   have h3:=left_nx h1 h2.1
   rw [wayF_more q d e _ _ (by omega) (by omega) h2.1.1 h2.1.2.1]
  ·rw [if_neg hne,if_neg hne]
theorem way_cons (q:CQ) (i j:Nat) (hi:i≤q.L.length) (hj:j≤q.R.length) (hne:i < q.L.length ∨ j < q.R.length):way q i j=(firstK q i j,i,j) :: way q (nxI (firstK q i j) i) (nxJ (firstK q i j) j):=by
 obtain ⟨h1,h2⟩:=cfirst_good q i j hi hj hne
 have h3:=left_nx h1 h2.1
 unfold way
 obtain ⟨d,hd⟩:∃ d,left q i j=d + 1:=⟨left q i j - 1,by omega⟩
 rw [hd]
 show (if i < q.L.length ∨ j < q.R.length then _ else [])=_
 rw [if_pos hne,wayF_more q d (left q (nxI (firstK q i j) i) (nxJ (firstK q i j) j)) _ _ (by omega) (Nat.le_refl _) h2.1.1 h2.1.2.1]
theorem way_nil (q:CQ) (i j:Nat) (hne:¬ (i < q.L.length ∨ j < q.R.length)):way q i j=[]:=by
 unfold way
 have:left q i j=0:=by unfold left; omega
 rw [this]
 rfl
theorem way_len (q:CQ):∀ (d i j:Nat),left q i j=d→i≤q.L.length→j≤q.R.length→(way q i j).length≤d
 | d,i,j,hd,hi,hj=>by
  by_cases hne:i < q.L.length ∨ j < q.R.length
  ·obtain ⟨h1,h2⟩:=cfirst_good q i j hi hj hne
   have h3:=left_nx h1 h2.1
   rw [way_cons q i j hi hj hne,List.length_cons]
   have:=way_len q _ _ _ rfl h2.1.1 h2.1.2.1
   omega
  ·rw [way_nil q i j hne]
   exact Nat.zero_le _
 termination_by d=>d
 decreasing_by subst hd; exact h3

/-! Potentials: the least costs up to each position,as they are written. -/
def updO (t:Nat→Nat→Option Int) (a b:Nat) (v:Option Int) (x y:Nat):Option Int:=if x=a∧y=b then v else t x y
def stepT (q:CQ) (i j:Nat) (t:Nat→Nat→Option Int) (k:Nat):Nat→Nat→Option Int :=
 if okS q k i j then updO t (nxI k i) (nxJ k j) (imp (t (nxI k i) (nxJ k j)) ((t i j).getD 0 + cst q k i j)) else t
def posTk (q:CQ) (i j:Nat) (t:Nat→Nat→Option Int) (m:Nat):Nat→Nat→Option Int:=(kinds.take m).foldl (stepT q i j) t
theorem posTk_next (q:CQ) (i j:Nat) (t:Nat→Nat→Option Int) (m:Nat) (hm:m < 5):posTk q i j t (m + 1)=stepT q i j (posTk q i j t m) (m + 1):=by
 rcases (show m=0 ∨ m=1 ∨ m=2 ∨ m=3 ∨ m=4 by omega) with rfl | rfl | rfl | rfl | rfl <;> rfl
def potA (q:CQ):Nat→Nat→Nat→Option Int
 | 0=>fun a b=>if a=0∧b=0 then some 0 else none
 | p + 1=>posTk q (p / (q.R.length + 1)) (p % (q.R.length + 1)) (potA q p) 5
theorem potA_next (q:CQ) (i j:Nat) (hj:j≤q.R.length):potA q (i * (q.R.length + 1) + j + 1)=posTk q i j (potA q (i * (q.R.length + 1) + j)) 5:=by
 show posTk q ((i * (q.R.length + 1) + j) / (q.R.length + 1)) ((i * (q.R.length + 1) + j) % (q.R.length + 1)) _ 5=_
 have h1:(i * (q.R.length + 1) + j) / (q.R.length + 1)=i:=by
  rw [Nat.mul_comm,Nat.mul_add_div (by omega),Nat.div_eq_of_lt (by omega)]; rfl
 have h2:(i * (q.R.length + 1) + j) % (q.R.length + 1)=j:=by
  rw [Nat.mul_comm,Nat.mul_add_mod]; exact Nat.mod_eq_of_lt (by omega)
 rw [h1,h2]

def idx (q:CQ) (i j:Nat):Nat:=i * (q.R.length + 1) + j
theorem idx_nx {q:CQ} {k i j:Nat} (hk:k ∈ kinds):idx q i j < idx q (nxI k i) (nxJ k j):=by
 obtain ⟨h1,h2,h3⟩:=nx_more (i:=i) (j:=j) hk
 unfold idx
 have h4:=Nat.mul_le_mul_right (q.R.length + 1) h2
 by_cases h:nxI k i=i
 ·rw [h] at h1 ⊢
  omega
 ·have h5:=Nat.mul_le_mul_right (q.R.length + 1) (show i + 1≤nxI k i by omega)
  rw [Nat.succ_mul] at h5
  omega
theorem idx_inj {q:CQ} {i j x y:Nat} (hj:j≤q.R.length) (hy:y≤q.R.length) (h:idx q i j=idx q x y):i=x∧j=y:=by
 unfold idx at h
 rcases Nat.lt_trichotomy i x with h1 | h1 | h1
 ·have:=Nat.mul_le_mul_right (q.R.length + 1) (show i + 1≤x by omega)
  rw [Nat.succ_mul] at this
  omega
 ·subst h1
  omega
 ·have:=Nat.mul_le_mul_right (q.R.length + 1) (show x + 1≤i by omega)
  rw [Nat.succ_mul] at this
  omega
theorem idx_div {q:CQ} {p:Nat}:p=idx q (p / (q.R.length + 1)) (p % (q.R.length + 1)):=by
 unfold idx
 have:=Nat.div_add_mod p (q.R.length + 1)
 rw [Nat.mul_comm] at this
 omega
def LeO (s t:Nat→Nat→Option Int):Prop:=∀ x y v,t x y=some v→∃ v',s x y=some v'∧v'≤v
theorem LeO.refl (t:Nat→Nat→Option Int):LeO t t:=fun _ _ v h=>⟨v,h,Int.le_refl _⟩
theorem LeO.trans {r s t:Nat→Nat→Option Int} (h:LeO r s) (k:LeO s t):LeO r t:=fun x y v e=>by
 obtain ⟨v1,e1,l1⟩:=k x y v e
 obtain ⟨v2,e2,l2⟩:=h x y v1 e1
 exact ⟨v2,e2,Int.le_trans l2 l1⟩
theorem stepT_ne {q:CQ} {i j x y k:Nat} {t:Nat→Nat→Option Int} (h:¬ (x=nxI k i∧y=nxJ k j)):stepT q i j t k x y=t x y:=by
 unfold stepT
 split
 ·unfold updO
  rw [if_neg h]
 ·rfl
theorem stepT_le (q:CQ) (i j k:Nat) (t:Nat→Nat→Option Int):LeO (stepT q i j t k) t:=by
 intro x y v h
 by_cases e:x=nxI k i∧y=nxJ k j
 ·unfold stepT
  split
  ·obtain ⟨rfl,rfl⟩:=e
   obtain ⟨z,hz,_⟩:=imp_some (t (nxI k i) (nxJ k j)) ((t i j).getD 0 + cst q k i j)
   refine ⟨z,?_,(imp_le _ _ _ hz).2 v h⟩
   unfold updO
   rw [if_pos ⟨rfl,rfl⟩]
   exact hz
  ·exact ⟨v,h,Int.le_refl _⟩
 ·rw [stepT_ne e]
  exact ⟨v,h,Int.le_refl _⟩
theorem posTk_le (q:CQ) (i j:Nat) (t:Nat→Nat→Option Int):∀ (m:Nat),m≤5→LeO (posTk q i j t m) t
 | 0,_=>LeO.refl t
 | m + 1,h=>by
  rw [posTk_next q i j t m (by omega)]
  exact (stepT_le q i j _ _).trans (posTk_le q i j t m (by omega))
theorem posTk_low (q:CQ) (i j:Nat) (t:Nat→Nat→Option Int) (x y:Nat) (h:idx q x y≤idx q i j):∀ (m:Nat),m≤5→posTk q i j t m x y=t x y
 | 0,_=>rfl
 | m + 1,hm=>by
  rw [posTk_next q i j t m (by omega),stepT_ne ?_]
  ·exact posTk_low q i j t x y h m (by omega)
  ·rintro ⟨rfl,rfl⟩
   have:=idx_nx (q:=q) (i:=i) (j:=j) (kinds_of (k:=m + 1) (by omega))
   omega
theorem posTk_done (q:CQ) (i j:Nat) (t:Nat→Nat→Option Int):∀ (m:Nat),m≤5→∀ k,1≤k→k≤m→okS q k i j→∃ v,posTk q i j t m (nxI k i) (nxJ k j)=some v∧v≤(t i j).getD 0 + cst q k i j
 | 0,_,k,h1,h2,_=>by omega
 | m + 1,hm,k,h1,h2,ho=>by
  rw [posTk_next q i j t m (by omega)]
  by_cases e:k=m + 1
  ·subst e
   unfold stepT
   rw [if_pos ho,posTk_low q i j t i j (Nat.le_refl _) m (by omega)]
   obtain ⟨z,hz,hl⟩:=imp_some (posTk q i j t m (nxI (m + 1) i) (nxJ (m + 1) j)) ((t i j).getD 0 + cst q (m + 1) i j)
   refine ⟨z,?_,hl⟩
   unfold updO
   rw [if_pos ⟨rfl,rfl⟩]
   exact hz
  ·obtain ⟨v,hv,hl⟩:=posTk_done q i j t m (by omega) k h1 (by omega) ho
   obtain ⟨v',hv',hl'⟩:=stepT_le q i j (m + 1) (posTk q i j t m) _ _ v hv
   exact ⟨v',hv',Int.le_trans hl' hl⟩
def InvP (q:CQ) (b:Nat) (t:Nat→Nat→Option Int):Prop:=∀ x y v,t x y=some v→x≤q.L.length∧y≤q.R.length∧0≤v∧v≤((x + y) * b:Nat)∧rst q 0 0≤v + rst q x y
theorem stepT_inv {q:CQ} {b i j k:Nat} {t:Nat→Nat→Option Int} (hc:∀ k i j,k ∈ kinds→0≤cst q k i j∧cst q k i j≤b) (hk:k ∈ kinds) (hs:(t i j).isSome=true) (h:InvP q b t):InvP q b (stepT q i j t k):=by
 intro x y v e
 by_cases ho:okS q k i j
 ·by_cases hxy:x=nxI k i∧y=nxJ k j
  ·obtain ⟨rfl,rfl⟩:=hxy
   unfold stepT at e
   rw [if_pos ho] at e
   unfold updO at e
   rw [if_pos ⟨rfl,rfl⟩] at e
   rcases imp_or _ _ _ e with e1 | e1
   ·exact h _ _ v e1
   ·obtain ⟨u,hu⟩:=Option.isSome_iff_exists.1 hs
    rw [hu] at e1
    obtain ⟨h1,h2,h3,h4,h5⟩:=h i j u hu
    have h6:=hc k i j hk
    have h7:=rst_le q i j k h1 h2 hk ho
    have h8:=nx_more (i:=i) (j:=j) hk
    simp only [Option.getD_some] at e1
    refine ⟨ho.1,ho.2.1,by omega,?_,by omega⟩
    have h9:=Nat.mul_le_mul_right b (show i + j + 1≤nxI k i + nxJ k j by omega)
    rw [Nat.succ_mul] at h9
    omega
  ·rw [stepT_ne hxy] at e
   exact h x y v e
 ·unfold stepT at e
  rw [if_neg ho] at e
  exact h x y v e
theorem posTk_inv {q:CQ} {b i j:Nat} {t:Nat→Nat→Option Int} (hc:∀ k i j,k ∈ kinds→0≤cst q k i j∧cst q k i j≤b) (hs:(t i j).isSome=true) (h:InvP q b t):∀ (m:Nat),m≤5→InvP q b (posTk q i j t m)
 | 0,_=>h
 | m + 1,hm=>by
  rw [posTk_next q i j t m (by omega)]
  refine stepT_inv hc (kinds_of (by omega)) ?_ (posTk_inv hc hs h m (by omega))
  rw [posTk_low q i j t i j (Nat.le_refl _) m (by omega)]
  exact hs
structure PotP (q:CQ) (b p:Nat):Prop where
 inv:InvP q b (potA q p)
 som:∀ x y,x≤q.L.length→y≤q.R.length→idx q x y≤p→(potA q p x y).isSome=true
 don:∀ i j k,i≤q.L.length→j≤q.R.length→idx q i j < p→k ∈ kinds→okS q k i j→∃ u v,potA q p i j=some u∧potA q p (nxI k i) (nxJ k j)=some v∧v≤u + cst q k i j
 zer:potA q p 0 0=some 0
theorem potP (q:CQ) (b:Nat) (hc:∀ k i j,k ∈ kinds→0≤cst q k i j∧cst q k i j≤b):∀ (p:Nat),p≤(q.L.length + 1) * (q.R.length + 1)→PotP q b p
 | 0,_=>by
  refine ⟨fun x y v e=>?_,fun x y hx hy h=>?_,fun i j k _ _ h=>by omega,by simp [potA]⟩
  ·unfold potA at e
   split at e
   ·rename_i h
    obtain ⟨rfl,rfl⟩:=h
    injection e with e
    subst e
    refine ⟨by omega,by omega,by omega,by simp,by omega⟩
   ·cases e
  ·have h0:idx q x y=0:=by omega
   have:x=0∧y=0:=by
    unfold idx at h0
    have h1:x * (q.R.length + 1)=0:=by omega
    rcases Nat.mul_eq_zero.1 h1 with h2 | h2 <;> omega
   obtain ⟨rfl,rfl⟩:=this
   simp [potA]
 | p + 1, hp => by
  have ih:=potP q b hc p (by omega)
  obtain ⟨i,hi0⟩:∃ i,p / (q.R.length + 1)=i:=⟨_,rfl⟩
  obtain ⟨j,hj0⟩:∃ j,p % (q.R.length + 1)=j:=⟨_,rfl⟩
  have hpi:p=idx q i j:=by rw [← hi0,← hj0]; exact idx_div
  have hj:j≤q.R.length:=by
   have:=Nat.mod_lt p (show 0 < q.R.length + 1 by omega)
   omega
  have hi:i≤q.L.length:=by
   have:=Nat.div_lt_of_lt_mul (m:=p) (n:=q.R.length + 1) (k:=q.L.length + 1) (by rw [Nat.mul_comm]; omega)
   omega
  have he:potA q (p + 1)=posTk q i j (potA q p) 5:=by
   show posTk q (p / (q.R.length + 1)) (p % (q.R.length + 1)) (potA q p) 5=_
   rw [hi0,hj0]
  have hs:=ih.som i j hi hj (by omega)
  have low:∀ x y,idx q x y≤p→potA q (p + 1) x y=potA q p x y:=fun x y h=>by
   rw [he]
   exact posTk_low q i j _ x y (by omega) 5 (Nat.le_refl _)
  have lo:LeO (potA q (p + 1)) (potA q p):=by rw [he]; exact posTk_le q i j _ 5 (Nat.le_refl _)
  have don:∀ i j k,i≤q.L.length→j≤q.R.length→idx q i j < p + 1→k ∈ kinds→okS q k i j→∃ u v,potA q (p + 1) i j=some u∧potA q (p + 1) (nxI k i) (nxJ k j)=some v∧v≤u + cst q k i j:=by
   intro i' j' k hi' hj' hlt hk ho
   by_cases h:idx q i' j' < p
   ·obtain ⟨u,v,h1,h2,h3⟩:=ih.don i' j' k hi' hj' h hk ho
    obtain ⟨v',h4,h5⟩:=lo _ _ v h2
    exact ⟨u,v',by rw [low _ _ (by omega)]; exact h1,h4,by omega⟩
   ·obtain ⟨rfl,rfl⟩:=idx_inj (q:=q) (i:=i') (j:=j') (x:=i) (y:=j) hj' hj (by omega)
    obtain ⟨u,hu⟩:=Option.isSome_iff_exists.1 hs
    obtain ⟨v,hv,hl⟩:=posTk_done q i' j' (potA q p) 5 (Nat.le_refl _) k (of_kinds hk).1 (of_kinds hk).2 ho
    rw [hu] at hl
    refine ⟨u,v,by rw [low _ _ (by omega)]; exact hu,by rw [he]; exact hv,hl⟩
  refine ⟨by rw [he]; exact posTk_inv hc hs ih.inv 5 (Nat.le_refl _),fun x y hx hy h=>?_,don,?_⟩
  ·by_cases h1:idx q x y≤p
   ·rw [low _ _ h1]
    exact ih.som x y hx hy h1
   ·have h2:idx q x y=p + 1:=by omega
    by_cases h3:0 < y
    ·obtain ⟨_,v,_,h4,_⟩:=don x (y - 1) 3 hx (by omega) (by unfold idx at *; omega) (by decide) (by unfold okS nxI nxJ; simp; omega)
     rw [show nxI 3 x=x by simp [nxI],show nxJ 3 (y - 1)=y by simp [nxJ]; omega] at h4
     rw [h4]; rfl
    ·have h5:0 < x:=by
      refine Nat.pos_of_ne_zero (fun e=>?_)
      subst e
      have:y=0:=by omega
      subst this
      unfold idx at h2
      omega
     have h6:idx q (x - 1) y < p + 1:=by
      unfold idx at h2 ⊢
      obtain ⟨z,rfl⟩:∃ z,x=z + 1:=⟨x - 1,by omega⟩
      rw [Nat.succ_mul] at h2
      rw [Nat.add_sub_cancel]
      omega
     obtain ⟨_,v,_,h4,_⟩:=don (x - 1) y 2 (by omega) hy h6 (by decide) (by unfold okS nxI nxJ; simp; omega)
     rw [show nxI 2 (x - 1)=x by simp [nxI]; omega,show nxJ 2 y=y by simp [nxJ]] at h4
     rw [h4]; rfl
  ·rw [low 0 0 (by unfold idx; omega)]
   exact ih.zer
def potE (q:CQ):Nat:=(q.L.length + 1) * (q.R.length + 1)
def frn (q:CQ) (i j:Nat):Int:=(potA q (potE q) i j).getD 0
theorem idx_lt (q:CQ) {i j:Nat} (hi:i≤q.L.length) (hj:j≤q.R.length):idx q i j < potE q:=by
 unfold idx potE
 have:=Nat.mul_le_mul_right (q.R.length + 1) (show i + 1≤q.L.length + 1 by omega)
 rw [Nat.succ_mul] at this
 omega
theorem potA_low (q:CQ) (x y p:Nat) (h:idx q x y≤p):∀ (d:Nat),potA q (p + d) x y=potA q p x y
 | 0=>rfl
 | d + 1=>by
  rw [← potA_low q x y p h d]
  show posTk q ((p + d) / (q.R.length + 1)) ((p + d) % (q.R.length + 1)) (potA q (p + d)) 5 x y=_
  exact posTk_low q _ _ _ x y (by rw [← idx_div]; omega) 5 (Nat.le_refl _)
theorem frn_some {q:CQ} {b:Nat} (hc:∀ k i j,k ∈ kinds→0≤cst q k i j∧cst q k i j≤b) {i j:Nat} (hi:i≤q.L.length) (hj:j≤q.R.length):potA q (potE q) i j=some (frn q i j):=by
 have h:=(potP q b hc (potE q) (Nat.le_refl _)).som i j hi hj (Nat.le_of_lt (idx_lt q hi hj))
 obtain ⟨u,hu⟩:=Option.isSome_iff_exists.1 h
 unfold frn
 rw [hu]; rfl
theorem frn_at {q:CQ} {b:Nat} (hc:∀ k i j,k ∈ kinds→0≤cst q k i j∧cst q k i j≤b) {i j:Nat} (hi:i≤q.L.length) (hj:j≤q.R.length) (m:Nat) (hm:m≤5):posTk q i j (potA q (idx q i j)) m i j=some (frn q i j):=by
 rw [posTk_low q i j _ i j (Nat.le_refl _) m hm,← frn_some hc hi hj]
 have h:=idx_lt q hi hj
 obtain ⟨d,hd⟩:∃ d,potE q=idx q i j + d:=⟨potE q - idx q i j,by omega⟩
 rw [hd]
 exact (potA_low q i j _ (Nat.le_refl _) d).symm
theorem frn_step {q:CQ} {b:Nat} (hc:∀ k i j,k ∈ kinds→0≤cst q k i j∧cst q k i j≤b) {i j k:Nat} (hi:i≤q.L.length) (hj:j≤q.R.length) (hk:k ∈ kinds) (ho:okS q k i j):frn q (nxI k i) (nxJ k j)≤frn q i j + cst q k i j:=by
 obtain ⟨u,v,h1,h2,h3⟩:=(potP q b hc (potE q) (Nat.le_refl _)).don i j k hi hj (idx_lt q hi hj) hk ho
 unfold frn
 rw [h1,h2]
 exact h3
theorem frn_bd {q:CQ} {b:Nat} (hc:∀ k i j,k ∈ kinds→0≤cst q k i j∧cst q k i j≤b) {i j:Nat} (hi:i≤q.L.length) (hj:j≤q.R.length):0≤frn q i j∧frn q i j≤((i + j) * b:Nat)∧rst q 0 0≤frn q i j + rst q i j :=
 ((potP q b hc (potE q) (Nat.le_refl _)).inv i j _ (frn_some hc hi hj)).2.2
theorem frn_zero {q:CQ} {b:Nat} (hc:∀ k i j,k ∈ kinds→0≤cst q k i j∧cst q k i j≤b):frn q 0 0=0:=by
 unfold frn
 rw [(potP q b hc (potE q) (Nat.le_refl _)).zer]; rfl
theorem frn_le {q:CQ} {b:Nat} (hc:∀ k i j,k ∈ kinds→0≤cst q k i j∧cst q k i j≤b):∀ (d i j:Nat),left q i j=d→i≤q.L.length→j≤q.R.length→frn q q.L.length q.R.length≤frn q i j + rst q i j
 | d,i,j,hd,hi,hj=>by
  by_cases hne:i < q.L.length ∨ j < q.R.length
  ·obtain ⟨k,hk,ho,he⟩:=good_some q i j hi hj hne
   have h1:=left_nx hk ho
   have h2:=frn_le hc (left q (nxI k i) (nxJ k j)) _ _ rfl ho.1 ho.2.1
   have h3:=frn_step hc hi hj hk ho
   omega
  ·have h1:i=q.L.length:=by omega
   have h2:j=q.R.length:=by omega
   subst h1 h2
   rw [rst_end]
   omega
 termination_by d=>d
 decreasing_by subst hd; exact h1
theorem frn_end {q:CQ} {b:Nat} (hc:∀ k i j,k ∈ kinds→0≤cst q k i j∧cst q k i j≤b):frn q q.L.length q.R.length=rst q 0 0:=by
 have h1:=frn_le hc (left q 0 0) 0 0 rfl (by omega) (by omega)
 have h2:=(frn_bd hc (Nat.le_refl q.L.length) (Nat.le_refl q.R.length)).2.2
 rw [frn_zero hc] at h1
 rw [rst_end] at h2
 omega

end Go.Proofs.YthhkmihjnnfpgaaGreatDoor

/- Correlate's plain mathematics: the number of ways as it is counted, all ways in order, exchanged logs, greater costs, a log with itself, a further interval. -/
namespace Go.Proofs.YthhkmihjnnfpgaaGreatDoor
set_option linter.all false
open Go.RowKit

/-! All best ways,in order. -/
def allF (q:CQ):Nat→Nat→Nat→List (List (Nat × Nat × Nat))
 | 0,_,_=>[[]]
 | d + 1,i,j=>if i=q.L.length∧j=q.R.length then [[]] else (kinds.filter (fun k=>goodS q i j k)).flatMap (fun k=>(allF q d (nxI k i) (nxJ k j)).map ((k,i,j) :: ·))
def allW (q:CQ) (i j:Nat):List (List (Nat × Nat × Nat)):=allF q (left q i j) i j
theorem flatMap_congr' {α β:Type} {f g:α→List β} {l:List α} (h:∀ a ∈ l,f a=g a):l.flatMap f=l.flatMap g:=by
 induction l with
 | nil=>rfl
 | cons a l ih=>rw [List.flatMap_cons,List.flatMap_cons,h a List.mem_cons_self,ih (fun b hb=>h b (List.mem_cons_of_mem _ hb))]
theorem allF_more (q:CQ):∀ (d e i j:Nat),left q i j≤d→left q i j≤e→i≤q.L.length→j≤q.R.length→allF q d i j=allF q e i j
 | 0,0,_,_,_,_,_,_=>rfl
 | 0,e + 1,i,j,h,_,hi,hj=>by
  have:=left_zero hi hj (by omega)
  show [[]]=if i=q.L.length∧j=q.R.length then [[]] else _
  rw [if_pos this]
 | d + 1,0,i,j,_,h,hi,hj=>by
  have:=left_zero hi hj (by omega)
  show (if i=q.L.length∧j=q.R.length then [[]] else _)=[[]]
  rw [if_pos this]
 | d + 1,e + 1,i,j,hd,he,hi,hj=>by
  show (if i=q.L.length∧j=q.R.length then [[]] else _)=(if i=q.L.length∧j=q.R.length then [[]] else _)
  split
  ·rfl
  ·refine flatMap_congr' (fun k hk=>?_)
   obtain ⟨h1,h2⟩:=List.mem_filter.1 hk
   have ho:=(of_decide_eq_true h2).1
   have:=left_nx h1 ho
   rw [allF_more q d e _ _ (by omega) (by omega) ho.1 ho.2.1]
theorem allW_end (q:CQ):allW q q.L.length q.R.length=[[]]:=by
 unfold allW
 have:left q q.L.length q.R.length=0:=by unfold left; omega
 rw [this]; rfl
theorem allW_eq (q:CQ) (i j:Nat) (hi:i≤q.L.length) (hj:j≤q.R.length) (hne:¬ (i=q.L.length∧j=q.R.length)):allW q i j=(kinds.filter (fun k=>goodS q i j k)).flatMap (fun k=>(allW q (nxI k i) (nxJ k j)).map ((k,i,j) :: ·)):=by
 show allF q (left q i j) i j=_
 obtain ⟨d,hd⟩:∃ d,left q i j=d + 1:=⟨left q i j - 1,by unfold left at *; omega⟩
 rw [hd]
 show (if i=q.L.length∧j=q.R.length then [[]] else _)=_
 rw [if_neg hne]
 refine flatMap_congr' (fun k hk=>?_)
 obtain ⟨h1,h2⟩:=List.mem_filter.1 hk
 have ho:=(of_decide_eq_true h2).1
 have:=left_nx h1 ho
 show (allF q d _ _).map _=(allF q _ _ _).map _
 rw [allF_more q d _ _ _ (by omega) (Nat.le_refl _) ho.1 ho.2.1]
/-! Steps in integers; the total of a list of steps,or its first error. -/
def errI (q:CQ) (k i j:Int):Int :=
 if k < 1 ∨ 5 < k then 12
 else if i < 0 ∨ (q.L.length:Int) < i ∨ j < 0 ∨ (q.R.length:Int) < j then 3
 else if q.L.length < nxI k.toNat i.toNat ∨ q.R.length < nxJ k.toNat j.toNat then 11
 else if (k=4∧¬ repI q.L i.toNat) ∨ (k=5∧¬ repI q.R j.toNat) then 7 else 0
theorem errI_ok {q:CQ} {k i j:Int} (h:errI q k i j=0):∃ k' i' j':Nat,k=k'∧i=i'∧j=j'∧k' ∈ kinds∧i'≤q.L.length∧j'≤q.R.length∧okS q k' i' j':=by
 unfold errI at h
 split at h
 ·cases h
 ·split at h
  ·cases h
  ·split at h
   ·cases h
   ·split at h
    ·cases h
    ·rename_i h1 h2 h3 h4
     refine ⟨k.toNat,i.toNat,j.toNat,by omega,by omega,by omega,kinds_of (by omega),by omega,by omega,by omega,by omega,fun h=>?_,fun h=>?_⟩
     ·exact Classical.byContradiction fun h5=>h4 (.inl ⟨by omega,h5⟩)
     ·exact Classical.byContradiction fun h5=>h4 (.inr ⟨by omega,h5⟩)
theorem errI_nat {q:CQ} {k i j:Nat} (hk:k ∈ kinds) (hi:i≤q.L.length) (hj:j≤q.R.length) (ho:okS q k i j):errI q k i j=0:=by
 have h1:=of_kinds hk
 unfold errI
 rw [if_neg (by omega),if_neg (by omega)]
 simp only [Int.toNat_natCast]
 rw [if_neg (by have:=ho.1; have:=ho.2.1; omega),if_neg ?_]
 rintro (⟨h2,h3⟩ | ⟨h2,h3⟩)
 ·exact h3 (ho.2.2.1 (by omega))
 ·exact h3 (ho.2.2.2 (by omega))
def runF (q:CQ):Nat→Nat→Int→List (Int × Int × Int)→Int × Int
 | i,j,s,[]=>if i=q.L.length∧j=q.R.length then (0,s) else (25,0)
 | i,j,s,(k,a,b) :: l=>if a ≠ (i:Int) ∨ b ≠ (j:Int) then (6,0) else if errI q k a b ≠ 0 then (errI q k a b,0) else runF q (nxI k.toNat i) (nxJ k.toNat j) (s + cst q k.toNat i j) l
def castS (l:List (Nat × Nat × Nat)):List (Int × Int × Int):=l.map (fun x=>((x.1:Int),(x.2.1:Int),(x.2.2:Int)))
theorem runF_cons {q:CQ} {k i j:Nat} (hk:k ∈ kinds) (hi:i≤q.L.length) (hj:j≤q.R.length) (ho:okS q k i j) (s:Int) (l:List (Nat × Nat × Nat)):runF q i j s (castS ((k,i,j) :: l))=runF q (nxI k i) (nxJ k j) (s + cst q k i j) (castS l):=by
 show (if (i:Int) ≠ (i:Int) ∨ (j:Int) ≠ (j:Int) then _ else if errI q k i j ≠ 0 then _ else runF q (nxI ((k:Int).toNat) i) (nxJ ((k:Int).toNat) j) (s + cst q ((k:Int).toNat) i j) (castS l))=_
 rw [if_neg (by omega),if_neg (by rw [errI_nat hk hi hj ho]; omega),Int.toNat_natCast]
theorem allW_run (q:CQ):∀ (d i j:Nat),left q i j=d→i≤q.L.length→j≤q.R.length→∀ w ∈ allW q i j,∀ s,runF q i j s (castS w)=(0,s + rst q i j)
 | d,i,j,hd,hi,hj=>by
  intro w hw s
  by_cases hne:i=q.L.length∧j=q.R.length
  ·obtain ⟨rfl,rfl⟩:=hne
   rw [allW_end,List.mem_singleton] at hw
   subst hw
   show (if q.L.length=q.L.length∧q.R.length=q.R.length then (0,s) else (25,0))=_
   rw [if_pos ⟨rfl,rfl⟩,rst_end,Int.add_zero]
  ·rw [allW_eq q i j hi hj hne,List.mem_flatMap] at hw
   obtain ⟨k,hk,hw⟩:=hw
   obtain ⟨h1,h2⟩:=List.mem_filter.1 hk
   obtain ⟨ho,he⟩:=of_decide_eq_true h2
   have h3:=left_nx h1 ho
   obtain ⟨v,hv,rfl⟩:=List.mem_map.1 hw
   rw [runF_cons h1 hi hj ho,allW_run q _ _ _ rfl ho.1 ho.2.1 v hv]
   congr 1
   omega
 termination_by d=>d
 decreasing_by subst hd; exact h3
/-! A further interval at the end of the right log. -/
def growQ (q:CQ) (x:IV):CQ:={ q with R:=q.R ++ [x] }
theorem thk_app {l:List IV} (x:IV) {j:Nat} (h:j < l.length):thk (l ++ [x]) j=thk l j∧unt (l ++ [x]) j=unt l j:=by
 unfold thk unt
 rw [List.getElem?_append_left h]
 exact ⟨rfl,rfl⟩
theorem rep_app {l:List IV} (x:IV) {j:Nat} (h:j < l.length):repI (l ++ [x]) j ↔ repI l j:=by
 unfold repI
 rw [(thk_app x h).2,(thk_app x (show j - 1 < l.length by omega)).2]
theorem grow_ok {q:CQ} (x:IV) {k i j:Nat} (hk:k ∈ kinds) (h:okS q k i j):okS (growQ q x) k i j∧cst (growQ q x) k i j=cst q k i j:=by
 obtain ⟨h1,h2,h3,h4⟩:=h
 unfold kinds at hk
 simp only [List.mem_cons,List.not_mem_nil,or_false] at hk
 have hl:(growQ q x).R.length=q.R.length + 1:=by unfold growQ; simp
 have hj:(k=1 ∨ k=3 ∨ k=5)→j < q.R.length:=fun e=>by unfold nxJ at h2; rw [if_pos e] at h2; omega
 refine ⟨⟨h1,by omega,h3,fun e=>(rep_app x (hj (by omega))).2 (h4 e)⟩,?_⟩
 rcases hk with rfl | rfl | rfl | rfl | rfl
 ·obtain ⟨e1,e2⟩:=thk_app x (hj (by omega))
  show q.ch * ((thk q.L i - thk (q.R ++ [x]) j).natAbs:Int) + (if unt q.L i=unt (q.R ++ [x]) j then 0 else q.mi * (thk q.L i + thk (q.R ++ [x]) j))=_
  rw [e1,e2]
  rfl
 ·rfl
 ·show q.ga * thk (q.R ++ [x]) j=q.ga * thk q.R j
  rw [(thk_app x (hj (by omega))).1]
 ·rfl
 ·show q.re * thk (q.R ++ [x]) j=q.re * thk q.R j
  rw [(thk_app x (hj (by omega))).1]
theorem rst_grow (q:CQ) (x:IV):∀ (d i j:Nat),left q i j=d→i≤q.L.length→j≤q.R.length→rst (growQ q x) i j≤rst q i j + q.ga * (x.t - x.f)
 | d,i,j,hd,hi,hj=>by
  have hl:(growQ q x).R.length=q.R.length + 1:=by unfold growQ; simp
  by_cases hne:i < q.L.length ∨ j < q.R.length
  ·obtain ⟨k,hk,ho,he⟩:=good_some q i j hi hj hne
   have h3:=left_nx hk ho
   have h4:=rst_grow q x _ _ _ rfl ho.1 ho.2.1
   obtain ⟨g1,g2⟩:=grow_ok x hk ho
   have h5:=rst_le (growQ q x) i j k hi (by omega) hk g1
   omega
  ·obtain ⟨rfl,rfl⟩:i=q.L.length∧j=q.R.length:=by omega
   rw [rst_end]
   have h5:=rst_le (growQ q x) q.L.length q.R.length 3 (Nat.le_refl _) (by omega) (by decide) (by unfold okS nxI nxJ; rw [hl]; simp; exact Nat.le_refl _)
   have h6:=rst_end (growQ q x)
   rw [hl] at h6
   rw [show nxI 3 q.L.length=q.L.length from rfl,show nxJ 3 q.R.length=q.R.length + 1 from rfl,show rst (growQ q x) q.L.length (q.R.length + 1)=0 from h6] at h5
   have h7:cst (growQ q x) 3 q.L.length q.R.length=q.ga * (x.t - x.f):=by
    show q.ga * thk (q.R ++ [x]) q.R.length=_
    unfold thk
    rw [List.getElem?_append_right (Nat.le_refl _),Nat.sub_self]
    rfl
   omega
 termination_by d=>d
 decreasing_by subst hd; exact h3

end Go.Proofs.YthhkmihjnnfpgaaGreatDoor
