/- Correlate: plain definitions, names, numbers in quarters, Log, Check. -/
import Derived.Test.YthhkmihjnnfpgaaGreatDoorDilA
import Derived.Test.YthhkmihjnnfpgaaGreatDoorGSlipP
import Derived.Test.YthhkmihjnnfpgaaGreatDoorGRatC
import Derived.Test.YthhkmihjnnfpgaaGreatDoorVec
import Derived.Test.YthhkmihjnnfpgaaGreatDoorBox
import Derived.Test.YthhkmihjnnfpgaaGreatDoorGRat
import Derived.Test.YthhkmihjnnfpgaaGreatDoorRatD
import Derived.Test.YthhkmihjnnfpgaaGreatDoorGRfD
import Derived.Test.YthhkmihjnnfpgaaGreatDoorRfH
import Derived.Test.YthhkmihjnnfpgaaGreatDoorPar6
import Derived.Lib.ConvBytes
/- Correlate's plain mathematics: intervals in halves, costs in quarters; the steps, their costs, the least rests, the best way, the number of ways. -/
namespace Go.Proofs.YthhkmihjnnfpgaaGreatDoor
set_option linter.all false
open Go.RowKit

noncomputable def qT (x:Int):ByteArray:=canonR (mkRat x 4)
theorem qT_inj {x y:Int} (h:qT x=qT y):x=y:=by
 have e:=canonR_inj h
 rw [Rat.mkRat_eq_iff (by decide) (by decide)] at e
 omega
theorem quarter_add (x y:Int):mkRat x 4 + mkRat y 4=mkRat (x + y) 4:=by
 rw [Rat.mkRat_eq_div,Rat.mkRat_eq_div,Rat.mkRat_eq_div,Rat.intCast_add]
 grind
theorem quarter_sub (x y:Int):mkRat x 4 - mkRat y 4=mkRat (x - y) 4:=by
 rw [Rat.mkRat_eq_div,Rat.mkRat_eq_div,Rat.mkRat_eq_div,Rat.intCast_sub]
 grind
theorem quarter_mul (x y:Int):mkRat (2 * x) 4 * mkRat (2 * y) 4=mkRat (x * y) 4:=by
 rw [Rat.mkRat_eq_div,Rat.mkRat_eq_div,Rat.mkRat_eq_div,Rat.intCast_mul,Rat.intCast_mul,Rat.intCast_mul]
 grind
theorem quarter_neg (x:Int):-mkRat x 4=mkRat (-x) 4:=by
 rw [Rat.mkRat_eq_div,Rat.mkRat_eq_div,Rat.intCast_neg]
 grind
theorem quarter_whole (x:Int):mkRat x 1=mkRat (4 * x) 4:=by
 rw [Rat.mkRat_eq_div,Rat.mkRat_eq_div,Rat.intCast_mul]
 grind
theorem quarter_half (x:Int):mkRat x 2=mkRat (2 * x) 4:=by
 rw [Rat.mkRat_eq_div,Rat.mkRat_eq_div,Rat.intCast_mul]
 grind
theorem dsign_ltQ (z:Int):z.sign < 0 ↔ z < 0:=by simp
theorem quarter_num (x:Int):(mkRat x 4).num < 0 ↔ x < 0:=by
 have h:=num_mk_sign x 4 (by decide)
 have a:=dsign_ltQ (mkRat x 4).num
 have b:=dsign_ltQ x
 rw [h] at a
 exact a.symm.trans b
theorem quarter_sz (x:Int) (h:x.natAbs < 1000000):Sz (mkRat x 4) 6:=(S2.of (a:=6) (b:=1) (by decide) rfl h (by decide)).sz (by omega) (by omega)
theorem qT_size (x:Int) (h:x.natAbs < 1000000):(qT x).size≤20:=by have:=(quarter_sz x h).text (by omega); unfold qT; omega
theorem qT_right (x:Int) (h:x.natAbs < 1000000):rightQ (qT x)=true:=right_of_sz (quarter_sz x h) (by omega) (by omega)

structure IV where
 u:ByteArray
 f:Int
 t:Int
structure CQ where
 L:List IV
 R:List IV
 ch:Int
 mi:Int
 ga:Int
 re:Int
def thk (l:List IV) (i:Nat):Int:=match l[i]? with
 | some x=>x.t - x.f
 | none=>0
def unt (l:List IV) (i:Nat):ByteArray:=match l[i]? with
 | some x=>x.u
 | none=>⟨#[]⟩
def repI (l:List IV) (i:Nat):Prop:=0 < i∧unt l (i - 1)=unt l i
instance (l:List IV) (i:Nat):Decidable (repI l i):=by unfold repI; infer_instance
def nxI (k i:Nat):Nat:=if k=1 ∨ k=2 ∨ k=4 then i + 1 else i
def nxJ (k j:Nat):Nat:=if k=1 ∨ k=3 ∨ k=5 then j + 1 else j
def okS (q:CQ) (k i j:Nat):Prop:=nxI k i≤q.L.length∧nxJ k j≤q.R.length∧(k=4→repI q.L i)∧(k=5→repI q.R j)
instance (q:CQ) (k i j:Nat):Decidable (okS q k i j):=by unfold okS; infer_instance
def cst (q:CQ) (k i j:Nat):Int :=
 if k=1 then q.ch * ((thk q.L i - thk q.R j).natAbs:Int) + (if unt q.L i=unt q.R j then 0 else q.mi * (thk q.L i + thk q.R j))
 else if k=2 then q.ga * thk q.L i
 else if k=3 then q.ga * thk q.R j
 else if k=4 then q.re * thk q.L i
 else q.re * thk q.R j
def imp (a:Option Int) (x:Int):Option Int:=match a with
 | none=>some x
 | some y=>if x < y then some x else some y
def fin? (q:CQ) (i j:Nat):Option Int:=if i=q.L.length∧j=q.R.length then some 0 else none
def tryK (q:CQ) (rest:Nat→Nat→Int) (i j:Nat) (a:Option Int) (k:Nat):Option Int:=if okS q k i j then imp a (rest (nxI k i) (nxJ k j) + cst q k i j) else a
def kinds:List Nat:=[1,2,3,4,5]
def rstF (q:CQ):Nat→Nat→Nat→Int
 | 0,_,_=>0
 | d + 1,i,j=>(kinds.foldl (tryK q (rstF q d) i j) (fin? q i j)).getD 0
def rst (q:CQ) (i j:Nat):Int:=rstF q (q.L.length - i + (q.R.length - j) + 1) i j

theorem nx_more {k i j:Nat} (hk:k ∈ kinds):i + j < nxI k i + nxJ k j∧i≤nxI k i∧j≤nxJ k j:=by
 simp only [kinds,List.mem_cons,List.not_mem_nil,or_false] at hk
 rcases hk with rfl | rfl | rfl | rfl | rfl <;> simp [nxI,nxJ] <;> omega
theorem foldl_congr' {α β:Type} {f g:α→β→α}:∀ (l:List β) (a:α),(∀ a b,b ∈ l→f a b=g a b)→l.foldl f a=l.foldl g a
 | [],a,_=>rfl
 | b :: l,a,h=>by
  rw [List.foldl_cons,List.foldl_cons,h a b List.mem_cons_self]
  exact foldl_congr' l _ (fun a b hb=>h a b (List.mem_cons_of_mem _ hb))
theorem rstF_more (q:CQ):∀ (d e i j:Nat),q.L.length - i + (q.R.length - j) < d→q.L.length - i + (q.R.length - j) < e→i≤q.L.length→j≤q.R.length→rstF q d i j=rstF q e i j
 | 0,_,i,j,h,_,_,_=>by omega
 | _,0,i,j,_,h,_,_=>by omega
 | d + 1,e + 1,i,j,hd,he,hi,hj=>by
  show (kinds.foldl (tryK q (rstF q d) i j) (fin? q i j)).getD 0=(kinds.foldl (tryK q (rstF q e) i j) (fin? q i j)).getD 0
  rw [foldl_congr' kinds _ (fun a k hk=>?_)]
  unfold tryK
  by_cases ho:okS q k i j
  ·rw [if_pos ho,if_pos ho]
   have h1:=nx_more (i:=i) (j:=j) hk
   have h2:=ho.1
   have h3:=ho.2.1
   rw [rstF_more q d e (nxI k i) (nxJ k j) (by omega) (by omega) h2 h3]
  ·rw [if_neg ho,if_neg ho]
def part (q:CQ) (i j k:Nat):Option Int:=(kinds.take k).foldl (tryK q (rst q) i j) (fin? q i j)
theorem rst_eq (q:CQ) (i j:Nat) (hi:i≤q.L.length) (hj:j≤q.R.length):rst q i j=(part q i j 5).getD 0:=by
 show (kinds.foldl (tryK q (rstF q (q.L.length - i + (q.R.length - j))) i j) (fin? q i j)).getD 0=(kinds.foldl (tryK q (rst q) i j) (fin? q i j)).getD 0
 rw [foldl_congr' kinds _ (fun a k hk=>?_)]
 unfold tryK
 by_cases ho:okS q k i j
 ·rw [if_pos ho,if_pos ho]
  have h1:=nx_more (i:=i) (j:=j) hk
  have h2:=ho.1
  have h3:=ho.2.1
  show imp a (_ + _)=imp a (rstF q _ _ _ + _)
  rw [rstF_more q _ (q.L.length - nxI k i + (q.R.length - nxJ k j) + 1) (nxI k i) (nxJ k j) (by omega) (by omega) h2 h3]
 ·rw [if_neg ho,if_neg ho]
theorem imp_some (a:Option Int) (x:Int):∃ y,imp a x=some y∧y≤x:=by
 unfold imp
 cases a with
 | none=>exact ⟨x,rfl,Int.le_refl _⟩
 | some y =>
  dsimp only
  split
  ·exact ⟨x,rfl,Int.le_refl _⟩
  ·exact ⟨y,rfl,by omega⟩
theorem tryK_some (q:CQ) (r:Nat→Nat→Int) (i j:Nat) (a:Option Int) (k:Nat) (h:a.isSome=true):(tryK q r i j a k).isSome=true:=by
 unfold tryK
 split
 ·obtain ⟨y,e,_⟩:=imp_some a (r (nxI k i) (nxJ k j) + cst q k i j)
  rw [e]; rfl
 ·exact h
theorem fold_some (q:CQ) (r:Nat→Nat→Int) (i j:Nat):∀ (l:List Nat) (a:Option Int),(a.isSome=true ∨ ∃ k ∈ l,okS q k i j)→(l.foldl (tryK q r i j) a).isSome=true
 | [],a,h=>by
  rcases h with h | ⟨k,hk,_⟩
  ·exact h
  ·cases hk
 | k :: l,a,h=>by
  rw [List.foldl_cons]
  refine fold_some q r i j l _ ?_
  rcases h with h | ⟨k',hk,ho⟩
  ·exact .inl (tryK_some q r i j a k h)
  ·rcases List.mem_cons.1 hk with rfl | hk
   ·left
    unfold tryK
    rw [if_pos ho]
    obtain ⟨y,e,_⟩:=imp_some a (r (nxI k' i) (nxJ k' j) + cst q k' i j)
    rw [e]; rfl
   ·exact .inr ⟨k',hk,ho⟩
theorem part_all (q:CQ) (i j:Nat) (hi:i≤q.L.length) (hj:j≤q.R.length):part q i j 5=some (rst q i j):=by
 have h:(part q i j 5).isSome=true:=by
  refine fold_some q (rst q) i j kinds _ ?_
  by_cases h1:i < q.L.length
  ·exact .inr ⟨2,by decide,by unfold okS nxI nxJ; simp; omega⟩
  ·by_cases h2:j < q.R.length
   ·exact .inr ⟨3,by decide,by unfold okS nxI nxJ; simp; omega⟩
   ·left
    unfold fin?
    rw [if_pos ⟨by omega,by omega⟩]; rfl
 rw [rst_eq q i j hi hj]
 obtain ⟨y,e⟩:=Option.isSome_iff_exists.1 h
 rw [e]; rfl

def goodS (q:CQ) (i j k:Nat):Prop:=okS q k i j∧cst q k i j + rst q (nxI k i) (nxJ k j)=rst q i j
instance (q:CQ) (i j k:Nat):Decidable (goodS q i j k):=by unfold goodS; infer_instance
theorem imp_or (a:Option Int) (x y:Int) (h:imp a x=some y):a=some y ∨ x=y:=by
 unfold imp at h
 cases a with
 | none=>injection h with h; exact .inr h
 | some z =>
  dsimp only at h
  split at h
  ·injection h with h; exact .inr h
  ·exact .inl h
theorem fold_or (q:CQ) (r:Nat→Nat→Int) (i j:Nat):∀ (l:List Nat) (a:Option Int) (y:Int),l.foldl (tryK q r i j) a=some y→a=some y ∨ ∃ k ∈ l,okS q k i j∧r (nxI k i) (nxJ k j) + cst q k i j=y
 | [],a,y,h=>.inl h
 | k :: l,a,y,h=>by
  rw [List.foldl_cons] at h
  rcases fold_or q r i j l _ y h with h1 | ⟨k',hk,h2⟩
  ·unfold tryK at h1
   split at h1
   ·rename_i ho
    rcases imp_or _ _ _ h1 with h3 | h3
    ·exact .inl h3
    ·exact .inr ⟨k,List.mem_cons_self,ho,h3⟩
   ·exact .inl h1
  ·exact .inr ⟨k',List.mem_cons_of_mem _ hk,h2⟩
theorem good_some (q:CQ) (i j:Nat) (hi:i≤q.L.length) (hj:j≤q.R.length) (hne:i < q.L.length ∨ j < q.R.length):∃ k ∈ kinds,goodS q i j k:=by
 have h:=part_all q i j hi hj
 rcases fold_or q (rst q) i j kinds _ _ h with h1 | ⟨k,hk,ho,he⟩
 ·unfold fin? at h1
  rw [if_neg (by omega)] at h1
  cases h1
 ·exact ⟨k,hk,ho,by omega⟩
def firstK (q:CQ) (i j:Nat):Nat:=(kinds.find? (fun k=>goodS q i j k)).getD 0
def wayF (q:CQ):Nat→Nat→Nat→List (Nat × Nat × Nat)
 | 0,_,_=>[]
 | d + 1,i,j=>if i < q.L.length ∨ j < q.R.length then (firstK q i j,i,j) :: wayF q d (nxI (firstK q i j) i) (nxJ (firstK q i j) j) else []
def cntF (q:CQ):Nat→Nat→Nat→Nat
 | 0,_,_=>0
 | d + 1,i,j=>(if i=q.L.length∧j=q.R.length then 1 else 0) + ((kinds.filter (fun k=>goodS q i j k)).map (fun k=>cntF q d (nxI k i) (nxJ k j))).sum
def cnt (q:CQ) (i j:Nat):Nat:=cntF q (q.L.length - i + (q.R.length - j) + 1) i j

end Go.Proofs.YthhkmihjnnfpgaaGreatDoor

/- relation.IsName at words of small letters. -/
namespace Go.Proofs.YthhkmihjnnfpgaaGreatDoor
set_option linter.all false
open Go.RowKit

theorem below_bytes (w:World) (e:TypeId) (s:ByteArray):Below w.heap.size w (Lib.bytesWorld w e s) :=
 ⟨rfl,rfl,rfl,by rw [Lib.bytesWorld_size]; omega,fun k hk=>Lib.bytesWorld_at_old w e s k hk⟩
def LowB (s:ByteArray):Prop:=0 < s.size∧s.size≤32∧∀ b ∈ s.data.toList,97≤b.toNat∧b.toNat≤122
set_option maxRecDepth 100000 in
set_option maxHeartbeats 4000000 in
theorem isname_low (s:ByteArray) (hs:LowB s) (w:World) :
  Calls Tryz.prog 75 #[.string s] w fun e w'=>e=.returned (.bool true)∧Below w.heap.size w w':=by
 obtain ⟨h0,h1,h2⟩:=hs
 have hne2:(s.toList == ([]:List UInt8))=false:=by
  rw [beq_eq_false_iff_ne]
  intro e
  rw [ByteArray.toList_eq] at e
  have:s.data.toList.length=0:=by rw [e]; rfl
  have h3:s.size=s.data.toList.length:=rfl
  omega
 have hgt:decide ((s.size:Int) > 32)=false:=decide_eq_false (by omega)
 have hcv:=Lib.run_convert_string_bytes (P:=Tryz.prog) w 9 160 5 s Tryz.underlying9 Tryz.underlying160 Tryz.underlying5
 have HC:=Lib.hid (Lib.bytesWorld_cell w 5 s)
 have HB:=Lib.hid (below_bytes w 5 s)
 have hsz:=Lib.bytesWorld_size w 5 s
 generalize grownCap w s.size 0 5 = cap at *
 generalize Lib.bytesWorld w 5 s=W1 at *
 have H2:=Lib.hid h2
 clear h2
 go_enter Tryz.func75, Tryz.ntmps75
 go_wp2
 go_loopw [17] (fun iv wr=>∃ k:Nat,k≤s.size∧iv=.int .i64 k∧wr=W1) (fun iv _=>s.size - (intOf iv).toNat)
 case atStart=>exact ⟨0,Nat.zero_le _,rfl,rfl⟩
 case round =>
  obtain ⟨k,hk,rfl,rfl⟩:=hrel
  by_cases hlt:k < s.size
  ·have hi:(k:Int) < (s.size:Int):=by omega
   have hl:k < s.data.toList.length:=hlt
   have hb:=H2.out (s.data.toList[k]) (List.getElem_mem hl)
   have hc:=HC.out k hlt
   rw [List.getD_eq_getElem?_getD,List.getElem?_eq_getElem hl] at hc
   simp only [Option.getD_some] at hc
   generalize s.data.toList[k]=b at *
   have g1:decide ((97:Int)≤(b.toNat:Int))=true:=decide_eq_true (by omega)
   have g2:decide ((b.toNat:Int)≤122)=true:=decide_eq_true (by omega)
   go_wp2
   exact ⟨⟨k + 1,by omega,by go_num,trivial⟩,by simp [intOf]; omega⟩
  ·have hkl:k=s.size:=by omega
   subst hkl
   have hi:¬ (s.size:Int) < (s.size:Int):=by omega
   go_wp2
   go_ret
   exact ⟨rfl,HB.out⟩

end Go.Proofs.YthhkmihjnnfpgaaGreatDoor

/- Numbers given in quarters. -/
namespace Go.Proofs.YthhkmihjnnfpgaaGreatDoor
set_option linter.all false
open Go.RowKit

theorem cmp_sign (x y:Int):cmpR (mkRat x 4) (mkRat y 4)=(x - y).sign:=by
 rw [cmpR_sub,quarter_sub,num_mk_sign _ _ (by decide)]
theorem qT_zero:qT 0=⟨#[48]⟩:=by
 unfold qT
 rw [show mkRat 0 4=0 from by rw [Rat.mkRat_eq_zero (by decide)],canonR0]

theorem rAddQ (x y:Int) (hx:x.natAbs < 1000000) (hy:y.natAbs < 1000000) (w:World) (he:Env w):Ret Tryz.prog w 21 #[.string (qT x),.string (qT y)] (.string (qT (x + y))):=fun W hW=>by
 have h:=radd_any (mkRat x 4) (mkRat y 4) 6 (by omega) (by omega) (quarter_sz x hx) (quarter_sz y hy) W (he.below hW)
 rw [quarter_add] at h
 exact h
theorem rSubQ (x y:Int) (hx:x.natAbs < 1000000) (hy:y.natAbs < 1000000) (w:World) (he:Env w):Ret Tryz.prog w 64 #[.string (qT x),.string (qT y)] (.string (qT (x - y))):=fun W hW=>by
 have h:=rsub_any (mkRat x 4) (mkRat y 4) 6 (by omega) (by omega) (quarter_sz x hx) (quarter_sz y hy) W (he.below hW)
 rw [quarter_sub] at h
 exact h
theorem rMulQ (x y:Int) (hx:(2 * x).natAbs < 1000000) (hy:(2 * y).natAbs < 1000000) (w:World) (he:Env w):Ret Tryz.prog w 39 #[.string (qT (2 * x)),.string (qT (2 * y))] (.string (qT (x * y))):=fun W hW=>by
 have h:=rmul_any (mkRat (2 * x) 4) (mkRat (2 * y) 4) 6 (by omega) (by omega) (quarter_sz _ hx) (quarter_sz _ hy) W (he.below hW)
 rw [quarter_mul] at h
 exact h
theorem rCmpQ (x y:Int) (hx:x.natAbs < 1000000) (hy:y.natAbs < 1000000) (w:World) (he:Env w):Ret Tryz.prog w 22 #[.string (qT x),.string (qT y)] (.int .i64 (x - y).sign):=fun W hW=>by
 have h:=rcompare_any (mkRat x 4) (mkRat y 4) 6 (by omega) (by omega) (quarter_sz x hx) (quarter_sz y hy) W (he.below hW)
 rw [show ((mkRat x 4).num * ((mkRat y 4).den:Int) - (mkRat y 4).num * ((mkRat x 4).den:Int)).sign=cmpR (mkRat x 4) (mkRat y 4) from rfl,cmp_sign] at h
 exact h
theorem quarter_abs (x:Int):absQ (mkRat x 4)=mkRat (x.natAbs:Int) 4:=by
 unfold absQ
 by_cases h:x < 0
 ·rw [if_pos ((quarter_num x).2 h),quarter_neg]
  congr 1
  omega
 ·rw [if_neg (fun e=>h ((quarter_num x).1 e))]
  congr 1
  omega
theorem rAbsQ (x:Int) (w:World) (he:Env w):Ret Tryz.prog w 63 #[.string (qT x)] (.string (qT (x.natAbs:Int))):=fun W hW=>by
 have h:=rabs_any (mkRat x 4) W
 rw [quarter_abs] at h
 exact h
theorem rSignQ (x:Int) (hx:x.natAbs < 1000000) (w:World) (he:Env w):Ret Tryz.prog w 43 #[.string (qT x)] (.int .i64 x.sign):=fun W hW=>by
 have h:=rsign_any (mkRat x 4) W (by have:=qT_size x hx; unfold qT at this; omega)
 rw [num_mk_sign _ _ (by decide)] at h
 exact h.mono (fun e w' h=>⟨h.1,h.2 ▸ Below.refl _ _⟩)
theorem rCheckQ (x:Int) (hx:x.natAbs < 1000000) (w:World) (he:Env w):Ret Tryz.prog w 72 #[.string (qT x)] (.int .i64 0):=fun W hW=>by
 have h:=rcheck_any (qT x) W (he.below hW) (by have:=qT_size x hx; omega)
 rw [if_pos (qT_right x hx)] at h
 exact h
theorem rOfQ (x:Int) (hx:x.natAbs < 1000000) (w:World) (he:Env w):Ret Tryz.prog w 37 #[.int .i64 x,.int .i64 2] (.tuple #[.string (qT (2 * x)),.int .i64 0]):=fun W hW=>by
 have h:=rof_any false x 2 W (he.below hW).1 (by omega) (by omega) (by omega) (by omega)
 rw [show canonR (mkRat x (2:Nat))=qT (2 * x) from by unfold qT; rw [← quarter_half]] at h
 exact h

end Go.Proofs.YthhkmihjnnfpgaaGreatDoor

/- welllog.Log at a right log. -/
namespace Go.Proofs.YthhkmihjnnfpgaaGreatDoor
set_option linter.all false
open Go.RowKit

theorem dsign_ltC (z:Int):decide (z.sign < 0)=decide (z < 0):=by simp
theorem dsign_leC (z:Int):decide (z.sign≤0)=decide (z≤0):=by
 rw [decide_eq_decide]
 rcases Int.lt_trichotomy z 0 with h | h | h
 ·rw [Int.sign_eq_neg_one_of_neg h]; omega
 ·subst h; simp
 ·rw [Int.sign_eq_one_of_pos h]; omega
noncomputable def IV.cells (x:IV):List Value:=[.string x.u,.string (qT (2 * x.f)),.string (qT (2 * x.t))]
theorem IV.len (x:IV):x.cells.length=3:=rfl
def endI (l:List IV):Nat→Int
 | 0=>0
 | k + 1=>match l[k]? with
  | some x=>x.t
  | none=>0
def OkLog (l:List IV):Prop:=∀ (k:Nat) (hk:k < l.length),(l[k].u=⟨#[]⟩ ∨ LowB l[k].u)∧0≤l[k].f∧l[k].f < l[k].t∧l[k].t≤1000∧0≤endI l k∧endI l k≤l[k].f
theorem endI_next (l:List IV) (k:Nat) (hk:k < l.length):endI l (k + 1)=l[k].t:=by
 show (match l[k]? with | some x=>x.t | none=>0)=_
 rw [List.getElem?_eq_getElem hk]
theorem ba_ne {s:ByteArray} (h:0 < s.size):(s.toList == ([]:List UInt8))=false:=by
 rw [beq_eq_false_iff_ne]
 intro e
 rw [ByteArray.toList_eq] at e
 have:s.data.toList.length=0:=by rw [e]; rfl
 have h3:s.size=s.data.toList.length:=rfl
 omega

set_option maxRecDepth 100000 in
set_option maxHeartbeats 4000000 in
theorem log_ok (l:List IV) (hl:l.length≤60) (ok:OkLog l) (v:Value) (w:World) (he:Env w) (hv:SAt IV.cells 3 w v l) :
  Calls Tryz.prog 41 #[v] w fun e w'=>e=.returned (.int .i64 0)∧Below w.heap.size w w':=by
 have HE:=Lib.hid (fun W (hW:Below w.heap.size w W)=>he.below hW)
 have B:=Lib.hid (Below.refl w.heap.size w)
 have OK:=Lib.hid ok
 have HV:=Lib.hid hv
 obtain ⟨A,c,rfl,_⟩:=hv
 clear ok he
 have hg:decide ((l.length:Int) > 200)=false:=decide_eq_false (by omega)
 go_enter Tryz.func41, Tryz.ntmps41
 go_wp2
 go_loopw [3,11] (fun ev iv wr=>∃ k:Nat,k≤l.length∧ev=.string (qT (2 * endI l k))∧iv=.int .i64 k∧Below w.heap.size w wr) (fun _ iv _=>l.length - (intOf iv).toNat)
 case atStart=>exact ⟨0,Nat.zero_le _,by rw [show 2 * endI l 0=0 from rfl,qT_zero],rfl,B.out⟩
 case round =>
  obtain ⟨k,hk,rfl,rfl,hB⟩:=hrel
  clear B
  have B:=Lib.hid hB
  clear hB
  by_cases hlt:k < l.length
  ·obtain ⟨hu,h1,h2,h3,h4,h5⟩:=OK.out k hlt
   have HEN:=Lib.hid (endI_next l k hlt)
   obtain ⟨dd,oo,c1,e1,_,q1⟩:=(HV.out.below B.out).cell k hlt
   injection e1 with e1 _ e1c
   subst e1 e1c
   generalize l[k]=x at *
   have x0:wr.cell? ⟨dd,oo + k * 3,none⟩=_:=q1 0 _ rfl
   have x1:=q1 1 _ rfl
   have x2:=q1 2 _ rfl
   clear q1
   have hi:(k:Int) < (l.length:Int):=by omega
   go_upto_region 7 with (fail)
   have K5:=Lib.hid (Blk.fresh wr #[.string x.u,.string (qT (2 * x.f)),.string (qT (2 * x.t))] 86)
   have qq:=below_new wr (.cells #[.string x.u,.string (qT (2 * x.f)),.string (qT (2 * x.t))] 86)
   replace B:=Lib.hid (B.out.trans (qq.mono B.out.size))
   clear x0 x1 x2 qq
   generalize (wr.alloc (.cells #[.string x.u,.string (qT (2 * x.f)),.string (qT (2 * x.t))] 86))=W1 at *
   generalize wr.heap.size=b5 at *
   have HK1:=Lib.hid (rCheckQ (2 * x.f) (by omega) w (HE.out w (Below.refl _ _)))
   have HK2:=Lib.hid (rCheckQ (2 * x.t) (by omega) w (HE.out w (Below.refl _ _)))
   have HSG:=Lib.hid (rSignQ (2 * x.f) (by omega) w (HE.out w (Below.refl _ _)))
   have HCT:=Lib.hid (rCmpQ (2 * x.t) (2 * x.f) (by omega) (by omega) w (HE.out w (Below.refl _ _)))
   have HCE:=Lib.hid (rCmpQ (2 * x.f) (2 * endI l k) (by omega) (by omega) w (HE.out w (Below.refl _ _)))
   have g1:decide ((2 * x.f).sign < 0)=false:=by rw [dsign_ltC]; exact decide_eq_false (by omega)
   have g2:decide ((2 * x.t - 2 * x.f).sign≤0)=false:=by rw [dsign_leC]; exact decide_eq_false (by omega)
   have g3:decide ((2 * x.f - 2 * endI l k).sign < 0)=false:=by rw [dsign_ltC]; exact decide_eq_false (by omega)
   generalize (2 * x.f).sign=s1 at *
   generalize (2 * x.t - 2 * x.f).sign=s2 at *
   generalize (2 * x.f - 2 * endI l k).sign=s3 at *
   clear h1 h2 h3 h4 h5
   by_cases hk0:k=0
   ·subst hk0
    have hk0:¬ ((0:Nat):Int) > 0:=by omega
    have hk1:decide (((0:Nat):Int) > 0)=false:=decide_eq_false hk0
    rcases hu with hu | hu
    ·have hue:(x.u.toList == ([]:List UInt8))=true:=by rw [hu,ByteArray.toList_eq]; rfl
     clear hu
     have z0:=K5.out.at_ 0 _ rfl
     have z1:=K5.out.at_ 1 _ rfl
     have z2:=K5.out.at_ 2 _ rfl
     go_wp2_with (first
      | (go_at_call 72; with_reducible refine (HK1.out _ B.out).mono ?_; rintro e wx ⟨rfl,q⟩; replace K5:=Lib.hid (K5.out.below q); replace B:=Lib.hid (B.out.trans (q.mono B.out.size)); clear q; have z0:=K5.out.at_ 0 _ rfl; have z1:=K5.out.at_ 1 _ rfl; have z2:=K5.out.at_ 2 _ rfl)
      | (go_at_call 72; with_reducible refine (HK2.out _ B.out).mono ?_; rintro e wx ⟨rfl,q⟩; replace K5:=Lib.hid (K5.out.below q); replace B:=Lib.hid (B.out.trans (q.mono B.out.size)); clear q; have z0:=K5.out.at_ 0 _ rfl; have z1:=K5.out.at_ 1 _ rfl; have z2:=K5.out.at_ 2 _ rfl)
      | (go_at_call 43; with_reducible refine (HSG.out _ B.out).mono ?_; rintro e wx ⟨rfl,q⟩; replace K5:=Lib.hid (K5.out.below q); replace B:=Lib.hid (B.out.trans (q.mono B.out.size)); clear q; have z0:=K5.out.at_ 0 _ rfl; have z1:=K5.out.at_ 1 _ rfl; have z2:=K5.out.at_ 2 _ rfl)
      | (go_at_call 22; with_reducible refine (HCT.out _ B.out).mono ?_; rintro e wx ⟨rfl,q⟩; replace K5:=Lib.hid (K5.out.below q); replace B:=Lib.hid (B.out.trans (q.mono B.out.size)); clear q; have z0:=K5.out.at_ 0 _ rfl; have z1:=K5.out.at_ 1 _ rfl; have z2:=K5.out.at_ 2 _ rfl)
      | (go_at_call 22; with_reducible refine (HCE.out _ B.out).mono ?_; rintro e wx ⟨rfl,q⟩; replace K5:=Lib.hid (K5.out.below q); replace B:=Lib.hid (B.out.trans (q.mono B.out.size)); clear q; have z0:=K5.out.at_ 0 _ rfl; have z1:=K5.out.at_ 1 _ rfl; have z2:=K5.out.at_ 2 _ rfl)
      | fail "arm")
     exact ⟨⟨0 + 1,by omega,by rw [HEN.out],by go_num,B.out⟩,by simp [intOf]; omega⟩
    ·have hue:=ba_ne hu.1
     have HNM:Hid (Ret Tryz.prog w 75 #[.string x.u] (.bool true)):=Lib.hid (fun W _=>isname_low x.u hu W)
     clear hu
     have z0:=K5.out.at_ 0 _ rfl
     have z1:=K5.out.at_ 1 _ rfl
     have z2:=K5.out.at_ 2 _ rfl
     go_wp2_with (first
      | (go_at_call 75; with_reducible refine (HNM.out _ B.out).mono ?_; rintro e wx ⟨rfl,q⟩; replace K5:=Lib.hid (K5.out.below q); replace B:=Lib.hid (B.out.trans (q.mono B.out.size)); clear q; have z0:=K5.out.at_ 0 _ rfl; have z1:=K5.out.at_ 1 _ rfl; have z2:=K5.out.at_ 2 _ rfl)
      | (go_at_call 72; with_reducible refine (HK1.out _ B.out).mono ?_; rintro e wx ⟨rfl,q⟩; replace K5:=Lib.hid (K5.out.below q); replace B:=Lib.hid (B.out.trans (q.mono B.out.size)); clear q; have z0:=K5.out.at_ 0 _ rfl; have z1:=K5.out.at_ 1 _ rfl; have z2:=K5.out.at_ 2 _ rfl)
      | (go_at_call 72; with_reducible refine (HK2.out _ B.out).mono ?_; rintro e wx ⟨rfl,q⟩; replace K5:=Lib.hid (K5.out.below q); replace B:=Lib.hid (B.out.trans (q.mono B.out.size)); clear q; have z0:=K5.out.at_ 0 _ rfl; have z1:=K5.out.at_ 1 _ rfl; have z2:=K5.out.at_ 2 _ rfl)
      | (go_at_call 43; with_reducible refine (HSG.out _ B.out).mono ?_; rintro e wx ⟨rfl,q⟩; replace K5:=Lib.hid (K5.out.below q); replace B:=Lib.hid (B.out.trans (q.mono B.out.size)); clear q; have z0:=K5.out.at_ 0 _ rfl; have z1:=K5.out.at_ 1 _ rfl; have z2:=K5.out.at_ 2 _ rfl)
      | (go_at_call 22; with_reducible refine (HCT.out _ B.out).mono ?_; rintro e wx ⟨rfl,q⟩; replace K5:=Lib.hid (K5.out.below q); replace B:=Lib.hid (B.out.trans (q.mono B.out.size)); clear q; have z0:=K5.out.at_ 0 _ rfl; have z1:=K5.out.at_ 1 _ rfl; have z2:=K5.out.at_ 2 _ rfl)
      | (go_at_call 22; with_reducible refine (HCE.out _ B.out).mono ?_; rintro e wx ⟨rfl,q⟩; replace K5:=Lib.hid (K5.out.below q); replace B:=Lib.hid (B.out.trans (q.mono B.out.size)); clear q; have z0:=K5.out.at_ 0 _ rfl; have z1:=K5.out.at_ 1 _ rfl; have z2:=K5.out.at_ 2 _ rfl)
      | fail "arm")
     exact ⟨⟨0 + 1,by omega,by rw [HEN.out],by go_num,B.out⟩,by simp [intOf]; omega⟩
   ·have hk1:0 < k:=by omega
    clear hk0
    rcases hu with hu | hu
    ·have hue:(x.u.toList == ([]:List UInt8))=true:=by rw [hu,ByteArray.toList_eq]; rfl
     clear hu
     have z0:=K5.out.at_ 0 _ rfl
     have z1:=K5.out.at_ 1 _ rfl
     have z2:=K5.out.at_ 2 _ rfl
     go_wp2_with (first
      | (go_at_call 72; with_reducible refine (HK1.out _ B.out).mono ?_; rintro e wx ⟨rfl,q⟩; replace K5:=Lib.hid (K5.out.below q); replace B:=Lib.hid (B.out.trans (q.mono B.out.size)); clear q; have z0:=K5.out.at_ 0 _ rfl; have z1:=K5.out.at_ 1 _ rfl; have z2:=K5.out.at_ 2 _ rfl)
      | (go_at_call 72; with_reducible refine (HK2.out _ B.out).mono ?_; rintro e wx ⟨rfl,q⟩; replace K5:=Lib.hid (K5.out.below q); replace B:=Lib.hid (B.out.trans (q.mono B.out.size)); clear q; have z0:=K5.out.at_ 0 _ rfl; have z1:=K5.out.at_ 1 _ rfl; have z2:=K5.out.at_ 2 _ rfl)
      | (go_at_call 43; with_reducible refine (HSG.out _ B.out).mono ?_; rintro e wx ⟨rfl,q⟩; replace K5:=Lib.hid (K5.out.below q); replace B:=Lib.hid (B.out.trans (q.mono B.out.size)); clear q; have z0:=K5.out.at_ 0 _ rfl; have z1:=K5.out.at_ 1 _ rfl; have z2:=K5.out.at_ 2 _ rfl)
      | (go_at_call 22; with_reducible refine (HCT.out _ B.out).mono ?_; rintro e wx ⟨rfl,q⟩; replace K5:=Lib.hid (K5.out.below q); replace B:=Lib.hid (B.out.trans (q.mono B.out.size)); clear q; have z0:=K5.out.at_ 0 _ rfl; have z1:=K5.out.at_ 1 _ rfl; have z2:=K5.out.at_ 2 _ rfl)
      | (go_at_call 22; with_reducible refine (HCE.out _ B.out).mono ?_; rintro e wx ⟨rfl,q⟩; replace K5:=Lib.hid (K5.out.below q); replace B:=Lib.hid (B.out.trans (q.mono B.out.size)); clear q; have z0:=K5.out.at_ 0 _ rfl; have z1:=K5.out.at_ 1 _ rfl; have z2:=K5.out.at_ 2 _ rfl)
      | fail "arm")
     exact ⟨⟨k + 1,by omega,by rw [HEN.out],by go_num,B.out⟩,by simp [intOf]; omega⟩
    ·have hue:=ba_ne hu.1
     have HNM:Hid (Ret Tryz.prog w 75 #[.string x.u] (.bool true)):=Lib.hid (fun W _=>isname_low x.u hu W)
     clear hu
     have z0:=K5.out.at_ 0 _ rfl
     have z1:=K5.out.at_ 1 _ rfl
     have z2:=K5.out.at_ 2 _ rfl
     go_wp2_with (first
      | (go_at_call 75; with_reducible refine (HNM.out _ B.out).mono ?_; rintro e wx ⟨rfl,q⟩; replace K5:=Lib.hid (K5.out.below q); replace B:=Lib.hid (B.out.trans (q.mono B.out.size)); clear q; have z0:=K5.out.at_ 0 _ rfl; have z1:=K5.out.at_ 1 _ rfl; have z2:=K5.out.at_ 2 _ rfl)
      | (go_at_call 72; with_reducible refine (HK1.out _ B.out).mono ?_; rintro e wx ⟨rfl,q⟩; replace K5:=Lib.hid (K5.out.below q); replace B:=Lib.hid (B.out.trans (q.mono B.out.size)); clear q; have z0:=K5.out.at_ 0 _ rfl; have z1:=K5.out.at_ 1 _ rfl; have z2:=K5.out.at_ 2 _ rfl)
      | (go_at_call 72; with_reducible refine (HK2.out _ B.out).mono ?_; rintro e wx ⟨rfl,q⟩; replace K5:=Lib.hid (K5.out.below q); replace B:=Lib.hid (B.out.trans (q.mono B.out.size)); clear q; have z0:=K5.out.at_ 0 _ rfl; have z1:=K5.out.at_ 1 _ rfl; have z2:=K5.out.at_ 2 _ rfl)
      | (go_at_call 43; with_reducible refine (HSG.out _ B.out).mono ?_; rintro e wx ⟨rfl,q⟩; replace K5:=Lib.hid (K5.out.below q); replace B:=Lib.hid (B.out.trans (q.mono B.out.size)); clear q; have z0:=K5.out.at_ 0 _ rfl; have z1:=K5.out.at_ 1 _ rfl; have z2:=K5.out.at_ 2 _ rfl)
      | (go_at_call 22; with_reducible refine (HCT.out _ B.out).mono ?_; rintro e wx ⟨rfl,q⟩; replace K5:=Lib.hid (K5.out.below q); replace B:=Lib.hid (B.out.trans (q.mono B.out.size)); clear q; have z0:=K5.out.at_ 0 _ rfl; have z1:=K5.out.at_ 1 _ rfl; have z2:=K5.out.at_ 2 _ rfl)
      | (go_at_call 22; with_reducible refine (HCE.out _ B.out).mono ?_; rintro e wx ⟨rfl,q⟩; replace K5:=Lib.hid (K5.out.below q); replace B:=Lib.hid (B.out.trans (q.mono B.out.size)); clear q; have z0:=K5.out.at_ 0 _ rfl; have z1:=K5.out.at_ 1 _ rfl; have z2:=K5.out.at_ 2 _ rfl)
      | fail "arm")
     exact ⟨⟨k + 1,by omega,by rw [HEN.out],by go_num,B.out⟩,by simp [intOf]; omega⟩
  ·have hkl:k=l.length:=by omega
   subst hkl
   have hi:¬ (l.length:Int) < (l.length:Int):=by omega
   go_wp2
   go_ret
   exact ⟨rfl,B.out⟩

end Go.Proofs.YthhkmihjnnfpgaaGreatDoor

/- The costs of a question; Check at a right one. -/
namespace Go.Proofs.YthhkmihjnnfpgaaGreatDoor
set_option linter.all false
open Go.RowKit

structure OkQ (q:CQ):Prop where
 hl:q.L.length≤6
 hr:q.R.length≤6
 okl:OkLog q.L
 okr:OkLog q.R
 ch:0≤q.ch∧q.ch≤20
 mi:0≤q.mi∧q.mi≤20
 ga:0≤q.ga∧q.ga≤20
 re:0≤q.re∧q.re≤20
structure QAt (W:World) (sl sr:Value) (q:CQ):Prop where
 l:SAt IV.cells 3 W sl q.L
 r:SAt IV.cells 3 W sr q.R
theorem QAt.below {W W':World} {sl sr:Value} {q:CQ} (h:QAt W sl sr q) (k:Below W.heap.size W W'):QAt W' sl sr q:=⟨h.l.below k,h.r.below k⟩

set_option maxRecDepth 100000 in
set_option maxHeartbeats 4000000 in
theorem costs_any (q:CQ) (sl sr:Value) (w:World) :
  Calls Tryz.prog 76 #[.agg #[sl,sr,.string (qT (2 * q.ch)),.string (qT (2 * q.mi)),.string (qT (2 * q.ga)),.string (qT (2 * q.re))]] w fun e w'=>(∃ g,e=.returned (.slice (some ⟨g,0,none⟩) 4 4)∧w.heap.size≤g∧Blk w' g #[.string (qT (2 * q.ch)),.string (qT (2 * q.mi)),.string (qT (2 * q.ga)),.string (qT (2 * q.re))] 28)∧Below w.heap.size w w':=by
 have B:=Lib.hid (Below.refl w.heap.size w)
 generalize qT (2 * q.ch)=c1 at *
 generalize qT (2 * q.mi)=c2 at *
 generalize qT (2 * q.ga)=c3 at *
 generalize qT (2 * q.re)=c4 at *
 go_enter Tryz.func76, Tryz.ntmps76
 go_upto_region 1 with (fail)
 have K1:=Lib.hid (Blk.fresh w #[sl,sr,.string c1,.string c2,.string c3,.string c4] 32)
 have qq:=below_new w (.cells #[sl,sr,.string c1,.string c2,.string c3,.string c4] 32)
 have HSZ:Hid ((w.alloc (.cells #[sl,sr,.string c1,.string c2,.string c3,.string c4] 32)).heap.size=w.heap.size + 1):=Lib.hid (by simp)
 generalize (w.alloc (.cells #[sl,sr,.string c1,.string c2,.string c3,.string c4] 32))=W1 at *
 have y2:=K1.out.at_ 2 _ rfl
 have y3:=K1.out.at_ 3 _ rfl
 have y4:=K1.out.at_ 4 _ rfl
 have y5:=K1.out.at_ 5 _ rfl
 go_wp2
 go_ret
 have hsz:=HSZ.out
 exact ⟨⟨W1.heap.size,rfl,by omega,Blk.fresh W1 _ _⟩,B.out.trans (qq.trans ((below_new W1 _).mono (by omega)))⟩

set_option maxRecDepth 100000 in
set_option maxHeartbeats 4000000 in
theorem check_ok (q:CQ) (ok:OkQ q) (sl sr:Value) (w:World) (he:Env w) (hq:QAt w sl sr q) :
  Calls Tryz.prog 44 #[.agg #[sl,sr,.string (qT (2 * q.ch)),.string (qT (2 * q.mi)),.string (qT (2 * q.ga)),.string (qT (2 * q.re))]] w fun e w'=>e=.returned (.int .i64 0)∧Below w.heap.size w w':=by
 have HE:=Lib.hid (fun W (hW:Below w.heap.size w W)=>he.below hW)
 have B:=Lib.hid (Below.refl w.heap.size w)
 have HLL:Hid (Ret Tryz.prog w 41 #[sl] (.int .i64 0)):=Lib.hid (fun W hW=>log_ok q.L (by have:=ok.hl; omega) ok.okl sl W (he.below hW) (hq.l.below hW))
 have HLR:Hid (Ret Tryz.prog w 41 #[sr] (.int .i64 0)):=Lib.hid (fun W hW=>log_ok q.R (by have:=ok.hr; omega) ok.okr sr W (he.below hW) (hq.r.below hW))
 have HCO:=Lib.hid (fun W=>costs_any q sl sr W)
 have k1:=ok.ch
 have k2:=ok.mi
 have k3:=ok.ga
 have k4:=ok.re
 have HK0:=Lib.hid (rCheckQ (2 * q.ch) (by omega) w he)
 have HK1:=Lib.hid (rCheckQ (2 * q.mi) (by omega) w he)
 have HK2:=Lib.hid (rCheckQ (2 * q.ga) (by omega) w he)
 have HK3:=Lib.hid (rCheckQ (2 * q.re) (by omega) w he)
 have HS0:=Lib.hid (rSignQ (2 * q.ch) (by omega) w he)
 have HS1:=Lib.hid (rSignQ (2 * q.mi) (by omega) w he)
 have HS2:=Lib.hid (rSignQ (2 * q.ga) (by omega) w he)
 have HS3:=Lib.hid (rSignQ (2 * q.re) (by omega) w he)
 have g0:decide ((2 * q.ch).sign < 0)=false:=by rw [dsign_ltC]; exact decide_eq_false (by omega)
 have g1:decide ((2 * q.mi).sign < 0)=false:=by rw [dsign_ltC]; exact decide_eq_false (by omega)
 have g2:decide ((2 * q.ga).sign < 0)=false:=by rw [dsign_ltC]; exact decide_eq_false (by omega)
 have g3:decide ((2 * q.re).sign < 0)=false:=by rw [dsign_ltC]; exact decide_eq_false (by omega)
 have hll:=ok.hl
 have hrr:=ok.hr
 obtain ⟨A1,n1,rfl,_⟩:=hq.l
 obtain ⟨A2,n2,rfl,_⟩:=hq.r
 have hg1:decide ((q.L.length:Int) > 60)=false:=decide_eq_false (by omega)
 have hg2:decide ((q.R.length:Int) > 60)=false:=decide_eq_false (by omega)
 clear ok hq he k1 k2 k3 k4 hll hrr
 generalize q.L.length=l1 at *
 generalize q.R.length=l2 at *
 generalize (2 * q.ch).sign=s0 at *
 generalize (2 * q.mi).sign=s1 at *
 generalize (2 * q.ga).sign=s2 at *
 generalize (2 * q.re).sign=s3 at *
 generalize qT (2 * q.ch)=c1 at *
 generalize qT (2 * q.mi)=c2 at *
 generalize qT (2 * q.ga)=c3 at *
 generalize qT (2 * q.re)=c4 at *
 go_enter Tryz.func44, Tryz.ntmps44
 go_upto_region 1 with (fail)
 have K1:=Lib.hid (Blk.fresh w #[.slice A1 l1 n1,.slice A2 l2 n2,.string c1,.string c2,.string c3,.string c4] 32)
 have qq:=below_new w (.cells #[.slice A1 l1 n1,.slice A2 l2 n2,.string c1,.string c2,.string c3,.string c4] 32)
 replace B:=Lib.hid (B.out.trans (qq.mono B.out.size))
 have hb1:w.heap.size < (w.alloc (.cells #[.slice A1 l1 n1,.slice A2 l2 n2,.string c1,.string c2,.string c3,.string c4] 32)).heap.size:=by simp
 clear qq
 generalize (w.alloc (.cells #[.slice A1 l1 n1,.slice A2 l2 n2,.string c1,.string c2,.string c3,.string c4] 32))=W1 at *
 obtain ⟨b1,hbe⟩:∃ b1,w.heap.size=b1:=⟨_,rfl⟩
 rw [hbe] at K1 ⊢
 have HBE:=Lib.hid hbe
 clear hbe
 have y0:=K1.out.at_ 0 _ rfl
 have y1:=K1.out.at_ 1 _ rfl
 go_upto_region 2 with (fail)
 have K14:=Lib.hid (Blk.fresh W1 #[.slice A1 l1 n1,.slice A2 l2 n2] 27)
 have qq:=below_new W1 (.cells #[.slice A1 l1 n1,.slice A2 l2 n2] 27)
 replace B:=Lib.hid (B.out.trans (qq.mono B.out.size))
 replace K1:=Lib.hid (K1.out.below qq)
 clear qq y0 y1 hb1
 generalize (W1.alloc (.cells #[.slice A1 l1 n1,.slice A2 l2 n2] 27))=W2 at *
 generalize W1.heap.size=b14 at *
 go_wp2
 go_loopw [16] (fun iv wr=>∃ k:Nat,k≤2∧iv=.int .i64 k∧Blk wr b1 #[.slice A1 l1 n1,.slice A2 l2 n2,.string c1,.string c2,.string c3,.string c4] 32 ∧ Blk wr b14 #[.slice A1 l1 n1,.slice A2 l2 n2] 27 ∧ Below w.heap.size w wr) (fun iv _=>2 - (intOf iv).toNat)
 case atStart=>exact ⟨0,Nat.zero_le _,rfl,K1.out,K14.out,B.out⟩
 case round =>
  obtain ⟨k,hk,rfl,hk1,hk14,hB⟩:=hrel
  clear K1 K14 B
  have K1:=Lib.hid hk1
  have K14:=Lib.hid hk14
  have B:=Lib.hid hB
  clear hk1 hk14 hB
  have u0:=K14.out.at_ 0 _ rfl
  have u1:=K14.out.at_ 1 _ rfl
  have y0:=K1.out.at_ 0 _ rfl
  have y1:=K1.out.at_ 1 _ rfl
  rcases (show k=0 ∨ k=1 ∨ k=2 by omega) with rfl | rfl | rfl
  ·go_wp2_with (first
    | (go_at_call 41; with_reducible refine (HLL.out _ B.out).mono ?_; rintro e wx ⟨rfl,q⟩; replace K1:=Lib.hid (K1.out.below q); replace K14:=Lib.hid (K14.out.below q); replace B:=Lib.hid (B.out.trans (q.mono B.out.size)); clear q; have y0:=K1.out.at_ 0 _ rfl; have y1:=K1.out.at_ 1 _ rfl; have u0:=K14.out.at_ 0 _ rfl; have u1:=K14.out.at_ 1 _ rfl)
    | (go_at_call 41; with_reducible refine (HLR.out _ B.out).mono ?_; rintro e wx ⟨rfl,q⟩; replace K1:=Lib.hid (K1.out.below q); replace K14:=Lib.hid (K14.out.below q); replace B:=Lib.hid (B.out.trans (q.mono B.out.size)); clear q; have y0:=K1.out.at_ 0 _ rfl; have y1:=K1.out.at_ 1 _ rfl; have u0:=K14.out.at_ 0 _ rfl; have u1:=K14.out.at_ 1 _ rfl)
    | fail "arm")
   exact ⟨⟨1,by omega,rfl,K1.out,K14.out,B.out⟩,by decide⟩
  ·go_wp2_with (first
    | (go_at_call 41; with_reducible refine (HLL.out _ B.out).mono ?_; rintro e wx ⟨rfl,q⟩; replace K1:=Lib.hid (K1.out.below q); replace K14:=Lib.hid (K14.out.below q); replace B:=Lib.hid (B.out.trans (q.mono B.out.size)); clear q; have y0:=K1.out.at_ 0 _ rfl; have y1:=K1.out.at_ 1 _ rfl; have u0:=K14.out.at_ 0 _ rfl; have u1:=K14.out.at_ 1 _ rfl)
    | (go_at_call 41; with_reducible refine (HLR.out _ B.out).mono ?_; rintro e wx ⟨rfl,q⟩; replace K1:=Lib.hid (K1.out.below q); replace K14:=Lib.hid (K14.out.below q); replace B:=Lib.hid (B.out.trans (q.mono B.out.size)); clear q; have y0:=K1.out.at_ 0 _ rfl; have y1:=K1.out.at_ 1 _ rfl; have u0:=K14.out.at_ 0 _ rfl; have u1:=K14.out.at_ 1 _ rfl)
    | fail "arm")
   exact ⟨⟨2,by omega,rfl,K1.out,K14.out,B.out⟩,by decide⟩
  ·clear K14 u0 u1
   have y2:=K1.out.at_ 2 _ rfl
   have y3:=K1.out.at_ 3 _ rfl
   have y4:=K1.out.at_ 4 _ rfl
   have y5:=K1.out.at_ 5 _ rfl
   go_wp2_with (first
    | (go_at_call 76; with_reducible refine (HCO.out _).mono ?_; rintro e wx ⟨⟨g37,rfl,_,hk37⟩,q⟩; replace K1:=Lib.hid (K1.out.below q); replace B:=Lib.hid (B.out.trans (q.mono B.out.size)); clear q; have K37:=Lib.hid hk37; clear hk37)
    | fail "arm")
   clear y0 y1 y2 y3 y4 y5
   go_loopw [39] (fun iv wr=>∃ k:Nat,k≤4∧iv=.int .i64 k∧Blk wr b1 #[.slice A1 l1 n1,.slice A2 l2 n2,.string c1,.string c2,.string c3,.string c4] 32 ∧ Blk wr g37 #[.string c1,.string c2,.string c3,.string c4] 28 ∧ Below w.heap.size w wr) (fun iv _=>4 - (intOf iv).toNat)
   case atStart=>exact ⟨0,Nat.zero_le _,rfl,K1.out,K37.out,B.out⟩
   case round =>
    obtain ⟨k,hk,rfl,hk1,hk37,hB⟩:=hrel
    clear K1 K37 B
    have K1:=Lib.hid hk1
    have K37:=Lib.hid hk37
    have B:=Lib.hid hB
    clear hk1 hk37 hB
    rcases (show k=0 ∨ k=1 ∨ k=2 ∨ k=3 ∨ k=4 by omega) with rfl | rfl | rfl | rfl | rfl
    ·have y0:=K37.out.at_ 0 _ rfl
     go_wp2_with (first
      | (go_at_call 72; with_reducible refine (HK0.out _ B.out).mono ?_; rintro e wx ⟨rfl,q⟩; replace K1:=Lib.hid (K1.out.below q); replace K37:=Lib.hid (K37.out.below q); replace B:=Lib.hid (B.out.trans (q.mono B.out.size)); clear q)
      | fail "arm")
     exact ⟨⟨1,by omega,rfl,K1.out,K37.out,B.out⟩,by decide⟩
    ·have y1:=K37.out.at_ 1 _ rfl
     go_wp2_with (first
      | (go_at_call 72; with_reducible refine (HK1.out _ B.out).mono ?_; rintro e wx ⟨rfl,q⟩; replace K1:=Lib.hid (K1.out.below q); replace K37:=Lib.hid (K37.out.below q); replace B:=Lib.hid (B.out.trans (q.mono B.out.size)); clear q)
      | fail "arm")
     exact ⟨⟨2,by omega,rfl,K1.out,K37.out,B.out⟩,by decide⟩
    ·have y2:=K37.out.at_ 2 _ rfl
     go_wp2_with (first
      | (go_at_call 72; with_reducible refine (HK2.out _ B.out).mono ?_; rintro e wx ⟨rfl,q⟩; replace K1:=Lib.hid (K1.out.below q); replace K37:=Lib.hid (K37.out.below q); replace B:=Lib.hid (B.out.trans (q.mono B.out.size)); clear q)
      | fail "arm")
     exact ⟨⟨3,by omega,rfl,K1.out,K37.out,B.out⟩,by decide⟩
    ·have y3:=K37.out.at_ 3 _ rfl
     go_wp2_with (first
      | (go_at_call 72; with_reducible refine (HK3.out _ B.out).mono ?_; rintro e wx ⟨rfl,q⟩; replace K1:=Lib.hid (K1.out.below q); replace K37:=Lib.hid (K37.out.below q); replace B:=Lib.hid (B.out.trans (q.mono B.out.size)); clear q)
      | fail "arm")
     exact ⟨⟨4,by omega,rfl,K1.out,K37.out,B.out⟩,by decide⟩
    ·clear K37
     have y0:=K1.out.at_ 0 _ rfl
     have y1:=K1.out.at_ 1 _ rfl
     have y2:=K1.out.at_ 2 _ rfl
     have y3:=K1.out.at_ 3 _ rfl
     have y4:=K1.out.at_ 4 _ rfl
     have y5:=K1.out.at_ 5 _ rfl
     go_wp2_with (first
      | (go_at_call 76; with_reducible refine (HCO.out _).mono ?_; rintro e wx ⟨⟨g48,rfl,_,hk48⟩,q⟩; replace K1:=Lib.hid (K1.out.below q); replace B:=Lib.hid (B.out.trans (q.mono B.out.size)); clear q; have K48:=Lib.hid hk48; clear hk48)
      | fail "arm")
     clear y0 y1 y2 y3 y4 y5
     go_loopw [50] (fun iv wr=>∃ k:Nat,k≤4∧iv=.int .i64 k∧Blk wr b1 #[.slice A1 l1 n1,.slice A2 l2 n2,.string c1,.string c2,.string c3,.string c4] 32 ∧ Blk wr g48 #[.string c1,.string c2,.string c3,.string c4] 28 ∧ Below w.heap.size w wr) (fun iv _=>4 - (intOf iv).toNat)
     case atStart=>exact ⟨0,Nat.zero_le _,rfl,K1.out,K48.out,B.out⟩
     case round =>
      obtain ⟨k,hk,rfl,hk1,hk48,hB⟩:=hrel
      clear K1 K48 B
      have K1:=Lib.hid hk1
      have K48:=Lib.hid hk48
      have B:=Lib.hid hB
      clear hk1 hk48 hB
      rcases (show k=0 ∨ k=1 ∨ k=2 ∨ k=3 ∨ k=4 by omega) with rfl | rfl | rfl | rfl | rfl
      ·have y0:=K48.out.at_ 0 _ rfl
       go_wp2_with (first
        | (go_at_call 43; with_reducible refine (HS0.out _ B.out).mono ?_; rintro e wx ⟨rfl,q⟩; replace K1:=Lib.hid (K1.out.below q); replace K48:=Lib.hid (K48.out.below q); replace B:=Lib.hid (B.out.trans (q.mono B.out.size)); clear q)
        | fail "arm")
       exact ⟨⟨1,by omega,rfl,K1.out,K48.out,B.out⟩,by decide⟩
      ·have y1:=K48.out.at_ 1 _ rfl
       go_wp2_with (first
        | (go_at_call 43; with_reducible refine (HS1.out _ B.out).mono ?_; rintro e wx ⟨rfl,q⟩; replace K1:=Lib.hid (K1.out.below q); replace K48:=Lib.hid (K48.out.below q); replace B:=Lib.hid (B.out.trans (q.mono B.out.size)); clear q)
        | fail "arm")
       exact ⟨⟨2,by omega,rfl,K1.out,K48.out,B.out⟩,by decide⟩
      ·have y2:=K48.out.at_ 2 _ rfl
       go_wp2_with (first
        | (go_at_call 43; with_reducible refine (HS2.out _ B.out).mono ?_; rintro e wx ⟨rfl,q⟩; replace K1:=Lib.hid (K1.out.below q); replace K48:=Lib.hid (K48.out.below q); replace B:=Lib.hid (B.out.trans (q.mono B.out.size)); clear q)
        | fail "arm")
       exact ⟨⟨3,by omega,rfl,K1.out,K48.out,B.out⟩,by decide⟩
      ·have y3:=K48.out.at_ 3 _ rfl
       go_wp2_with (first
        | (go_at_call 43; with_reducible refine (HS3.out _ B.out).mono ?_; rintro e wx ⟨rfl,q⟩; replace K1:=Lib.hid (K1.out.below q); replace K48:=Lib.hid (K48.out.below q); replace B:=Lib.hid (B.out.trans (q.mono B.out.size)); clear q)
        | fail "arm")
       exact ⟨⟨4,by omega,rfl,K1.out,K48.out,B.out⟩,by decide⟩
      ·go_wp2
       go_ret
       exact ⟨rfl,B.out⟩

end Go.Proofs.YthhkmihjnnfpgaaGreatDoor
