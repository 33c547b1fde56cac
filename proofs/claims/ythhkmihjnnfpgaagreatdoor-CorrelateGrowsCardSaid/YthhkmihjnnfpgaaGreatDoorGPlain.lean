/- Plain mathematics: digits, pieces, decimal texts, division. No program in sight. -/
import Derived.WalkKit
import Derived.WalkSpells
import Derived.WalkLawsBesides
import Derived.Lib.Hide
import Derived.Laws.OwnMore
import Derived.Deep.AppendLies
import Derived.Deep.Draws
import Derived.Laws.MakeOwn
import Derived.Maps.AppendAt
import Derived.Lib.ItoaMem
import Derived.Lib.ParseIntBTie
import Derived.Lib.AtoiTie
import Derived.Lib.Strings
import Derived.Lib.Bytealg
/- Plain words for memory: a slice of numbers that reads as a list. No program in sight. -/
namespace Go.Proofs.YthhkmihjnnfpgaaGreatDoor
set_option linter.all false
open Go.RowKit

def Sl (w:World) (k:IntKind) (A:Option Addr) (c:Nat) (l:List Int):Prop :=
 l.length≤c∧c≤maxLen∧(0 < l.length→∃ b o,A=some ⟨b,o,none⟩∧b < w.heap.size∧∀ j,j < l.length→w.cell? ⟨b,o + j,none⟩=some (.int k (l[j]?.getD 0)))

def lenOf:Value→Nat | .slice _ n _=>n | _=>0

section
variable {w w':World} {k:IntKind} {A:Option Addr} {c:Nat} {l:List Int}

theorem Sl.cap (h:Sl w k A c l):l.length≤c:=h.1

theorem Sl.at_ (h:Sl w k A c l) (hl:0 < l.length):∃ b o,A=some ⟨b,o,none⟩∧b < w.heap.size∧∀ j,j < l.length→w.cell? ⟨b,o + j,none⟩=some (.int k (l[j]?.getD 0)):=h.2.2 hl

theorem Sl.nil_:Sl w k none 0 []:=⟨Nat.le_refl _,Nat.zero_le _,fun h=>absurd h (by simp)⟩

theorem Sl.below (h:Sl w k A c l) (hb:Below w.heap.size w w'):Sl w' k A c l :=
 ⟨h.1,h.2.1,fun hl=>by
  obtain ⟨b,o,e,hlt,hc⟩:=h.2.2 hl
  exact ⟨b,o,e,Nat.lt_of_lt_of_le hlt hb.size,fun j hj=>(hb.cell (p:=⟨b,o + j,none⟩) hlt).trans (hc j hj)⟩⟩

theorem Sl.take (h:Sl w k A c l) (n:Nat):Sl w k A c (l.take n):=by
 refine ⟨Nat.le_trans (by simp; omega) h.1,h.2.1,fun hl=>?_⟩
 have hl':0 < l.length:=by simp at hl; omega
 obtain ⟨b,o,e,hlt,hc⟩:=h.2.2 hl'
 refine ⟨b,o,e,hlt,fun j hj=>?_⟩
 have hj':j < n∧j < l.length:=by simp at hj; omega
 rw [hc j hj'.2,List.getElem?_take,if_pos hj'.1]

theorem Sl.drew (h:Sl w k A c l):Sl w.drew k A c l:=h
theorem Sl.drewN (h:Sl w k A c l) (n:Nat):Sl (w.drewN n) k A c l:=h
end

def Drew (w w':World):Prop:=∃ n,w'=w.drewN n
theorem Drew.refl (w:World):Drew w w:=⟨0,rfl⟩
theorem Drew.of (w:World) (n:Nat):Drew w (w.drewN n):=⟨n,rfl⟩
theorem Drew.more {w w':World} (h:Drew w w') (n:Nat):Drew w (w'.drewN n):=by
 obtain ⟨m,rfl⟩:=h
 exact ⟨m + n,by rw [World.drewN_drewN]⟩
theorem Drew.trans {w w' w'':World} (h:Drew w w') (k:Drew w' w''):Drew w w'':=by
 obtain ⟨m,rfl⟩:=k
 exact h.more m
theorem Drew.below {w w':World} (h:Drew w w') (B:Nat):Below B w w':=by
 obtain ⟨m,rfl⟩:=h
 exact ⟨rfl,rfl,rfl,Nat.le_refl _,fun _ _=>rfl⟩

def trimL:List Int→List Int
 | []=>[]
 | x :: l=>if trimL l=[]∧x=0 then [] else x :: trimL l

theorem trimL_take (l:List Int):trimL l=l.take (trimL l).length:=by
 induction l with
 | nil=>rfl
 | cons x l ih =>
  simp only [trimL]
  split
  ·simp
  ·simp only [List.length_cons,List.take_succ_cons]
   rw [← ih]

theorem trimL_len (l:List Int):(trimL l).length≤l.length:=by
 rw [trimL_take l]; simp; omega

theorem trimL_snoc_zero (l:List Int):trimL (l ++ [0])=trimL l:=by
 induction l with
 | nil=>simp [trimL]
 | cons x l ih=>simp only [List.cons_append,trimL,ih]

theorem trimL_snoc_ne (l:List Int) (x:Int) (hx:x ≠ 0):trimL (l ++ [x])=l ++ [x]:=by
 induction l with
 | nil=>simp [trimL,hx]
 | cons y l ih=>simp only [List.cons_append,trimL,ih]; simp

theorem trimL_of_last (l:List Int) (hl:0 < l.length) (hx:l[l.length - 1]?.getD 0 ≠ 0):trimL l=l:=by
 obtain ⟨m,x,rfl⟩:∃ m x,l=m ++ [x]:=⟨l.dropLast,l.getLast (by intro h; simp [h] at hl),(List.dropLast_concat_getLast _).symm⟩
 exact trimL_snoc_ne m x (by simpa using hx)

theorem trimL_of_zero (l:List Int) (n:Nat) (hn:n < l.length) (hx:l[n]?.getD 0=0):trimL (l.take (n + 1))=trimL (l.take n):=by
 have h:l.take (n + 1)=l.take n ++ [0]:=by
  rw [List.take_succ_eq_append_getElem hn]
  congr 2
  rw [List.getElem?_eq_getElem hn] at hx
  simpa using hx
 rw [h,trimL_snoc_zero]

theorem Sl.trim {w:World} {k:IntKind} {A:Option Addr} {c:Nat} {l:List Int} (h:Sl w k A c l):Sl w k A c (trimL l):=by
 rw [trimL_take l]; exact h.take _

structure IntElem (P:Program) (t e:TypeId) (k:IntKind) (bytes:Nat):Prop where
 ht:P.underlying t=some (.slice e)
 info:(P.info? e).map (fun i=>(i.zero,i.size,i.bytes))=some (some (.int k 0),1,bytes)
 small:bytes≤8

def Own (w:World) (base:Nat) (e:TypeId) (k:IntKind) (A:Option Addr) (n c:Nat) (l:List Int):Prop :=
 l.length=n∧w.ownsRow base e 1 (.slice A n c) n (l.map (Value.int k))

def zrow (k:IntKind) (n:Nat):Array Value:=madeCells (Value.int k 0).cells (n * 1)

section
variable {P:Program} {w w':World} {base:Nat} {t e:TypeId} {k:IntKind} {A:Option Addr} {n c bytes:Nat} {l:List Int}

theorem Own.len (h:Own w base e k A n c l):l.length=n:=h.1

theorem Own.form (h:Own w base e k A n c l):(A=none∧n=0∧c=0) ∨ ∃ g cur,A=some ⟨g,0,none⟩∧base≤g∧w.heap[g]?=some (.cells cur e (0,0))∧n≤c∧c≤maxLen∧cur.size=c * 1∧cur.toList.take (n * 1)=l.map (Value.int k):=by
 rcases h.2.2 with ⟨h1,h2⟩ | ⟨g,cap,cur,hv,hg,hh,hn,hc,hs,ht⟩
 ·injection h1 with h1 h3 h4
  exact .inl ⟨h1,h3,h4⟩
 ·injection hv with h1 _ h4
  subst h4
  exact .inr ⟨g,cur,h1,hg,hh,hn,hc,hs,ht⟩

theorem Own.sl (h:Own w base e k A n c l):Sl w k A c l:=by
 have hl:=h.len
 rcases h.form with ⟨rfl,rfl,rfl⟩ | ⟨g,cur,rfl,hg,hh,hn,hc,hs,ht⟩
 ·exact ⟨by omega,Nat.zero_le _,fun hp=>by omega⟩
 ·refine ⟨by omega,hc,fun hp=>⟨g,0,rfl,?_,fun j hj=>?_⟩⟩
  ·rcases Nat.lt_or_ge g w.heap.size with h1 | h1
   ·exact h1
   ·rw [Array.getElem?_eq_none h1] at hh; cases hh
  ·have h2:=h.2.cells (g:=g) rfl j (.int k (l[j]?.getD 0)) (by rw [List.getElem?_map,List.getElem?_eq_getElem hj]; rfl)
   have h3:(⟨g,0,none⟩:Addr).add j=⟨g,0 + j,none⟩:=by
    unfold Addr.add
    split <;> simp_all
   rw [h3] at h2
   exact h2

theorem Own.alloc (h:Own w base e k A n c l) (o:Obj):Own (w.alloc o) base e k A n c l:=⟨h.1,h.2.alloc o⟩

theorem Own.grown {row:Option Nat} (h:Own w base e k A n c l) (hg:w.grownBy w' row) (hne:row=none ∨ ∀ g,row=some g→g < base):Own w' base e k A n c l:=by
 refine ⟨h.1,h.2.kept hg ?_⟩
 rcases h.form with ⟨rfl,rfl,rfl⟩ | ⟨g,cur,rfl,hb,_⟩
 ·exact .inl rfl
 ·refine .inr (fun he=>?_)
  rcases hne with h1 | h1
  ·rw [h1] at he; cases he
  ·have:=h1 g he.symm
   omega

theorem Own.below {B:Nat} (h:Own w base e k A n c l) (hb:Below B w w') (hB:w.heap.size≤B):Own w' base e k A n c l:=by
 refine ⟨h.1,?_⟩
 obtain ⟨h1,h2⟩:=h.2
 refine ⟨h1,?_⟩
 rcases h2 with h2 | ⟨g,cap,cur,hv,hg,hh,r⟩
 ·exact .inl h2
 ·refine .inr ⟨g,cap,cur,hv,hg,?_,r⟩
  have hlt:g < w.heap.size:=by
   rcases Nat.lt_or_ge g w.heap.size with h1 | h1
   ·exact h1
   ·rw [Array.getElem?_eq_none h1] at hh; cases hh
  rw [hb.block g (by omega)]
  exact hh

theorem Own.drew (h:Own w base e k A n c l):Own w.drew base e k A n c l:=h
theorem Own.drewN (h:Own w base e k A n c l) (m:Nat):Own (w.drewN m) base e k A n c l:=h

theorem Own.made (w:World) (hb:base≤w.heap.size) (hm:c≤maxLen):Own (w.alloc (.cells (zrow k c) e)) base e k (some ⟨w.heap.size,0,none⟩) 0 c [] :=
 ⟨rfl,World.ownsRow_made w _ c hb hm (size_madeCells _ _)⟩

theorem Own.nil_ (w:World) (base:Nat) (e:TypeId) (k:IntKind):Own w base e k none 0 0 []:=⟨rfl,World.ownsRow_nil w base e 1⟩

theorem run_mk0 (E:IntElem P t e k bytes) (c:Nat) (hc:c≤1000000) (ci:Int) (hci:ci=c):∀ W:World,(Instr.makeSlice t (.int .i64 0) (.int .i64 ci)).run P W=.ok (.slice (some ⟨W.heap.size,0,none⟩) 0 c) (W.alloc (.cells (zrow k c) e)):=by
 intro W
 obtain ⟨i,hi,hz,hsz,hby⟩:=info_parts E.info
 have hs:=E.small
 subst hci
 have h1:i.bytes * c≤8 * c:=Nat.mul_le_mul_right c (by omega)
 have h2:(i.bytes:Int) * (c:Int)≤281474976710656:=by
  have h:((i.bytes * c:Nat):Int)≤281474976710656:=by omega
  rwa [Int.natCast_mul] at h
 have hr:=run_make (P:=P) W t e i (.int k 0) E.ht hi hz .i64 .i64 0 c (Int.le_refl _) (by omega) h2 (by omega)
 simp only [Int.toNat_zero,Int.toNat_natCast,hsz] at hr
 exact hr

theorem run_mkn (E:IntElem P t e k bytes) (c:Nat) (hc:c≤1000000) (ci:Int) (hci:ci=c):∀ W:World,(Instr.makeSlice t (.int .i64 ci) (.int .i64 ci)).run P W=.ok (.slice (some ⟨W.heap.size,0,none⟩) c c) (W.alloc (.cells (zrow k c) e)):=by
 intro W
 obtain ⟨i,hi,hz,hsz,hby⟩:=info_parts E.info
 have hs:=E.small
 subst hci
 have h1:i.bytes * c≤8 * c:=Nat.mul_le_mul_right c (by omega)
 have h2:(i.bytes:Int) * (c:Int)≤281474976710656:=by
  have h:((i.bytes * c:Nat):Int)≤281474976710656:=by omega
  rwa [Int.natCast_mul] at h
 have hr:=run_make (P:=P) W t e i (.int k 0) E.ht hi hz .i64 .i64 c c (by omega) (by omega) h2 (by omega)
 simp only [Int.toNat_natCast,hsz] at hr
 exact hr

theorem zrow_eq (k:IntKind) (n:Nat):zrow k n=Array.replicate n (Value.int k 0):=by
 apply Array.ext
 ·simp [zrow,size_madeCells]
 ·intro i h1 h2
  simp [zrow,madeCells,Value.cells,Nat.mod_one]

theorem wpList_push {ops:Array Oper} {rest:List Oper} {o:Oper} {a:Act} {Q:Exit→Act→World→Prop} (E:IntElem P t e k bytes) (hgd:o.guard=none) (s x:Operand)
  (ho:o.op=.call { callee:=.builtin .append,args:=#[s,x],argTypes:=#[t,t] })
  (base:Nat) (A:Option Addr) (n c:Nat) (l:List Int) (W:World) (hs:a.eval s=.slice A n c) (hown:Own W base e k A n c l) (y:Int)
  (hx:a.eval x=.slice (some ⟨W.heap.size,0,none⟩) 1 1) (h63:n≤1000000) (hbase:base≤W.heap.size)
  (h:∀ A' c' w',Own w' base e k A' (n + 1) c' (l ++ [y])→W.grownBy w' (Value.slice A n c).ownBlock→wpList P ops Q rest (a.put o.dst (.slice A' (n + 1) c')) w') :
  wpList P ops Q (o :: rest) a (W.alloc (.cells #[.int k y] e)):=by
 obtain ⟨i,hi,hz,hsz,hby⟩:=info_parts E.info
 have hsm:=E.small
 have h8:(n + 1) * bytes≤(n + 1) * 8:=Nat.mul_le_mul_left _ hsm
 refine wpList_append_own _ hgd s x t ho base e i (.int k 0) 1 bytes E.ht hi hz hsz hby rfl (by decide) (.slice A n c) n _ hs (hown.2.alloc _) ⟨W.heap.size,0,none⟩ 1 1 [.int k y] hx rfl (cell_one_new _ _ _) (by simp [Value.oneCell'])
  (by simp only [maxLen]; omega) (by omega) (by simp; omega) ?_
 intro v' w' h1 h2 _
 have h3:w'.ownsRow base e 1 v' (n + 1) ((l ++ [y]).map (Value.int k)):=by simpa using h1
 have h4:∃ A' c',v'=.slice A' (n + 1) c':=by
  rcases h3.2 with ⟨_,hn⟩ | ⟨g,cap,cur,hv,_⟩
  ·simp at hn
  ·exact ⟨_,_,hv⟩
 obtain ⟨A',c',rfl⟩:=h4
 refine h A' c' w' ⟨by simp [hown.1],h3⟩ ?_
 refine ⟨h2.os,h2.tape,h2.output,Nat.le_trans (by simp) h2.size,fun g hg hne=>?_⟩
 exact (h2.block g (by simp; omega) hne).trans (Below.heap_alloc W _ g hg)

theorem Own.grownBelow {B:Nat} {a:World} (h:Own w base e k A n c l) (hg:w.grownBy w' (Value.slice A n c).ownBlock) (hb:Below B a w) (hB:B≤base) (hB2:B≤w.heap.size):Below B a w' :=
 hb.grown hg hB2 (fun g hgg=>by
  rcases h.form with ⟨rfl,rfl,rfl⟩ | ⟨g',cur,rfl,hbg,_⟩
  ·cases hgg
  ·have:g'=g:=by simpa [Value.ownBlock] using hgg
   omega)
end

def Tab (w:World) (g:Nat) (e:TypeId) (k:IntKind) (l:List Int):Prop:=w.heap[g]?=some (.cells (l.map (Value.int k)).toArray e (0,0))

section
variable {w w':World} {g:Nat} {e:TypeId} {k:IntKind} {l:List Int}

theorem Tab.lt (h:Tab w g e k l):g < w.heap.size:=by
 rcases Nat.lt_or_ge g w.heap.size with h1 | h1
 ·exact h1
 ·unfold Tab at h; rw [Array.getElem?_eq_none h1] at h; cases h

theorem Tab.cell (h:Tab w g e k l) (i:Nat) (hi:i < l.length):w.cell? ⟨g,i,none⟩=some (.int k (l[i]?.getD 0)):=by
 rw [cell_of_row w g i _ e (0,0) h]
 simp [List.getElem?_eq_getElem hi]

theorem Tab.frozen (h:Tab w g e k l) (i:Nat):w.frozen? ⟨g,i,none⟩=false:=by
 unfold Tab at h
 simp [World.frozen?,h]

theorem Tab.set (h:Tab w g e k l) (i:Nat) (v:Int):Tab (w.setCell ⟨g,i,none⟩ (.int k v)) g e k (l.set i v):=by
 unfold Tab at h ⊢
 simp [World.setCell,Array.getElem?_modify,h,List.map_set]

theorem Tab.alloc (h:Tab w g e k l) (o:Obj):Tab (w.alloc o) g e k l:=(Below.heap_alloc w o g h.lt).trans h
theorem Tab.drewN (h:Tab w g e k l) (n:Nat):Tab (w.drewN n) g e k l:=h
theorem Tab.far (h:Tab w g e k l) {p:Addr} (hp:g ≠ p.block) (u:Value):Tab (w.setCell p u) g e k l:=(Below.heap_setCell w p u g hp).trans h
theorem Tab.below {B:Nat} (h:Tab w g e k l) (hb:Below B w w') (hg:g < B):Tab w' g e k l:=(hb.block g hg).trans h

theorem Tab.made (w:World) (e:TypeId) (k:IntKind) (n:Nat):Tab (w.alloc (.cells (zrow k n) e)) w.heap.size e k (List.replicate n 0):=by
 unfold Tab
 rw [heap_alloc_new,zrow_eq]
 simp

theorem Tab.sl (h:Tab w g e k l) (hm:l.length≤1000000):Sl w k (some ⟨g,0,none⟩) l.length l :=
 ⟨Nat.le_refl _,by simp only [maxLen]; omega,fun _=>⟨g,0,rfl,h.lt,fun j hj=>by rw [Nat.zero_add]; exact h.cell j hj⟩⟩

theorem Tab.slN {n:Nat} (h:Tab w g e k l) (hn:l.length=n) (hm:n≤1000000):Sl w k (some ⟨g,0,none⟩) n l:=by
 subst hn; exact h.sl hm
end

end Go.Proofs.YthhkmihjnnfpgaaGreatDoor

/- Plain mathematics of numbers in pieces: lists of digits in a base, the least first. No program in sight. -/
namespace Go.Proofs.YthhkmihjnnfpgaaGreatDoor
def valB (B:Int):List Int→Int
 | []=>0
 | x :: l=>x + B * valB B l

theorem valB_append (B:Int) (l m:List Int):valB B (l ++ m)=valB B l + B ^ l.length * valB B m:=by
 induction l with
 | nil=>simp [valB]
 | cons x l ih =>
  simp only [List.cons_append,valB,ih,List.length_cons]
  grind

theorem valB_snoc (B:Int) (l:List Int) (x:Int):valB B (l ++ [x])=valB B l + B ^ l.length * x:=by
 rw [valB_append]; simp [valB]

def Digs (B:Int) (l:List Int):Prop:=∀ x ∈ l,0≤x∧x < B

theorem Digs.nil {B:Int}:Digs B []:=fun _ h=>by simp at h
theorem Digs.cons {B x:Int} {l:List Int} (h0:0≤x) (h1:x < B) (h:Digs B l):Digs B (x :: l):=by
 intro y hy
 rcases List.mem_cons.1 hy with rfl | hy
 ·exact ⟨h0,h1⟩
 ·exact h y hy
theorem Digs.append {B:Int} {l m:List Int} (h:Digs B l) (k:Digs B m):Digs B (l ++ m):=by
 intro y hy
 rcases List.mem_append.1 hy with hy | hy
 ·exact h y hy
 ·exact k y hy
theorem Digs.snoc {B x:Int} {l:List Int} (h:Digs B l) (h0:0≤x) (h1:x < B):Digs B (l ++ [x]):=h.append (Digs.nil.cons h0 h1)
theorem Digs.take {B:Int} {l:List Int} (h:Digs B l) (n:Nat):Digs B (l.take n):=fun x hx=>h x (List.mem_of_mem_take hx)
theorem Digs.drop {B:Int} {l:List Int} (h:Digs B l) (n:Nat):Digs B (l.drop n):=fun x hx=>h x (List.mem_of_mem_drop hx)
theorem Digs.at_ {B:Int} {l:List Int} (h:Digs B l) (hB:0 < B) (n:Nat):0≤l[n]?.getD 0∧l[n]?.getD 0 < B:=by
 cases e:l[n]? with
 | none=>simp [hB]
 | some x=>simpa using h x (List.mem_of_getElem? e)
theorem Digs.set {B x:Int} {l:List Int} (h:Digs B l) (n:Nat) (h0:0≤x) (h1:x < B):Digs B (l.set n x):=by
 intro y hy
 rcases List.mem_or_eq_of_mem_set hy with hy | rfl
 ·exact h y hy
 ·exact ⟨h0,h1⟩
theorem Digs.zeros {B:Int} (hB:0 < B) (n:Nat):Digs B (List.replicate n 0):=by
 intro y hy
 rw [List.eq_of_mem_replicate hy]
 exact ⟨Int.le_refl _,hB⟩

theorem pow_pos_int (B:Int) (hB:0 < B) (n:Nat):0 < B ^ n:=Int.pow_pos hB

theorem Digs.val_nonneg {B:Int} (hB:0 < B) {l:List Int} (h:Digs B l):0≤valB B l:=by
 induction l with
 | nil=>simp [valB]
 | cons x l ih =>
  have h1:=ih (fun y hy=>h y (List.mem_cons_of_mem _ hy))
  have h2:=(h x (List.mem_cons_self ..)).1
  have h3:=Int.mul_nonneg (Int.le_of_lt hB) h1
  simp only [valB]; omega

theorem Digs.val_lt {B:Int} (hB:0 < B) {l:List Int} (h:Digs B l):valB B l < B ^ l.length:=by
 induction l with
 | nil=>simp [valB]
 | cons x l ih =>
  have h1:=ih (fun y hy=>h y (List.mem_cons_of_mem _ hy))
  have h2:=h x (List.mem_cons_self ..)
  have h3:B * (valB B l + 1)≤B * B ^ l.length:=Int.mul_le_mul_of_nonneg_left (by omega) (Int.le_of_lt hB)
  simp only [valB,List.length_cons]
  have h4:B ^ (l.length + 1)=B * B ^ l.length:=by grind
  have h5:B * (valB B l + 1)=B * valB B l + B:=by grind
  omega

theorem valB_zeros (B:Int) (n:Nat):valB B (List.replicate n 0)=0:=by
 induction n with
 | zero=>rfl
 | succ n ih=>simp [List.replicate_succ,valB,ih]

def limF (B:Nat):Nat→Nat→List Int
 | 0,_=>[]
 | f + 1,n=>if n=0 then [] else ((n % B:Nat):Int) :: limF B f (n / B)

def lim (B:Nat) (n:Nat):List Int:=limF B n n

theorem limF_more (B:Nat) (hB:2≤B):∀ (f g n:Nat),n≤f→n≤g→limF B f n=limF B g n:=by
 intro f
 induction f with
 | zero => intro g n h _; obtain rfl : n = 0 := by omega
           cases g <;> simp [limF]
 | succ f ih =>
  intro g n h k
  cases g with
  | zero => obtain rfl : n = 0 := by omega
            simp [limF]
  | succ g =>
   simp only [limF]
   split
   ·rfl
   ·have hd:n / B < n:=Nat.div_lt_self (by omega) (by omega)
    rw [ih g (n / B) (by omega) (by omega)]

theorem lim_zero (B:Nat):lim B 0=[]:=rfl
theorem lim_pos (B:Nat) (hB:2≤B) (n:Nat) (hn:0 < n):lim B n=((n % B:Nat):Int) :: lim B (n / B):=by
 obtain ⟨m,rfl⟩:∃ m,n=m + 1:=⟨n - 1,by omega⟩
 have hd:(m + 1) / B < m + 1:=Nat.div_lt_self (by omega) (by omega)
 unfold lim
 rw [limF,if_neg (by omega),limF_more B hB m ((m + 1) / B) ((m + 1) / B) (by omega) (Nat.le_refl _)]

theorem lim_facts (B:Nat) (hB:2≤B):∀ n,valB B (lim B n)=n∧Digs B (lim B n)∧trimL (lim B n)=lim B n:=by
 intro n
 induction n using Nat.strongRecOn with
 | _ n ih =>
  rcases Nat.eq_zero_or_pos n with rfl | hn
  ·exact ⟨rfl,Digs.nil,rfl⟩
  ·have hd:n / B < n:=Nat.div_lt_self hn (by omega)
   obtain ⟨h1,h2,h3⟩:=ih _ hd
   rw [lim_pos B hB n hn]
   have hm:=Nat.mod_lt n (show B > 0 by omega)
   refine ⟨?_,h2.cons (by omega) (by omega),?_⟩
   ·simp only [valB,h1]
    have:=Nat.mod_add_div n B
    have h4:((n % B + B * (n / B):Nat):Int)=(n:Int):=by rw [this]
    simpa using h4
   ·simp only [trimL,h3]
    rw [if_neg]
    rintro ⟨e,h0⟩
    rcases Nat.eq_zero_or_pos (n / B) with hz | hz
    ·have:=Nat.mod_add_div n B
     rw [hz] at this
     omega
    ·rw [lim_pos B hB _ hz] at e
     simp at e

theorem lim_val (B:Nat) (hB:2≤B) (n:Nat):valB B (lim B n)=n:=(lim_facts B hB n).1
theorem lim_digs (B:Nat) (hB:2≤B) (n:Nat):Digs B (lim B n):=(lim_facts B hB n).2.1
theorem lim_trim (B:Nat) (hB:2≤B) (n:Nat):trimL (lim B n)=lim B n:=(lim_facts B hB n).2.2

theorem trim_eq_lim (B:Nat) (hB:2≤B):∀ (l:List Int) (n:Nat),Digs B l→valB B l=n→trimL l=lim B n:=by
 intro l
 induction l with
 | nil =>
  intro n _ h
  have:n=0:=by simp [valB] at h; omega
  subst this
  rfl
 | cons x l ih =>
  intro n hd h
  have hdl:Digs B l:=fun y hy=>hd y (List.mem_cons_of_mem _ hy)
  have hx:=hd x (List.mem_cons_self ..)
  have hnn:=hdl.val_nonneg (B:=(B:Int)) (by omega)
  obtain ⟨m,hm⟩:=Int.eq_ofNat_of_zero_le hnn
  obtain ⟨y,rfl⟩:=Int.eq_ofNat_of_zero_le hx.1
  have hl:=ih m hdl hm
  simp only [valB,hm] at h
  have hn:n=y + B * m:=by
   have:((y + B * m:Nat):Int)=(n:Int):=by simpa using h
   omega
  have hy:y < B:=by omega
  simp only [trimL,hl]
  rcases Nat.eq_zero_or_pos n with h0 | hp
  ·have hm0:m=0:=by
    rcases Nat.eq_zero_or_pos m with h | h
    ·exact h
    ·have:=Nat.mul_pos (show 0 < B by omega) h
     omega
   subst hm0
   have hy0:y=0:=by omega
   subst hy0
   subst h0
   simp [lim_zero]
  ·rw [lim_pos B hB n hp,hn,Nat.add_mul_mod_self_left,Nat.mod_eq_of_lt hy,Nat.add_mul_div_left _ _ (by omega),Nat.div_eq_of_lt hy,Nat.zero_add]
   rw [if_neg]
   rintro ⟨e,h0⟩
   have hm0:m=0:=by
    rcases Nat.eq_zero_or_pos m with h | h
    ·exact h
    ·rw [lim_pos B hB m h] at e
     simp at e
   subst hm0
   omega

theorem lim_eq_nil (B:Nat) (hB:2≤B) (n:Nat):lim B n=[] ↔ n=0:=by
 constructor
 ·intro h
  rcases Nat.eq_zero_or_pos n with h0 | h0
  ·exact h0
  ·rw [lim_pos B hB n h0] at h; simp at h
 ·rintro rfl; rfl

theorem lim_len_zero (B:Nat) (hB:2≤B) (n:Nat):(lim B n).length=0 ↔ n=0:=by
 rw [List.length_eq_zero_iff,lim_eq_nil B hB]

theorem lim_len_le (B:Nat) (hB:2≤B):∀ (k n:Nat),n < B ^ k→(lim B n).length≤k:=by
 intro k
 induction k with
 | zero => intro n h; obtain rfl : n = 0 := by simpa using h
           simp [lim_zero]
 | succ k ih =>
  intro n h
  rcases Nat.eq_zero_or_pos n with rfl | h0
  ·simp [lim_zero]
  ·rw [lim_pos B hB n h0]
   have:n / B < B ^ k:=Nat.div_lt_of_lt_mul (by rw [Nat.mul_comm,← Nat.pow_succ]; exact h)
   simpa using ih _ this

theorem lim_lt_pow (B:Nat) (hB:2≤B) (n:Nat):n < B ^ (lim B n).length:=by
 have h:=(lim_digs B hB n).val_lt (by omega)
 rw [lim_val B hB] at h
 have h2:((B ^ (lim B n).length:Nat):Int)=(B:Int) ^ (lim B n).length:=by simp
 rw [← h2] at h
 omega

theorem lim_last (B:Nat) (hB:2≤B) (n:Nat) (h:0 < n):0 < (lim B n)[(lim B n).length - 1]?.getD 0:=by
 have hl:0 < (lim B n).length:=by
  rcases Nat.eq_zero_or_pos (lim B n).length with h0 | h0
  ·rw [lim_len_zero B hB] at h0; omega
  ·exact h0
 have hd:=(lim_digs B hB n).at_ (by omega) ((lim B n).length - 1)
 rcases Int.lt_or_lt_of_ne (a:=(lim B n)[(lim B n).length - 1]?.getD 0) (b:=0) (by
  intro h0
  have ht:=trimL_of_zero (lim B n) ((lim B n).length - 1) (by omega) h0
  rw [show (lim B n).length - 1 + 1=(lim B n).length from by omega,List.take_length,lim_trim B hB] at ht
  have h1:=congrArg List.length ht
  have h2:=trimL_len ((lim B n).take ((lim B n).length - 1))
  rw [← h1] at h2
  simp at h2
  omega) with h1 | h1
 ·omega
 ·exact h1

theorem lim_len_mono (B:Nat) (hB:2≤B) (m n:Nat) (h:m≤n):(lim B m).length≤(lim B n).length :=
 lim_len_le B hB _ _ (Nat.lt_of_le_of_lt h (lim_lt_pow B hB n))

theorem lim_len_lt (B:Nat) (hB:2≤B) (m n:Nat) (h:(lim B m).length < (lim B n).length):m < n:=by
 rcases Nat.lt_or_ge m n with h1 | h1
 ·exact h1
 ·have:=lim_len_mono B hB n m h1
  omega

theorem lim_inj (B:Nat) (hB:2≤B) (m n:Nat) (h:lim B m=lim B n):m=n:=by
 have h1:=lim_val B hB m
 rw [h,lim_val B hB] at h1
 omega

theorem split_at (l:List Int) (i:Nat) (hi:i < l.length):l=l.take i ++ l[i]?.getD 0 :: l.drop (i + 1):=by
 rw [List.getElem?_eq_getElem hi,Option.getD_some,← List.drop_eq_getElem_cons hi,List.take_append_drop]

theorem take_succ_getD (l:List Int) (i:Nat) (hi:i < l.length):l.take (i + 1)=l.take i ++ [l[i]?.getD 0]:=by
 rw [List.getElem?_eq_getElem hi,Option.getD_some,List.take_succ_eq_append_getElem hi]

theorem drop_getD (l:List Int) (i:Nat) (hi:i < l.length):l.drop i=l[i]?.getD 0 :: l.drop (i + 1):=by
 rw [List.getElem?_eq_getElem hi,Option.getD_some,← List.drop_eq_getElem_cons hi]

theorem valB_split (B:Int) (l:List Int) (i:Nat):valB B l=valB B (l.take i) + B ^ (l.take i).length * valB B (l.drop i):=by
 conv=>lhs; rw [← List.take_append_drop i l]
 exact valB_append ..

theorem val_lt_of_top (B:Int) (hB:0 < B) (x y:List Int) (hx:Digs B x) (hy:Digs B y) (hl:x.length=y.length) (i:Nat) (hi:i < x.length)
  (hs:x.drop (i + 1)=y.drop (i + 1)) (hlt:x[i]?.getD 0 < y[i]?.getD 0):valB B x < valB B y:=by
 rw [split_at x i hi,split_at y i (by omega),valB_append,valB_append]
 have h1:=(hx.take i).val_lt hB
 have h2:=(hy.take i).val_nonneg hB
 have e:(x.take i).length=(y.take i).length:=by simp [hl]
 rw [← e]
 simp only [valB,hs]
 have hp:=pow_pos_int B hB (x.take i).length
 generalize B ^ (x.take i).length=p at *
 generalize valB B (y.drop (i + 1))=t at *
 have h3:p * (x[i]?.getD 0 + 1)≤p * y[i]?.getD 0:=Int.mul_le_mul_of_nonneg_left (by omega) (by omega)
 have h4:p * (x[i]?.getD 0 + B * t)=p * x[i]?.getD 0 + p * (B * t):=Int.mul_add ..
 have h5:p * (y[i]?.getD 0 + B * t)=p * y[i]?.getD 0 + p * (B * t):=Int.mul_add ..
 have h6:p * (x[i]?.getD 0 + 1)=p * x[i]?.getD 0 + p:=by rw [Int.mul_add,Int.mul_one]
 omega

end Go.Proofs.YthhkmihjnnfpgaaGreatDoor

/- Plain mathematics of the reference of layer 1: pieces of four digits, pieces beyond their range. No program in sight. -/
namespace Go.Proofs.YthhkmihjnnfpgaaGreatDoor
def Mod (M:Int) (l:List Int):Prop:=∀ x ∈ l,-M≤x∧x≤M

theorem Mod.at_ {M:Int} {l:List Int} (h:Mod M l) (hM:0≤M) (n:Nat):-M≤l[n]?.getD 0∧l[n]?.getD 0≤M:=by
 cases e:l[n]? with
 | none=>simp; omega
 | some x=>simpa using h x (List.mem_of_getElem? e)
theorem Mod.nil {M:Int}:Mod M []:=fun _ h=>by simp at h
theorem Mod.mono {M N:Int} {l:List Int} (h:Mod M l) (hMN:M≤N):Mod N l:=fun x hx=>by have:=h x hx; omega
theorem Mod.set {M x:Int} {l:List Int} (h:Mod M l) (n:Nat) (h0:-M≤x) (h1:x≤M):Mod M (l.set n x):=by
 intro y hy
 rcases List.mem_or_eq_of_mem_set hy with hy | rfl
 ·exact h y hy
 ·exact ⟨h0,h1⟩
theorem Mod.append {M:Int} {l m:List Int} (h:Mod M l) (k:Mod M m):Mod M (l ++ m):=by
 intro y hy
 rcases List.mem_append.1 hy with hy | hy
 ·exact h y hy
 ·exact k y hy

end Go.Proofs.YthhkmihjnnfpgaaGreatDoor

/- Plain mathematics of division: quotient and remainder out of those of the magnitudes. No program in sight. -/
namespace Go.Proofs.YthhkmihjnnfpgaaGreatDoor
theorem div_easy (a b:Int) (hb:b ≠ 0) (hm:0≤a ∨ a.natAbs % b.natAbs=0) :
  (if (decide (a < 0) != decide (b < 0))=true then -((a.natAbs / b.natAbs:Nat):Int) else ((a.natAbs / b.natAbs:Nat):Int))=a / b∧((a.natAbs % b.natAbs:Nat):Int)=a % b:=by
 have hx:=Nat.div_add_mod a.natAbs b.natAbs
 have hy:0 < b.natAbs:=by omega
 have hl:=Nat.mod_lt a.natAbs hy
 obtain ⟨y,hyb⟩:∃ y,b.natAbs=y:=⟨_,rfl⟩
 obtain ⟨x,hxa⟩:∃ x,a.natAbs=x:=⟨_,rfl⟩
 rw [hyb,hxa] at hx hl hm
 rw [hyb] at hy
 rw [hyb,hxa]
 have key:a / (y:Int)=(if a < 0 then -((x / y:Nat):Int) else ((x / y:Nat):Int))∧a % (y:Int)=((x % y:Nat):Int):=by
  refine (Int.ediv_emod_unique (by omega)).2 ⟨?_,by omega,by omega⟩
  generalize x / y=q at *
  generalize x % y=r at *
  have e:(y:Int) * (q:Int) + (r:Int)=(x:Int):=by rw [← hx]; simp
  by_cases ha:a < 0
  ·rw [if_pos ha,Int.mul_neg]
   generalize (y:Int) * (q:Int)=p at *
   omega
  ·rw [if_neg ha]
   generalize (y:Int) * (q:Int)=p at *
   omega
 by_cases hb0:b < 0
 ·have hbe:b = -(y:Int):=by omega
  rw [hbe,Int.ediv_neg,Int.emod_neg,key.1,key.2]
  have hny:decide (-(y:Int) < 0)=true:=by simp; omega
  rw [hny]
  by_cases ha:a < 0 <;> simp [ha]
 ·have hbe:b=(y:Int):=by omega
  rw [hbe,key.1,key.2]
  have hny:decide ((y:Int) < 0)=false:=by simp
  rw [hny]
  by_cases ha:a < 0 <;> simp [ha]

end Go.Proofs.YthhkmihjnnfpgaaGreatDoor

/- Plain mathematics of decimal digits: what a row of digits is worth; the numeral of a number. No program in sight. -/
namespace Go.Proofs.YthhkmihjnnfpgaaGreatDoor
def dval (l:List UInt8):Nat:=l.foldl (fun a c=>a * 10 + (c.toNat - 48)) 0

theorem dval_from (l:List UInt8):∀ a:Nat,l.foldl (fun a c=>a * 10 + (c.toNat - 48)) a=a * 10 ^ l.length + dval l:=by
 induction l with
 | nil=>intro a; simp [dval]
 | cons c l ih =>
  intro a
  simp only [List.foldl_cons,List.length_cons,dval]
  rw [ih,ih (0 * 10 + (c.toNat - 48)),Nat.pow_succ]
  simp only [Nat.zero_mul,Nat.zero_add,Nat.add_mul]
  rw [Nat.mul_assoc,Nat.mul_comm 10,Nat.add_assoc]

theorem dval_append (l m:List UInt8):dval (l ++ m)=dval l * 10 ^ m.length + dval m:=by
 unfold dval
 rw [List.foldl_append,dval_from m]
 rfl
theorem dval_snoc (l:List UInt8) (c:UInt8):dval (l ++ [c])=dval l * 10 + (c.toNat - 48):=by
 rw [dval_append]; simp [dval]
theorem dval_cons (c:UInt8) (l:List UInt8):dval (c :: l)=(c.toNat - 48) * 10 ^ l.length + dval l:=by
 have:=dval_append [c] l
 simpa [dval] using this

def AllDig (l:List UInt8):Prop:=∀ c ∈ l,48≤c.toNat∧c.toNat≤57

theorem AllDig.nil:AllDig []:=fun _ h=>by simp at h
theorem AllDig.append {l m:List UInt8} (h:AllDig l) (k:AllDig m):AllDig (l ++ m):=by
 intro c hc
 rcases List.mem_append.1 hc with hc | hc
 ·exact h c hc
 ·exact k c hc
theorem AllDig.take {l:List UInt8} (h:AllDig l) (n:Nat):AllDig (l.take n):=fun c hc=>h c (List.mem_of_mem_take hc)
theorem AllDig.drop {l:List UInt8} (h:AllDig l) (n:Nat):AllDig (l.drop n):=fun c hc=>h c (List.mem_of_mem_drop hc)
theorem AllDig.tail {c:UInt8} {l:List UInt8} (h:AllDig (c :: l)):AllDig l:=fun d hd=>h d (List.mem_cons_of_mem _ hd)
theorem AllDig.head {c:UInt8} {l:List UInt8} (h:AllDig (c :: l)):48≤c.toNat∧c.toNat≤57:=h c (List.mem_cons_self ..)
theorem AllDig.one {c:UInt8} (h:48≤c.toNat∧c.toNat≤57):AllDig [c]:=fun d hd=>by
 rw [List.mem_singleton.1 hd]; exact h

theorem dval_lt {l:List UInt8} (h:AllDig l):dval l < 10 ^ l.length:=by
 induction l with
 | nil=>simp [dval]
 | cons c l ih =>
  have h1:=ih h.tail
  have h2:=h.head
  rw [dval_cons,List.length_cons,Nat.pow_succ]
  have h3:(c.toNat - 48) * 10 ^ l.length≤9 * 10 ^ l.length:=Nat.mul_le_mul_right _ (by omega)
  omega

theorem digit_toNat (d:Nat) (h:d < 10):(UInt8.ofNat (48 + d)).toNat=48 + d:=by
 rw [UInt8.toNat_ofNat']; omega

theorem decDigits_lt (u:Nat) (h:u < 10):Lib.decDigits u=[UInt8.ofNat (48 + u)]:=by rw [Lib.decDigits,dif_pos h]
theorem decDigits_ge (u:Nat) (h:¬ u < 10):Lib.decDigits u=Lib.decDigits (u / 10) ++ [UInt8.ofNat (48 + u % 10)]:=by rw [Lib.decDigits,dif_neg h]

theorem decDigits_facts:∀ u:Nat,AllDig (Lib.decDigits u)∧dval (Lib.decDigits u)=u∧∃ c l,Lib.decDigits u=c :: l∧(0 < u→c.toNat ≠ 48)∧(u=0→l=[]):=by
 intro u
 induction u using Nat.strongRecOn with
 | _ u ih =>
  by_cases h:u < 10
  ·rw [decDigits_lt u h]
   have e:=digit_toNat u h
   refine ⟨AllDig.one (by omega),by simp [dval]; omega,_,[],rfl,fun h0=>by omega,fun _=>rfl⟩
  ·rw [decDigits_ge u h]
   obtain ⟨h1,h2,c,l,h3,h4,h5⟩:=ih (u / 10) (by omega)
   have e:=digit_toNat (u % 10) (by omega)
   refine ⟨h1.append (AllDig.one (by omega)),?_,c,l ++ [UInt8.ofNat (48 + u % 10)],by rw [h3]; rfl,fun _=>h4 (by omega),fun h0=>by omega⟩
   rw [dval_snoc,h2,e]
   omega

theorem decDigits_all (u:Nat):AllDig (Lib.decDigits u):=(decDigits_facts u).1
theorem decDigits_val (u:Nat):dval (Lib.decDigits u)=u:=(decDigits_facts u).2.1
theorem decDigits_ne (u:Nat):Lib.decDigits u ≠ []:=by
 obtain ⟨_,_,c,l,h,_⟩:=decDigits_facts u
 rw [h]; simp
theorem decDigits_len_pos (u:Nat):0 < (Lib.decDigits u).length:=List.length_pos_iff.2 (decDigits_ne u)

theorem eq_decDigits:∀ (n:Nat) (c:UInt8) (l:List UInt8),l.length=n→AllDig (c :: l)→c.toNat ≠ 48→0 < dval (c :: l)∧c :: l=Lib.decDigits (dval (c :: l)):=by
 intro n
 induction n with
 | zero =>
  intro c l hl hd hc
  obtain rfl:=List.eq_nil_of_length_eq_zero hl
  have h:=hd.head
  have e:dval [c]=c.toNat - 48:=by simp [dval]
  refine ⟨by omega,?_⟩
  rw [e,decDigits_lt _ (by omega)]
  congr 1
  apply UInt8.toNat_inj.1
  rw [digit_toNat _ (by omega)]
  omega
 | succ n ih =>
  intro c l hl hd hc
  obtain ⟨m,d,rfl⟩:∃ m d,l=m ++ [d]:=⟨l.dropLast,l.getLast (by intro h; simp [h] at hl),(List.dropLast_concat_getLast _).symm⟩
  have hm:AllDig (c :: m):=fun x hx=>hd x (by
   rcases List.mem_cons.1 hx with rfl | hx
   ·simp
   ·simp [hx])
  have hdd:=hd d (by simp)
  obtain ⟨h1,h2⟩:=ih c m (by simpa using hl) hm hc
  have e:dval (c :: (m ++ [d]))=dval (c :: m) * 10 + (d.toNat - 48):=dval_snoc (c :: m) d
  refine ⟨by omega,?_⟩
  rw [e,decDigits_ge _ (by omega)]
  have e1:(dval (c :: m) * 10 + (d.toNat - 48)) / 10=dval (c :: m):=by omega
  have e2:(dval (c :: m) * 10 + (d.toNat - 48)) % 10=d.toNat - 48:=by omega
  rw [e1,e2,← h2]
  have e3:UInt8.ofNat (48 + (d.toNat - 48))=d:=by
   apply UInt8.toNat_inj.1
   rw [digit_toNat _ (by omega)]
   omega
  rw [e3]
  rfl

theorem eq_dec {c:UInt8} {l:List UInt8} (hd:AllDig (c :: l)) (hc:c.toNat ≠ 48):c :: l=Lib.decDigits (dval (c :: l)):=(eq_decDigits _ c l rfl hd hc).2

theorem decDigits_inj {a b:Nat} (h:Lib.decDigits a=Lib.decDigits b):a=b:=by
 rw [← decDigits_val a,h,decDigits_val]

theorem decDigits_len_le (k u:Nat) (h:u < 10 ^ k) (hk:0 < k):(Lib.decDigits u).length≤k:=by
 rw [Lib.decDigits_length]
 rcases Nat.lt_or_ge k (Lib.nDigits u) with h1 | h1
 ·exfalso
  obtain ⟨_,_,c,l,h3,h4,h5⟩:=decDigits_facts u
  have hl:(Lib.decDigits u).length=Lib.nDigits u:=Lib.decDigits_length u
  have hu:0 < u:=by
   rcases Nat.eq_zero_or_pos u with h0 | h0
   ·rw [h3,h5 h0] at hl; simp at hl; omega
   ·exact h0
  have h6:=decDigits_val u
  rw [h3,dval_cons] at h6
  rw [h3] at hl
  simp only [List.length_cons] at hl
  have h7:=(h3 ▸ decDigits_all u:AllDig (c :: l)).head
  have h8:=h4 hu
  have h9:1 * 10 ^ l.length≤(c.toNat - 48) * 10 ^ l.length:=Nat.mul_le_mul_right _ (by omega)
  have h10:10 ^ k≤10 ^ l.length:=Nat.pow_le_pow_right (by omega) (by omega)
  omega
 ·exact h1

theorem decDigits_len_mono {a b:Nat} (h:a≤b):(Lib.decDigits a).length≤(Lib.decDigits b).length:=by
 have h1:=dval_lt (decDigits_all b)
 rw [decDigits_val] at h1
 exact decDigits_len_le _ a (by omega) (decDigits_len_pos b)

theorem compare_digits:∀ (l m:List UInt8),l.length=m.length→AllDig l→AllDig m→Lib.compareBytes l m=if dval l < dval m then -1 else if dval m < dval l then 1 else 0:=by
 intro l
 induction l with
 | nil=>intro m h _ _; obtain rfl:=List.eq_nil_of_length_eq_zero h.symm; rfl
 | cons a l ih =>
  intro m h hl hm
  cases m with
  | nil=>simp at h
  | cons b m =>
   have hlm:l.length=m.length:=by simpa using h
   have h1:=ih m hlm hl.tail hm.tail
   have ha:=hl.head
   have hb:=hm.head
   have hx:=dval_lt hl.tail
   have hy:=dval_lt hm.tail
   simp only [Lib.compareBytes,dval_cons]
   rw [hlm] at hx ⊢
   by_cases c1:a < b
   ·rw [if_pos c1]
    have c2:a.toNat < b.toNat:=UInt8.lt_iff_toNat_lt.1 c1
    have c3:(a.toNat - 48 + 1) * 10 ^ m.length≤(b.toNat - 48) * 10 ^ m.length:=Nat.mul_le_mul_right _ (by omega)
    rw [Nat.add_mul] at c3
    rw [if_pos (by omega)]
   ·rw [if_neg c1]
    by_cases c4:b < a
    ·rw [if_pos c4]
     have c2:b.toNat < a.toNat:=UInt8.lt_iff_toNat_lt.1 c4
     have c3:(b.toNat - 48 + 1) * 10 ^ m.length≤(a.toNat - 48) * 10 ^ m.length:=Nat.mul_le_mul_right _ (by omega)
     rw [Nat.add_mul] at c3
     rw [if_neg (by omega),if_pos (by omega)]
    ·rw [if_neg c4,h1]
     have e:a=b:=by
      apply UInt8.toNat_inj.1
      have c5:¬ a.toNat < b.toNat:=fun h=>c1 (UInt8.lt_iff_toNat_lt.2 h)
      have c6:¬ b.toNat < a.toNat:=fun h=>c4 (UInt8.lt_iff_toNat_lt.2 h)
      omega
     subst e
     simp only [Nat.add_lt_add_iff_left]

theorem parse10_digits:∀ (l:List UInt8) (acc:Nat),AllDig l→acc * 10 ^ l.length + dval l < 18446744073709551616→Lib.parseUint10 acc l=.ok (acc * 10 ^ l.length + dval l):=by
 intro l
 induction l with
 | nil=>intro acc _ _; simp [Lib.parseUint10,dval]
 | cons c l ih =>
  intro acc hd hb
  have h1:=hd.head
  rw [dval_cons,List.length_cons,Nat.pow_succ] at hb
  have hp:1≤10 ^ l.length:=Nat.one_le_pow _ _ (by omega)
  have e:acc * (10 ^ l.length * 10) + ((c.toNat - 48) * 10 ^ l.length + dval l)=(acc * 10 + (c.toNat - 48)) * 10 ^ l.length + dval l:=by
   rw [Nat.add_mul,Nat.mul_comm (10 ^ l.length) 10,← Nat.mul_assoc,Nat.add_assoc]
  have h2:(acc * 10 + (c.toNat - 48)) * 1≤(acc * 10 + (c.toNat - 48)) * 10 ^ l.length:=Nat.mul_le_mul_left _ hp
  rw [Lib.parseUint10,if_pos h1,if_neg (by omega),if_neg (by omega),ih _ hd.tail (by omega),dval_cons,List.length_cons,Nat.pow_succ,e]

theorem parseMag_digits {l:List UInt8} (hne:l ≠ []) (hd:AllDig l) (hb:dval l < 18446744073709551616):Lib.parseMag l=.ok (dval l):=by
 unfold Lib.parseMag
 rw [if_neg hne,parse10_digits l 0 hd (by simpa using hb)]
 simp

theorem parseU64_digits {l:List UInt8} (hne:l ≠ []) (hd:AllDig l) (hl:l.length≤19):Lib.parseUintB 64 l=.ok (dval l):=by
 rw [Lib.parseUintB_64]
 refine parseMag_digits hne hd ?_
 have h1:=dval_lt hd
 have h2:10 ^ l.length≤10 ^ 19:=Nat.pow_le_pow_right (by omega) hl
 omega

/-! ### The numeral of an integer -/

theorem itoa_of_nat (u:Nat):Lib.itoa (u:Int)=Lib.decDigits u:=Lib.itoa_nonneg u
theorem itoa_of_neg (u:Nat) (h:0 < u):Lib.itoa (-(u:Int))=45 :: Lib.decDigits u:=Lib.itoa_neg u h

def mdig (z:Int):List UInt8:=Lib.decDigits z.natAbs

theorem itoa_cases (z:Int):(0≤z∧Lib.itoa z=mdig z) ∨ (z < 0∧Lib.itoa z=45 :: mdig z):=by
 unfold Lib.itoa mdig
 by_cases h:z < 0
 ·exact .inr ⟨h,by rw [if_pos h]⟩
 ·refine .inl ⟨by omega,?_⟩
  rw [if_neg h]
  congr 1
  omega

theorem mdig_all (z:Int):AllDig (mdig z):=decDigits_all _
theorem mdig_val (z:Int):dval (mdig z)=z.natAbs:=decDigits_val _

theorem itoa_inj {a b:Int} (h:Lib.itoa a=Lib.itoa b):a=b:=by
 have hdig:∀ u c l,Lib.decDigits u=c :: l→c ≠ 45:=by
  intro u c l e h45
  have:=(e ▸ decDigits_all u:AllDig (c :: l)).head
  subst h45
  simp at this
 rcases itoa_cases a with ⟨ha,e1⟩ | ⟨ha,e1⟩ <;> rcases itoa_cases b with ⟨hb,e2⟩ | ⟨hb,e2⟩
 ·rw [e1,e2] at h
  have:=decDigits_inj h
  omega
 ·rw [e1,e2] at h
  exact absurd rfl (hdig _ _ _ h)
 ·rw [e1,e2] at h
  exact absurd rfl (hdig _ _ _ h.symm)
 ·rw [e1,e2] at h
  have:=decDigits_inj (List.cons.inj h).2
  omega

theorem atoi_itoa (z:Int) (h:z.natAbs < 9223372036854775808):Lib.atoiAll (Lib.itoa z)=.ok z:=by
 rcases itoa_cases z with ⟨hz,e⟩ | ⟨hz,e⟩
 ·rw [e]
  obtain ⟨c,l,hcl⟩:∃ c l,mdig z=c :: l:=by
   obtain ⟨_,_,c,l,h3,_⟩:=decDigits_facts z.natAbs
   exact ⟨c,l,h3⟩
  have hh:=(hcl ▸ mdig_all z:AllDig (c :: l)).head
  rw [hcl,Lib.atoiAll_plain c l (by omega) (by omega),← hcl,parseMag_digits (by rw [hcl]; simp) (mdig_all z) (by rw [mdig_val]; omega),mdig_val]
  simp only [Lib.signless]
  rw [if_neg (by omega)]
  congr 1
  omega
 ·rw [e,Lib.atoiAll_minus,parseMag_digits (l:=mdig z) (decDigits_ne _) (mdig_all z) (by rw [mdig_val]; omega),mdig_val]
  simp only [Lib.signed]
  rw [if_neg (by omega)]
  congr 1
  omega

theorem itoa_len_small {z:Int} {k:Nat} (h:(Lib.itoa z).length≤k):z.natAbs < 10 ^ k:=by
 have h1:=dval_lt (mdig_all z)
 rw [mdig_val] at h1
 have h2:(mdig z).length≤(Lib.itoa z).length:=by
  rcases itoa_cases z with ⟨_,e⟩ | ⟨_,e⟩ <;> rw [e] <;> simp
 have h3:10 ^ (mdig z).length≤10 ^ k:=Nat.pow_le_pow_right (by omega) (by omega)
 omega

theorem trim_minus_neg (z:Int) (h:z < 0):Lib.trimPrefix (Lib.itoa z) [45]=mdig z∧Lib.hasPrefix (Lib.itoa z) [45]=true:=by
 rcases itoa_cases z with ⟨h1,e⟩ | ⟨h1,e⟩
 ·omega
 ·rw [e]
  have:Lib.hasPrefix (45 :: mdig z) [45]=true:=by simp [Lib.hasPrefix,List.isPrefixOf]
  exact ⟨by unfold Lib.trimPrefix; rw [this]; simp,this⟩

theorem noMinus {l:List UInt8} (h:AllDig l):Lib.hasPrefix l [45]=false:=by
 cases l with
 | nil=>rfl
 | cons c l =>
  have hc:=h.head
  have:(45 == c)=false:=by
   rw [beq_eq_false_iff_ne]
   rintro rfl
   simp at hc
  simp [Lib.hasPrefix,List.isPrefixOf,this]

theorem trim_minus_nn (z:Int) (h:0≤z):Lib.trimPrefix (Lib.itoa z) [45]=mdig z∧Lib.hasPrefix (Lib.itoa z) [45]=false:=by
 rcases itoa_cases z with ⟨h1,e⟩ | ⟨h1,e⟩
 ·rw [e]
  have:=noMinus (mdig_all z)
  exact ⟨by unfold Lib.trimPrefix; rw [this]; simp,this⟩
 ·omega

theorem trim_minus (z:Int):Lib.trimPrefix (Lib.itoa z) [45]=mdig z∧Lib.hasPrefix (Lib.itoa z) [45]=decide (z < 0):=by
 by_cases h:z < 0
 ·rw [(trim_minus_neg z h).1,(trim_minus_neg z h).2]; simp [h]
 ·rw [(trim_minus_nn z (by omega)).1,(trim_minus_nn z (by omega)).2]; simp [h]

end Go.Proofs.YthhkmihjnnfpgaaGreatDoor
