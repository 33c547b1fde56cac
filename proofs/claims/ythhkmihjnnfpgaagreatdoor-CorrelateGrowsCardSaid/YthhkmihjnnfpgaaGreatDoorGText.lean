/- The walks between integers as text and as magnitudes: open, close, words, Parse. -/
import Derived.Test.YthhkmihjnnfpgaaGreatDoorShelf
import Derived.Test.YthhkmihjnnfpgaaGreatDoorGPlain
import Derived.Test.YthhkmihjnnfpgaaGreatDoorGMag
import Derived.Lib.ItoaMem
import Derived.BigCall
import Derived.BigGuard
import Derived.Deep.RegionLaw
import Derived.Deep.QuietTactic
import Derived.BigQuiet
import Derived.Lib.TrimByte
/- strconv.FormatUint at base 10: the decimal numeral; new blocks alone. -/
namespace Go.Proofs.YthhkmihjnnfpgaaGreatDoor
set_option linter.all false
open Go.RowKit Go.Sort

set_option maxHeartbeats 6400000 in
set_option maxRecDepth 100000 in
theorem fmtUint_in (u:Nat) (hu64:u < 18446744073709551616) (w:World) (htab:Lib.TabIs Tryz.prog w "internal/strconv.uint64pow10" .u64 Lib.pow10Tab) :
  Calls Tryz.prog 121 #[.int .u64 u,.int .i64 10] w fun e w'=>e=.returned (.string ⟨(Lib.decDigits u).toArray⟩)∧∃ k os,w'=grow (w.drewN k) os:=by
 by_cases hs:u < 100
 ·go_enter Tryz.func121, Tryz.ntmps121
  go_wp2_with (go_at_call 123; refine (Tryz.internal_strconv_small u hs _).mono ?_; rintro e w' ⟨rfl,rfl⟩)
  go_ret
  exact ⟨rfl,0,#[],by simp [World.drewN_zero]⟩
 ·have hu1:1≤u:=by omega
  have hnd20:Lib.nDigits u≤20:=by have:=Lib.numDigits_eq u hu1 hu64; split at this <;> omega
  have hb3:Lib.nDigits u≤23:=by omega
  have hal:Tryz.prog.arrayLen 185 = 24:=by kernel_rfl
  have hsl1:∀ W,(Instr.sliceAt 185 (.pointer (some ⟨w.heap.size,0,none⟩)) none (some (.int .i64 (Lib.nDigits u:Int))) none).run Tryz.prog W=.ok (.slice (some ⟨w.heap.size,0,none⟩) (Lib.nDigits u) 24) W:=fun W=>by
   rw [run_sliceAt_array_h W 185 ⟨w.heap.size,0,none⟩ (by simp [Program.arrayLen,Program.elem,Tryz.underlying185]) .i64 (Lib.nDigits u:Int) (by omega) (by rw [hal]; omega)]
   go_simp
  have hz:Holds (fun (b:UInt8)=>Value.int .u8 (b.toNat:Int)) (w.alloc (.cells Lib.zeros24 185)) w.heap.size 0 (Array.replicate (Lib.nDigits u) (0:UInt8)):=fun j hj=>by
   have hj':j < Lib.nDigits u:=by simpa using hj
   refine ⟨?_,World.frozen?_alloc_new _ _ _ _⟩
   rw [World.cell?_alloc_new,Lib.zeros24_at _ (by omega),getElem!_pos _ j hj]
   simp
  have hfmt:=Tryz.internal_strconv_formatBase10 w.heap.size 0 24 u (Array.replicate (Lib.nDigits u) 0) (w.alloc (.cells Lib.zeros24 185)) hz (by rw [Array.size_replicate]; exact Lib.lt_pow_nDigits u) hu64 (by rw [Array.size_replicate]; omega)
  rw [Array.size_replicate] at hfmt
  have HZ:=Lib.hid hz
  clear hz hal
  go_enter Tryz.func121, Tryz.ntmps121
  go_wp2_with (first
   | (go_at_call 124; refine (Tryz.internal_strconv_numDigits u hu1 hu64 _ (Lib.tabIs_alloc htab _)).mono ?_; rintro e w' ⟨rfl,rfl⟩))
  go_at_call 125
  refine hfmt.mono ?_
  rintro e w' ⟨rfl,k,v',dk,rfl,hF⟩
  have hcv:(convert 160 9 (.slice (some ⟨w.heap.size,0,none⟩) (Lib.nDigits u) 24)).run Tryz.prog ((putRow (fun (b:UInt8)=>Value.int .u8 (b.toNat:Int)) (w.alloc (.cells Lib.zeros24 185)) w.heap.size 0 dk).drewN k)=.ok (.string ⟨(Lib.decDigits u).toArray⟩) ((putRow (fun (b:UInt8)=>Value.int .u8 (b.toNat:Int)) (w.alloc (.cells Lib.zeros24 185)) w.heap.size 0 dk).drewN k):=by
   have h:=run_convert_bytes_back (P:=Tryz.prog) ((putRow (fun (b:UInt8)=>Value.int .u8 (b.toNat:Int)) (w.alloc (.cells Lib.zeros24 185)) w.heap.size 0 dk).drewN k) 160 9 5 ⟨w.heap.size,0,none⟩ 24 (Lib.decDigits u) Tryz.underlying160 Tryz.underlying5 Tryz.underlying9 (fun j hj=>by
    rw [Lib.row_is_numeral hF j hj,Lib.add_plain,World.cell?_drewN]
    exact cell?_putRow (fun (b:UInt8)=>Value.int .u8 (b.toNat:Int)) _ w.heap.size 0 _ dk HZ.out (by rw [hF.size,Array.size_replicate]) j (by rw [hF.size]; rw [Lib.decDigits_length] at hj; exact hj))
   rw [Lib.decDigits_length] at h
   exact h
  go_wp2
  go_ret
  refine ⟨rfl,k,?_⟩
  rw [alloc_eq_grow]
  obtain ⟨os',_,e⟩:=putRow_grow_new (fun (b:UInt8)=>Value.int .u8 (b.toNat:Int)) w #[.cells Lib.zeros24 185] w.heap.size 0 dk (Nat.le_refl _)
  exact ⟨os',by rw [e]; rfl⟩

theorem fmtUint_any (u:Nat) (hu64:u < 18446744073709551616) (w:World) (htab:Lib.TabIs Tryz.prog w "internal/strconv.uint64pow10" .u64 Lib.pow10Tab) :
  Calls Tryz.prog 106 #[.int .u64 u,.int .i64 10] w fun e w'=>e=.returned (.string ⟨(Lib.decDigits u).toArray⟩)∧∃ k os,w'=grow (w.drewN k) os:=by
 go_enter Tryz.func106, Tryz.ntmps106
 go_wp2_with (go_at_call 121; refine (fmtUint_in u hu64 _ htab).mono ?_; rintro e w' ⟨rfl,k,os,rfl⟩)
 go_ret
 exact ⟨rfl,k,os,rfl⟩

end Go.Proofs.YthhkmihjnnfpgaaGreatDoor

/- The walk of (number).close: sign and pieces become the numeral. -/
namespace Go.Proofs.YthhkmihjnnfpgaaGreatDoor
open Go.RowKit Go.Shelf

attribute [local go_sem] Oper.semAt_some

def canon (z:Int):ByteArray:=⟨(Lib.itoa z).toArray⟩

def pad9 (x:Int):List UInt8:=(List.replicate 9 48).drop (Lib.decDigits x.toNat).length ++ Lib.decDigits x.toNat

def chunk (N:Nat) (x:Int × Int):List UInt8:=if x.1 < (N:Int) - 1 then pad9 x.2 else Lib.decDigits x.2.toNat

def emit (N:Nat) (l:List (P9 N)):List UInt8:=l.flatMap (fun x=>chunk N x.v)

theorem emit_snoc (N:Nat) (l:List (P9 N)) (x:P9 N):emit N (l ++ [x])=emit N l ++ chunk N x.v:=by simp [emit]

theorem dec9_len {x:Int} (h0:0≤x) (h1:x < 1000000000):(Lib.decDigits x.toNat).length≤9:=decDigits_len_le 9 x.toNat (by omega) (by omega)

theorem zeros_all (n:Nat):AllDig (List.replicate n 48):=fun c hc=>by
 rw [List.eq_of_mem_replicate hc]
 decide

theorem zeros_val (n:Nat):dval (List.replicate n 48)=0:=by
 induction n with
 | zero=>rfl
 | succ n ih=>rw [List.replicate_succ,dval_cons,ih]; simp

theorem pad9_facts {x:Int} (h0:0≤x) (h1:x < 1000000000):(pad9 x).length=9∧AllDig (pad9 x)∧dval (pad9 x)=x.toNat:=by
 have hl:=dec9_len h0 h1
 refine ⟨by simp [pad9]; omega,(AllDig.drop (zeros_all 9) _).append (decDigits_all _),?_⟩
 rw [pad9,dval_append,List.drop_replicate,zeros_val,decDigits_val]
 simp

theorem emit_all (n:Nat) (hn:0 < n) (hl:0 < (lim9 n).length):emit (lim9 n).length (uptoF (backP (lim9 n) (lim9_digs n) hl) (lim9 n).length)=Lib.decDigits n:=by
 obtain ⟨Z,hZ⟩:∃ Z,lim9 n=Z:=⟨_,rfl⟩
 have key:∀ k,k≤Z.length→0 < k→∀ (hd:Digs 1000000000 Z) (hl:0 < Z.length) (_h0:0 < Z[Z.length - 1]?.getD 0),
   AllDig (emit Z.length (uptoF (backP Z hd hl) k))∧(dval (emit Z.length (uptoF (backP Z hd hl) k)):Int)=valB 1000000000 (Z.drop (Z.length - k))∧∃ c l,emit Z.length (uptoF (backP Z hd hl) k)=c :: l∧c.toNat ≠ 48:=by
  intro k
  induction k with
  | zero=>intro _ h; omega
  | succ k ih =>
   intro hk _ hd hl h0
   rw [uptoF_succ,emit_snoc,backP_eq hd hl (show k < Z.length by omega)]
   have hb:=hd.at_ (by omega) (Z.length - 1 - k)
   rcases Nat.eq_zero_or_pos k with rfl | hp
   ·have e1:chunk Z.length (backF Z 0)=Lib.decDigits (Z[Z.length - 1]?.getD 0).toNat:=by simp [chunk,backF]
    rw [e1]
    have e2:emit Z.length (uptoF (backP Z hd hl) 0)=[]:=rfl
    rw [e2,List.nil_append]
    obtain ⟨_,_,c,l,h3,h4,_⟩:=decDigits_facts (Z[Z.length - 1]?.getD 0).toNat
    refine ⟨decDigits_all _,?_,c,l,h3,h4 (by omega)⟩
    rw [decDigits_val,show Z.length - (0 + 1)=Z.length - 1 from by omega,drop_getD Z (Z.length - 1) (by omega),show Z.length - 1 + 1=Z.length from by omega,List.drop_length]
    simp only [valB]
    omega
   ·obtain ⟨i1,i2,c,l,i3,i4⟩:=ih (by omega) hp hd hl h0
    have e1:chunk Z.length (backF Z k)=pad9 (Z[Z.length - 1 - k]?.getD 0):=by
     unfold chunk
     rw [if_pos (by simp only [backF]; omega)]
     rfl
    obtain ⟨p1,p2,p3⟩:=pad9_facts hb.1 hb.2
    rw [e1]
    refine ⟨i1.append p2,?_,c,l ++ pad9 (Z[Z.length - 1 - k]?.getD 0),by rw [i3]; rfl,i4⟩
    rw [dval_append,p1,p3,drop_getD Z (Z.length - (k + 1)) (by omega),show Z.length - (k + 1) + 1=Z.length - k from by omega]
    simp only [valB]
    rw [← i2,show Z.length - (k + 1)=Z.length - 1 - k from by omega]
    omega
 have hlast:=lim_last 1000000000 (by omega) n hn
 have hk:=key Z.length (Nat.le_refl _)
 have hlen:=lim9_digs n
 have hv:=lim9_val n
 unfold lim9 at hZ hlen hv hl ⊢
 subst hZ
 obtain ⟨h1,h2,c,l,h3,h4⟩:=hk hl hlen hl hlast
 rw [Nat.sub_self,List.drop_zero,hv] at h2
 have h5:dval (emit (lim 1000000000 n).length (uptoF (backP (lim 1000000000 n) hlen hl) (lim 1000000000 n).length))=n:=by omega
 have h6:=eq_dec (h3 ▸ h1) h4
 rw [← h3,h5] at h6
 exact h6

theorem close_zero (m:Bool) (A:Option Addr) (c:Nat) (w:World) :
  Calls Tryz.prog 83 #[.agg #[.bool m,.slice A 0 c]] w fun e w'=>e=.returned (.string (canon 0))∧Below w.heap.size w w':=by
 have h0:Hid ((⟨#[48]⟩:ByteArray)=canon 0):=by
  show _=_
  unfold canon
  rw [show (0:Int)=((0:Nat):Int) from rfl,itoa_of_nat,decDigits_lt 0 (by omega)]
  rfl
 go_enter Tryz.func83, Tryz.ntmps83
 go_wp2
 go_ret
 rw [← h0.out]
 exact ⟨rfl,(Below.refl _ _).alloc (Nat.le_refl _) _⟩

theorem othersKept_keeps {b:Nat} {w w':World} {cs:Array Value} {t:TypeId} {fz:Nat × Nat} (h:Lib.OthersKept 5 (some b) w w') (hb:w.heap[b]?=some (.cells cs t fz)) (hs:w.heap.size≤w'.heap.size):KeepsOthers w w' :=
 ⟨hs,fun k o hk ho=>h k o hk (fun e=>by
  injection e with e
  subst e
  rw [hb] at hk
  injection hk with hk
  subst hk
  cases ho) (fun c fz e=>by subst e; cases ho)⟩

theorem isB_keeps {B b:Nat} {bs:List Value} {w w':World} (h:IsB B b bs w) (k:Lib.OthersKept 5 (some b) w w') (hs:w.heap.size≤w'.heap.size):KeepsOthers w w':=by
 rcases h with ⟨_,v,hb,_⟩ | ⟨_,v,hb,_⟩
 ·exact othersKept_keeps k hb hs
 ·exact othersKept_keeps k hb hs

theorem builderAt_turn {T e:TypeId} {B b:Nat} {p:Value} {bs:List Value} {w w':World} {row:Option Nat} (h:Lib.BuilderAtF T e B b p bs w) (hg:w.grownBy w' row)
  (hr:∀ r,row=some r→∃ o:Obj,w.heap[r]?=some o∧o.isCells=false):Lib.BuilderAtF T e B b p bs w':=by
 have hlt:=h.lt
 obtain ⟨hB,v,hb,hown,hne⟩:=h
 have hnb:∀ g cs t fz,w.heap[g]?=some (.cells cs t fz)→some g ≠ row:=by
  intro g cs t fz hgc he
  obtain ⟨_,ho,hc⟩:=hr g he.symm
  rw [hgc] at ho
  injection ho with ho
  subst ho
  cases hc
 refine ⟨hB,v,(hg.block b hlt (hnb _ _ _ _ hb)).trans hb,hown.kept hg ?_,hne⟩
 rcases hown.2 with ⟨rfl,_⟩ | ⟨g,cap,cur,fz,rfl,_,hgc,_⟩
 ·exact .inl rfl
 ·exact .inr (hnb _ _ _ _ hgc)

theorem isB_turn {B b:Nat} {bs:List Value} {w w':World} {row:Option Nat} (h:IsB B b bs w) (hg:w.grownBy w' row)
  (hr:∀ r,row=some r→∃ o:Obj,w.heap[r]?=some o∧o.isCells=false):IsB B b bs w' :=
 h.elim (fun h=>.inl (builderAt_turn h hg hr)) (fun h=>.inr (builderAt_turn h hg hr))

theorem isB_alloc {B b:Nat} {bs:List Value} {w:World} (h:IsB B b bs w) (o:Obj):IsB B b bs (w.alloc o):=h.elim (fun h=>.inl (h.alloc o)) (fun h=>.inr (h.alloc o))

theorem isB_new (w:World):IsB w.heap.size w.heap.size [] (w.alloc (.cells #[.pointer none,.slice none 0 0] 171)) :=
 .inl ⟨Nat.le_refl _,.slice none 0 0,heap_alloc_new w _,World.ownsRowF_nil _ _ _ _,by simp [Value.ownBlock]⟩

def Pow10 (w:World):Prop:=Lib.TabIs Tryz.prog w "internal/strconv.uint64pow10" .u64 Lib.pow10Tab

theorem var_below {w w':World} {name:String} {vs:Array Value} (h:w.var? Tryz.prog name=some vs) (hb:Below w.heap.size w w'):w'.var? Tryz.prog name=some vs:=by
 unfold World.var? at *
 cases hg:Tryz.prog.globalNamed name with
 | none=>simp [hg] at h
 | some g =>
  simp only [hg,Option.bind_some] at h ⊢
  have hlt:g < w.heap.size:=by
   rcases Nat.lt_or_ge g w.heap.size with h' | h'
   ·exact h'
   ·rw [Array.getElem?_eq_none h'] at h; simp at h
  rw [hb.block g hlt]
  exact h

theorem Pow10.below {w w':World} (h:Pow10 w) (hb:Below w.heap.size w w'):Pow10 w':=var_below h hb

theorem below_grow {B:Nat} (w:World) (hB:B≤w.heap.size) (k:Nat) (os:Array Obj):Below B w (Sort.grow (w.drewN k) os) :=
 ⟨rfl,rfl,rfl,by simp [Sort.grow],fun j hj=>by
  show (w.heap ++ os)[j]?=w.heap[j]?
  rw [Array.getElem?_append_left (by omega)]⟩

theorem isB_below {B b:Nat} {bs:List Value} {w w':World} (h:IsB B b bs w) (hb:Below w.heap.size w w'):IsB B b bs w' :=
 isB_turn (row:=none) h ⟨hb.os,hb.tape,hb.output,hb.size,fun k hk _=>hb.block k hk⟩ (fun r e=>by cases e)

theorem keeps_below {w w':World} (hb:Below w.heap.size w w'):KeepsOthers w w' :=
 ⟨hb.size,fun k _ hk _=>(hb.block k (Array.getElem?_eq_some_iff.1 hk).1).trans hk⟩

theorem block_below {w w':World} (hb:Below w.heap.size w w') {k:Nat} {o:Obj} (hk:w.heap[k]?=some o):w'.heap[k]?=some o :=
 (hb.block k (Array.getElem?_eq_some_iff.1 hk).1).trans hk

theorem chunk_len {N:Nat} (x:P9 N):(chunk N x.v).length≤9:=by
 obtain ⟨x,h1,h2,h3,h4⟩:=x
 unfold chunk
 split
 ·rw [(pad9_facts h3 h4).1]; exact Nat.le_refl _
 ·exact dec9_len h3 h4

theorem emit_len {N:Nat} (l:List (P9 N)):(emit N l).length≤9 * l.length:=by
 induction l with
 | nil=>simp [emit]
 | cons x l ih =>
  have:=chunk_len x
  simp only [emit,List.flatMap_cons,List.length_append,List.length_cons] at *
  omega

theorem fmt_any (u:Nat) (hu64:u < 18446744073709551616) (w:World) (htab:Pow10 w) :
  Calls Tryz.prog 106 #[.int .u64 u,.int .i64 10] w fun e w'=>e=.returned (.string ⟨(Lib.decDigits u).toArray⟩)∧Below w.heap.size w w':=by
 refine (fmtUint_any u hu64 w htab).mono ?_
 rintro e w' ⟨rfl,k,os,rfl⟩
 exact ⟨rfl,below_grow w (Nat.le_refl _) k os⟩

def CloseW (Bs:Nat) (w:World) (A:Option Addr) (L c:Nat) (l:List UInt8) (W:World):Prop :=
 IsB (w.heap.size + 1) (w.heap.size + 1) (Lib.byteCells l) W∧(w.heap.size + 1 < Bs∧W.heap[Bs]?=some (.cells #[.slice A L c] 141 (0,0)))∧(∃ m,W.heap[w.heap.size]?=some (.cells #[.bool m,.slice A L c] 143 (0,0)))∧Below w.heap.size w W

theorem closeW_turn {β:Type} {Bs:Nat} {w:World} {A:Option Addr} {L c:Nat} {f:β→List UInt8} (B:Nat) (hB:w.heap.size≤B):OwnFrom B (fun s W=>CloseW Bs w A L c (f s) W):=by
 rintro s W W' row ⟨h1,⟨h2',h2⟩,⟨m,h3⟩,h4⟩ hg hr
 have hnc:∀ {g:Nat} {cs:Array Value} {t:TypeId},W.heap[g]?=some (.cells cs t (0,0))→W'.heap[g]?=some (.cells cs t (0,0)):=fun {g cs t} hgc=>by
  rw [hg.block g (Array.getElem?_eq_some_iff.1 hgc).1 (fun e=>by
   obtain ⟨_,_,ho,hc⟩:=hr g e.symm
   rw [hgc] at ho
   injection ho with ho
   subst ho
   cases hc)]
  exact hgc
 refine ⟨isB_turn h1 hg (fun r e=>(hr r e).2),⟨h2',hnc h2⟩,⟨m,hnc h3⟩,h4.grown hg h4.size (fun r e=>?_)⟩
 have:=(hr r e).1
 omega

theorem closeW_cell {Bs:Nat} {w W:World} {A:Option Addr} {L c:Nat} {l:List UInt8} (h:CloseW Bs w A L c l W):W.cell? ⟨w.heap.size,1,none⟩=some (.slice A L c):=by
 obtain ⟨_,_,⟨m,h3⟩,_⟩:=h
 rw [Lib.cell_of_heap h3]; rfl

theorem closeW_fmt {Bs:Nat} {w W:World} {A:Option Addr} {L c:Nat} {l:List UInt8} (h:CloseW Bs w A L c l W) (u:Nat) (hu:u < 1000000000) (htab:Pow10 w) :
  Calls Tryz.prog 106 #[.int .u64 u,.int .i64 10] W fun e w'=>e=.returned (.string ⟨(Lib.decDigits u).toArray⟩)∧CloseW Bs w A L c l w'∧KeepsOthers W w'∧KeptAt (BelowOr w.heap.size Bs) W w':=by
 refine (fmt_any u (by omega) W (htab.below h.2.2.2)).mono ?_
 rintro e w' ⟨rfl,hb⟩
 obtain ⟨h1,⟨h2',h2⟩,⟨m,h3⟩,h4⟩:=h
 refine ⟨rfl,⟨isB_below h1 hb,⟨h2',block_below hb h2⟩,⟨m,block_below hb h3⟩,h4.trans (hb.mono h4.size)⟩,keeps_below hb,fun g hg=>?_⟩
 have:g < W.heap.size:=by
  have hs:=h4.size
  rcases hg with hg | rfl
  ·omega
  ·exact (Array.getElem?_eq_some_iff.1 h2).1
 exact hb.block g this

theorem closeW_write {Bs:Nat} {w W:World} {A:Option Addr} {L c:Nat} {l:List UInt8} (h:CloseW Bs w A L c l W) (s:ByteArray) (hl:l.length≤1000000) (hs:s.size≤1000) :
  Calls Tryz.prog 107 #[.pointer (some ⟨w.heap.size + 1,0,none⟩),.string s] W fun e w'=>e=.returned (.tuple #[.int .i64 s.size,.nilIface])∧CloseW Bs w A L c (l ++ s.data.toList) w'∧KeepsOthers W w'∧KeptAt (BelowOr w.heap.size Bs) W w':=by
 obtain ⟨h1,⟨h2',h2⟩,⟨m,h3⟩,h4⟩:=h
 refine (writeString_any (w.heap.size + 1) (w.heap.size + 1) (Lib.byteCells l) s W h1 (by rw [Lib.byteCells_length]; exact hl) (by omega) (by have:=(Array.getElem?_eq_some_iff.1 h2).1; omega)).mono ?_
 rintro e w' ⟨rfl,hB,hb,hk⟩
 have hbs:w'.heap[Bs]?=some (.cells #[.slice A L c] 141 (0,0)):=hk Bs _ h2 (by intro e; injection e; omega) (fun c fz e=>by injection e with _ e; cases e)
 refine ⟨rfl,⟨by rw [Lib.byteCells_append]; exact hB,⟨h2',hbs⟩,⟨m,(hb.block _ (by omega)).trans h3⟩,h4.trans (hb.mono (by omega))⟩,isB_keeps h1 hk hb.size,fun g hg=>?_⟩
 rcases hg with hg | rfl
 ·exact hb.block g (by omega)
 ·rw [h2]; exact hbs

theorem zeros_cut (k:Nat):(({ data:=#[48,48,48,48,48,48,48,48,48] }:ByteArray).extract k 9).data.toList=(List.replicate 9 48).drop k:=by
 rw [Lib.extract_data]
 simp only [List.replicate]
 rw [List.take_of_length_le (by simp)]

set_option maxRecDepth 100000 in
set_option maxHeartbeats 4000000 in
theorem close_pos (A:Option Addr) (c n:Nat) (w:World) (hs:Sl w .u64 A c (lim9 n)) (hn:0 < n) (hlen:(lim9 n).length≤60000) (htab:Pow10 w) :
  Calls Tryz.prog 83 #[.agg #[.bool false,.slice A (lim9 n).length c]] w fun e w'=>e=.returned (.string (canon (n:Int)))∧Below w.heap.size w w':=by
 have hl:0 < (lim9 n).length:=by
  rcases Nat.eq_zero_or_pos (lim9 n).length with h | h
  ·have:=(lim_len_zero 1000000000 (by omega) n).1 h
   omega
  ·exact h
 have hl0:(((lim9 n).length:Int) == 0)=false:=beq_eq_false_iff_ne.2 (by omega)
 have HE:=Lib.hid (emit_all n hn hl)
 obtain ⟨Z,hZ⟩:∃ Z,lim9 n=Z:=⟨_,rfl⟩
 have HE2:Hid (∃ (hd:Digs 1000000000 Z) (hl:0 < Z.length),emit Z.length (uptoF (backP Z hd hl) Z.length)=Lib.decDigits n):=by
  subst hZ
  exact ⟨lim9_digs n,hl,HE.out⟩
 clear HE
 rw [hZ] at hs hlen hl hl0 ⊢
 clear hZ
 obtain ⟨hd,hlz,hE⟩:=HE2.out
 have HE:=Lib.hid hE
 clear hE HE2
 refine (callsIn_wide (n:=9)).1 ?_
 have hro:Fence.wide.round=none:=rfl
 refine callsIn_of_wp_marks Tryz.func83 rfl trivial ?_ hro
 simp only [Tryz.ntmps83, List.size_toArray,List.length_cons,List.length_nil,Nat.reduceAdd,Nat.reduceSub,Array.replicate_succ,Array.replicate_zero,List.push_toArray,List.append_toArray,List.nil_append,List.cons_append]
 gi_wp2_with (refine ⟨trivial,?_⟩; gi_at_call 105; refine (back_in Fence.wide _ trivial hro _ _ _ _).mono ?_; rintro e w' ⟨rfl,rfl⟩)
 obtain ⟨W1,hW1⟩:∃ W1,(w.alloc (.cells #[.bool false,.slice A Z.length c] 143)).alloc (.cells #[.pointer none,.slice none 0 0] 171)=W1:=⟨_,rfl⟩
 rw [hW1]
 have hs1:W1.heap.size=w.heap.size + 2:=by rw [← hW1]; simp
 have f1:IsB (w.heap.size + 1) (w.heap.size + 1) (Lib.byteCells (([]:List UInt8) ++ emit Z.length [])) W1:=by
  rw [← hW1]
  have:=isB_new (w.alloc (.cells #[.bool false,.slice A Z.length c] 143))
  rw [World.size_alloc] at this
  exact this
 have f2:W1.heap[w.heap.size]?=some (.cells #[.bool false,.slice A Z.length c] 143 (0,0)):=by
  rw [← hW1,Below.heap_alloc _ _ _ (by simp)]
  exact heap_alloc_new w _
 have f3:Below w.heap.size w W1:=by rw [← hW1]; exact ((Below.refl _ _).alloc (Nat.le_refl _) _).alloc (by simp) _
 rw [show w.heap.size + 1 + 1=W1.heap.size from hs1.symm]
 have F1:=Lib.hid f1
 have F2:=Lib.hid f2
 have F3:=Lib.hid f3
 have hsz:w.heap.size + 2≤W1.heap.size:=by omega
 clear f1 f2 f3 hs1 hW1
 refine wpIn_rangeFunc_ownG hro (by omega) (gf := 120) (lb:=#[.pointer (some ⟨W1.heap.size,0,none⟩)]) rfl trivial (enters_of Tryz.func120 (by kernel_rfl) rfl)
  (back_stops (α:=P9 Z.length) P9.v (backP Z hd hlz) Fence.wide _ trivial hro (by omega) W1.heap.size w.heap.size A c Z (by omega) (fun j hj=>backP_eq hd hlz hj) (W1.alloc (.cells #[.slice A Z.length c] 141)) (by simp) (by simp; omega) (World.cell?_alloc_at _ _ _ _ rfl) (fun h=>?hcells))
  KeptAt.trans (KeptAt.put (fun g hg=>by simp; rcases hg with h | h <;> omega)) (Below.refl _ _) (fun _=>rfl)
  (fun pre W=>CloseW W1.heap.size w A Z.length c (([]:List UInt8) ++ emit Z.length pre) W) (fun _ _ _=>False) (closeW_turn _ (by simp; omega)) (fun _ _ _ _ _ hs _ _=>hs)
  ⟨isB_alloc F1.out _,⟨by omega,heap_alloc_new W1 _⟩,⟨false,(Below.heap_alloc _ _ _ (by omega)).trans F2.out⟩,F3.out.alloc (by omega) _⟩ ?a₁ ?assign ?body ?done ?stop
 case hcells =>
  obtain ⟨b,o,e,hb,hc⟩:=hs.at_ h
  exact ⟨b,o,e,hb,fun j hj=>((F3.out.alloc (by omega) _).cell (p:=⟨b,o + j,none⟩) hb).trans (hc j hj)⟩
 case assign =>
  intro l x W K hK
  gi_wp2
  exact hK
 case body =>
  rintro l pre ⟨⟨i,xv⟩,hx1,hx2,hx3,hx4⟩ W hcw hlt
  obtain ⟨u,rfl⟩:=Int.eq_ofNat_of_zero_le hx3
  have hsn:Hid (∀ q,([]:List UInt8) ++ emit Z.length (pre ++ [⟨(i,(u:Int)),q⟩])=(([]:List UInt8) ++ emit Z.length pre) ++ chunk Z.length (i,(u:Int))):=fun q=>by rw [emit_snoc,List.append_assoc]
  dsimp only at hx1 hx2 hx4 ⊢
  have hel:=emit_len pre
  have hel2:(([]:List UInt8) ++ emit Z.length pre).length≤540001:=by simp; omega
  generalize ([]:List UInt8) ++ emit Z.length pre=bs at *
  have hcell:=closeW_cell hcw
  have hdl:(Lib.decDigits u).length≤9:=decDigits_len_le 9 u (by omega) (by omega)
  have hfm:=closeW_fmt hcw u (by omega) htab
  have hch:Hid (chunk Z.length (i,(u:Int))=if i < (Z.length:Int) - 1 then (List.replicate 9 48).drop (Lib.decDigits u).length ++ Lib.decDigits u else Lib.decDigits u):=rfl
  obtain ⟨DS,hDS⟩:∃ DS:ByteArray,(⟨(Lib.decDigits u).toArray⟩:ByteArray)=DS:=⟨_,rfl⟩
  have hdz:DS.size≤9:=by rw [← hDS]; exact hdl
  rw [hDS] at hfm
  have hdd:Hid (DS.data.toList=Lib.decDigits u):=by rw [← hDS]; rfl
  have hdz2:Hid (DS.size=(Lib.decDigits u).length):=by rw [← hDS]; rfl
  clear hDS hcw hdl
  by_cases hi:i < (Z.length:Int) - 1
  ·have HC:Hid (chunk Z.length (i,(u:Int))=(List.replicate 9 48).drop DS.size ++ DS.data.toList):=by show _=_; rw [hch.out,if_pos hi,hdd.out,hdz2.out]
   gi_wp2_with (first
    | (refine ⟨trivial,?_⟩; gi_at_call 106; refine (CallsIn.inRound l (callsIn_wide.2 hfm)).mono ?_; clear hfm; rintro e w2 ⟨rfl,hcw2,hko2,hka2⟩; have hcell2:=closeW_cell hcw2; have HCW2:=Lib.hid hcw2; clear hcw2; have tok1:True:=trivial)
    | (refine ⟨trivial,?_⟩; gi_at_call 107; have _t:=tok1; refine (CallsIn.inRound l (callsIn_wide.2 (closeW_write HCW2.out _ (by omega) (by simp; omega)))).mono ?_; clear tok1; rintro e w3 ⟨rfl,hcw3,hko3,hka3⟩; have HCW3:=Lib.hid hcw3; clear hcw3; have tok2:True:=trivial)
    | (refine ⟨trivial,?_⟩; gi_at_call 107; have _t:=tok2; refine (CallsIn.inRound l (callsIn_wide.2 (closeW_write HCW3.out DS (by simp; omega) (by omega)))).mono ?_; clear tok2; rintro e w4 ⟨rfl,hcw4,hko4,hka4⟩; have HCW4:=Lib.hid hcw4; clear hcw4))
   refine ⟨((hko2.trans hko3).trans hko4).from _,(hka2.trans hka3).trans hka4,?_⟩
   show CloseW _ _ _ _ _ _ _
   rw [hsn.out,HC.out,← zeros_cut,← List.append_assoc]
   exact HCW4.out
  ·have HC:Hid (chunk Z.length (i,(u:Int))=DS.data.toList):=by show _=_; rw [hch.out,if_neg hi,hdd.out]
   obtain rfl:i=(Z.length:Int) - 1:=by omega
   clear hi
   gi_wp2_with (first
    | (refine ⟨trivial,?_⟩; gi_at_call 106; refine (CallsIn.inRound l (callsIn_wide.2 hfm)).mono ?_; clear hfm; rintro e w2 ⟨rfl,hcw2,hko2,hka2⟩; have hcell2:=closeW_cell hcw2; have HCW2:=Lib.hid hcw2; clear hcw2)
    | (refine ⟨trivial,?_⟩; gi_at_call 107; refine (CallsIn.inRound l (callsIn_wide.2 (closeW_write HCW2.out DS (by omega) (by omega)))).mono ?_; rintro e w3 ⟨rfl,hcw3,hko3,hka3⟩; have HCW3:=Lib.hid hcw3; clear hcw3))
   refine ⟨(hko2.trans hko3).from _,hka2.trans hka3,?_⟩
   show CloseW _ _ _ _ _ _ _
   rw [hsn.out,HC.out]
   exact HCW3.out
 case done =>
  rintro D ys W hD rfl hcw hK
  rw [HE.out] at hcw
  obtain ⟨g1,g2,⟨mb,g3⟩,g4⟩:=hcw
  have hst:=Tryz.Builder_String_any_k (w.heap.size + 1) (w.heap.size + 1) (([]:List UInt8) ++ Lib.decDigits n) W g1 (by have:=(Array.getElem?_eq_some_iff.1 g2.2).1; omega)
  have G1:=Lib.hid g1
  have G4:=Lib.hid g4
  have HK:=Lib.hid hK
  have HD:=Lib.hid hD
  clear g1 g2 g3 g4 hK hD
  gi_wp2_with (refine ⟨trivial,?_⟩; gi_at_call 108; refine (callsIn_wide.2 hst).mono ?_; clear hst; rintro e w5 ⟨rfl,hb5,hbl5,hok5⟩)
  have hK5:=(isB_keeps G1.out hok5 hbl5.size).same D _ HK.out rfl
  refine ⟨by simp,.inl ⟨_,_,rfl,run_takeDeferred hK5,?_⟩⟩
  refine ⟨_,results_tmp rfl _ _ _,?_,?_⟩
  ·show Ending.returned (.string ⟨(([]:List UInt8) ++ Lib.decDigits n).toArray⟩)=_
   unfold canon
   rw [itoa_of_nat]; rfl
  ·exact (G4.out.trans (hbl5.mono (by omega))).trans (belowK_b (w:=w) (Nat.le_refl _) w5 D _ _ (by have:=HD.out; simp at this; omega) hK5 rfl rfl)
 case stop =>
  rintro D cd pre W _ _ h _
  exact h.elim

set_option maxRecDepth 100000 in
set_option maxHeartbeats 4000000 in
theorem close_neg (A:Option Addr) (c n:Nat) (w:World) (hs:Sl w .u64 A c (lim9 n)) (hn:0 < n) (hlen:(lim9 n).length≤60000) (htab:Pow10 w) :
  Calls Tryz.prog 83 #[.agg #[.bool true,.slice A (lim9 n).length c]] w fun e w'=>e=.returned (.string (canon (-(n:Int))))∧Below w.heap.size w w':=by
 have hl:0 < (lim9 n).length:=by
  rcases Nat.eq_zero_or_pos (lim9 n).length with h | h
  ·have:=(lim_len_zero 1000000000 (by omega) n).1 h
   omega
  ·exact h
 have hl0:(((lim9 n).length:Int) == 0)=false:=beq_eq_false_iff_ne.2 (by omega)
 have HE:=Lib.hid (emit_all n hn hl)
 obtain ⟨Z,hZ⟩:∃ Z,lim9 n=Z:=⟨_,rfl⟩
 have HE2:Hid (∃ (hd:Digs 1000000000 Z) (hl:0 < Z.length),emit Z.length (uptoF (backP Z hd hl) Z.length)=Lib.decDigits n):=by
  subst hZ
  exact ⟨lim9_digs n,hl,HE.out⟩
 clear HE
 rw [hZ] at hs hlen hl hl0 ⊢
 clear hZ
 obtain ⟨hd,hlz,hE⟩:=HE2.out
 have HE:=Lib.hid hE
 clear hE HE2
 refine (callsIn_wide (n:=9)).1 ?_
 have hro:Fence.wide.round=none:=rfl
 refine callsIn_of_wp_marks Tryz.func83 rfl trivial ?_ hro
 simp only [Tryz.ntmps83, List.size_toArray,List.length_cons,List.length_nil,Nat.reduceAdd,Nat.reduceSub,Array.replicate_succ,Array.replicate_zero,List.push_toArray,List.append_toArray,List.nil_append,List.cons_append]
 have hwb:=writeByte_any (w.heap.size + 1) (w.heap.size + 1) [] 45 ((w.alloc (.cells #[.bool true,.slice A Z.length c] 143)).alloc (.cells #[.pointer none,.slice none 0 0] 171))
  (by
   have:=isB_new (w.alloc (.cells #[.bool true,.slice A Z.length c] 143))
   rw [World.size_alloc] at this
   exact this) (by simp) (by simp)
 have c0:((w.alloc (.cells #[.bool true,.slice A Z.length c] 143)).alloc (.cells #[.pointer none,.slice none 0 0] 171)).cell? ⟨w.heap.size,1,none⟩=some (.slice A Z.length c):=by
  rw [World.cell?_alloc_past _ _ _ (by simp),World.cell?_alloc_at _ _ _ _ rfl]; rfl
 have C0:=Lib.hid c0
 clear c0
 gi_wp2_with (first
  | (refine ⟨trivial,?_⟩; gi_at_call 104; refine (callsIn_wide.2 hwb).mono ?_; clear hwb; rintro e W1 ⟨rfl,hb1,hbl1,hok1⟩; have hcell1:=(hbl1.cell (p:=⟨w.heap.size,1,none⟩) (by simp)).trans C0.out; have HBL1:=Lib.hid hbl1; clear hbl1)
  | (refine ⟨trivial,?_⟩; gi_at_call 105; refine (back_in Fence.wide _ trivial hro _ _ _ _).mono ?_; rintro e w' ⟨rfl,rfl⟩))
 have hbl1:=HBL1.out
 have f2:W1.heap[w.heap.size]?=some (.cells #[.bool true,.slice A Z.length c] 143 (0,0)):=by
  rw [hbl1.block _ (by omega),Below.heap_alloc _ _ _ (by simp)]
  exact heap_alloc_new w _
 have f1:IsB (w.heap.size + 1) (w.heap.size + 1) (Lib.byteCells (([45]:List UInt8) ++ emit Z.length [])) W1:=hb1
 have f3:Below w.heap.size w W1:=(((Below.refl _ _).alloc (Nat.le_refl _) _).alloc (by simp) _).trans (hbl1.mono (by omega))
 have hsz:w.heap.size + 2≤W1.heap.size:=by have:=hbl1.size; simp at this; omega
 have F1:=Lib.hid f1
 have F2:=Lib.hid f2
 have F3:=Lib.hid f3
 clear f1 f2 f3 hb1 hbl1 hok1 hcell1
 refine wpIn_rangeFunc_ownG hro (by omega) (gf := 120) (lb:=#[.pointer (some ⟨W1.heap.size,0,none⟩)]) rfl trivial (enters_of Tryz.func120 (by kernel_rfl) rfl)
  (back_stops (α:=P9 Z.length) P9.v (backP Z hd hlz) Fence.wide _ trivial hro (by omega) W1.heap.size w.heap.size A c Z (by omega) (fun j hj=>backP_eq hd hlz hj) (W1.alloc (.cells #[.slice A Z.length c] 141)) (by simp) (by simp; omega) (World.cell?_alloc_at _ _ _ _ rfl) (fun h=>?hcells))
  KeptAt.trans (KeptAt.put (fun g hg=>by simp; rcases hg with h | h <;> omega)) (Below.refl _ _) (fun _=>rfl)
  (fun pre W=>CloseW W1.heap.size w A Z.length c (([45]:List UInt8) ++ emit Z.length pre) W) (fun _ _ _=>False) (closeW_turn _ (by simp; omega)) (fun _ _ _ _ _ hs _ _=>hs)
  ⟨isB_alloc F1.out _,⟨by omega,heap_alloc_new W1 _⟩,⟨true,(Below.heap_alloc _ _ _ (by omega)).trans F2.out⟩,F3.out.alloc (by omega) _⟩ ?a₁ ?assign ?body ?done ?stop
 case hcells =>
  obtain ⟨b,o,e,hb,hc⟩:=hs.at_ h
  exact ⟨b,o,e,hb,fun j hj=>((F3.out.alloc (by omega) _).cell (p:=⟨b,o + j,none⟩) hb).trans (hc j hj)⟩
 case assign =>
  intro l x W K hK
  gi_wp2
  exact hK
 case body =>
  rintro l pre ⟨⟨i,xv⟩,hx1,hx2,hx3,hx4⟩ W hcw hlt
  obtain ⟨u,rfl⟩:=Int.eq_ofNat_of_zero_le hx3
  have hsn:Hid (∀ q,([45]:List UInt8) ++ emit Z.length (pre ++ [⟨(i,(u:Int)),q⟩])=(([45]:List UInt8) ++ emit Z.length pre) ++ chunk Z.length (i,(u:Int))):=fun q=>by rw [emit_snoc,List.append_assoc]
  dsimp only at hx1 hx2 hx4 ⊢
  have hel:=emit_len pre
  have hel2:(([45]:List UInt8) ++ emit Z.length pre).length≤540001:=by simp; omega
  generalize ([45]:List UInt8) ++ emit Z.length pre=bs at *
  have hcell:=closeW_cell hcw
  have hdl:(Lib.decDigits u).length≤9:=decDigits_len_le 9 u (by omega) (by omega)
  have hfm:=closeW_fmt hcw u (by omega) htab
  have hch:Hid (chunk Z.length (i,(u:Int))=if i < (Z.length:Int) - 1 then (List.replicate 9 48).drop (Lib.decDigits u).length ++ Lib.decDigits u else Lib.decDigits u):=rfl
  obtain ⟨DS,hDS⟩:∃ DS:ByteArray,(⟨(Lib.decDigits u).toArray⟩:ByteArray)=DS:=⟨_,rfl⟩
  have hdz:DS.size≤9:=by rw [← hDS]; exact hdl
  rw [hDS] at hfm
  have hdd:Hid (DS.data.toList=Lib.decDigits u):=by rw [← hDS]; rfl
  have hdz2:Hid (DS.size=(Lib.decDigits u).length):=by rw [← hDS]; rfl
  clear hDS hcw hdl
  by_cases hi:i < (Z.length:Int) - 1
  ·have HC:Hid (chunk Z.length (i,(u:Int))=(List.replicate 9 48).drop DS.size ++ DS.data.toList):=by show _=_; rw [hch.out,if_pos hi,hdd.out,hdz2.out]
   gi_wp2_with (first
    | (refine ⟨trivial,?_⟩; gi_at_call 106; refine (CallsIn.inRound l (callsIn_wide.2 hfm)).mono ?_; clear hfm; rintro e w2 ⟨rfl,hcw2,hko2,hka2⟩; have hcell2:=closeW_cell hcw2; have HCW2:=Lib.hid hcw2; clear hcw2; have tok1:True:=trivial)
    | (refine ⟨trivial,?_⟩; gi_at_call 107; have _t:=tok1; refine (CallsIn.inRound l (callsIn_wide.2 (closeW_write HCW2.out _ (by omega) (by simp; omega)))).mono ?_; clear tok1; rintro e w3 ⟨rfl,hcw3,hko3,hka3⟩; have HCW3:=Lib.hid hcw3; clear hcw3; have tok2:True:=trivial)
    | (refine ⟨trivial,?_⟩; gi_at_call 107; have _t:=tok2; refine (CallsIn.inRound l (callsIn_wide.2 (closeW_write HCW3.out DS (by simp; omega) (by omega)))).mono ?_; clear tok2; rintro e w4 ⟨rfl,hcw4,hko4,hka4⟩; have HCW4:=Lib.hid hcw4; clear hcw4))
   refine ⟨((hko2.trans hko3).trans hko4).from _,(hka2.trans hka3).trans hka4,?_⟩
   show CloseW _ _ _ _ _ _ _
   rw [hsn.out,HC.out,← zeros_cut,← List.append_assoc]
   exact HCW4.out
  ·have HC:Hid (chunk Z.length (i,(u:Int))=DS.data.toList):=by show _=_; rw [hch.out,if_neg hi,hdd.out]
   obtain rfl:i=(Z.length:Int) - 1:=by omega
   clear hi
   gi_wp2_with (first
    | (refine ⟨trivial,?_⟩; gi_at_call 106; refine (CallsIn.inRound l (callsIn_wide.2 hfm)).mono ?_; clear hfm; rintro e w2 ⟨rfl,hcw2,hko2,hka2⟩; have hcell2:=closeW_cell hcw2; have HCW2:=Lib.hid hcw2; clear hcw2)
    | (refine ⟨trivial,?_⟩; gi_at_call 107; refine (CallsIn.inRound l (callsIn_wide.2 (closeW_write HCW2.out DS (by omega) (by omega)))).mono ?_; rintro e w3 ⟨rfl,hcw3,hko3,hka3⟩; have HCW3:=Lib.hid hcw3; clear hcw3))
   refine ⟨(hko2.trans hko3).from _,hka2.trans hka3,?_⟩
   show CloseW _ _ _ _ _ _ _
   rw [hsn.out,HC.out]
   exact HCW3.out
 case done =>
  rintro D ys W hD rfl hcw hK
  rw [HE.out] at hcw
  obtain ⟨g1,g2,⟨mb,g3⟩,g4⟩:=hcw
  have hst:=Tryz.Builder_String_any_k (w.heap.size + 1) (w.heap.size + 1) (([45]:List UInt8) ++ Lib.decDigits n) W g1 (by have:=(Array.getElem?_eq_some_iff.1 g2.2).1; omega)
  have G1:=Lib.hid g1
  have G4:=Lib.hid g4
  have HK:=Lib.hid hK
  have HD:=Lib.hid hD
  clear g1 g2 g3 g4 hK hD
  gi_wp2_with (refine ⟨trivial,?_⟩; gi_at_call 108; refine (callsIn_wide.2 hst).mono ?_; clear hst; rintro e w5 ⟨rfl,hb5,hbl5,hok5⟩)
  have hK5:=(isB_keeps G1.out hok5 hbl5.size).same D _ HK.out rfl
  refine ⟨by simp,.inl ⟨_,_,rfl,run_takeDeferred hK5,?_⟩⟩
  refine ⟨_,results_tmp rfl _ _ _,?_,?_⟩
  ·show Ending.returned (.string ⟨(([45]:List UInt8) ++ Lib.decDigits n).toArray⟩)=_
   unfold canon
   rw [itoa_of_neg n hn]; rfl
  ·exact (G4.out.trans (hbl5.mono (by omega))).trans (belowK_b (w:=w) (Nat.le_refl _) w5 D _ _ (by have:=HD.out; simp at this; omega) hK5 rfl rfl)
 case stop =>
  rintro D cd pre W _ _ h _
  exact h.elim

theorem close_any (m:Bool) (A:Option Addr) (c n:Nat) (w:World) (hs:Sl w .u64 A c (lim9 n)) (hlen:(lim9 n).length≤60000) (htab:Pow10 w) :
  Calls Tryz.prog 83 #[.agg #[.bool m,.slice A (lim9 n).length c]] w fun e w'=>e=.returned (.string (canon (if m then -(n:Int) else (n:Int))))∧Below w.heap.size w w':=by
 rcases Nat.eq_zero_or_pos n with rfl | hn
 ·have h:=close_zero m A c w
  cases m <;> exact h
 ·cases m
  ·exact close_pos A c n w hs hn hlen htab
  ·exact close_neg A c n w hs hn hlen htab

end Go.Proofs.YthhkmihjnnfpgaaGreatDoor

/- The walk of integer.open: a numeral is taken apart into sign and pieces. -/
namespace Go.Proofs.YthhkmihjnnfpgaaGreatDoor
open Go.RowKit

section
variable {P:Program} {t e:TypeId} {k:IntKind} {bytes:Nat}

theorem step_push {ops:Array Oper} {o:Oper} {a:Act} {w:World} {K:Act→World→Prop} {Q:Exit→Act→World→Prop} {E:Prop} (T:IntElem P t e k bytes) (hgd:o.guard=none) (s x:Operand)
  (ho:o.op=.call { callee:=.builtin .append,args:=#[s,x],argTypes:=#[t,t] })
  (base:Nat) (A:Option Addr) (n c:Nat) (l:List Int) (hs:a.eval s=.slice A n c) (hown:Own w base e k A n c l) (g:Nat) (y:Int)
  (hx:a.eval x=.slice (some ⟨g,0,none⟩) 1 1) (hc:w.cell? ⟨g,0,none⟩=some (.int k y)) (h63:n≤1000000) (hbase:base≤w.heap.size)
  (h:∀ A' c' w',Own w' base e k A' (n + 1) c' (l ++ [y])→w.grownBy w' (Value.slice A n c).ownBlock→K (a.put o.dst (.slice A' (n + 1) c')) w') :
  if Region.wanted o (yielded ops a.tmps)=true then Oper.wp P o a w K Q else E:=by
 have hw:Region.wanted o (yielded ops a.tmps)=true:=by simp [Region.wanted,hgd]
 rw [if_pos hw]
 obtain ⟨i,hi,hz,hsz,hby⟩:=info_parts T.info
 have hsm:=T.small
 have h8:(n + 1) * bytes≤(n + 1) * 8:=Nat.mul_le_mul_left _ hsm
 refine wp_append_own w s x t ho base e i (.int k 0) 1 bytes T.ht hi hz hsz hby rfl (by decide) (.slice A n c) n _ hs hown.2 ⟨g,0,none⟩ 1 1 [.int k y] hx rfl ?_ (by simp [Value.oneCell'])
  (by simp only [maxLen]; omega) (by omega) hbase ?_
 ·intro j u hu
  cases j with
  | zero =>
   have e1:Value.int k y=u:=by simpa using hu
   rw [← e1,← hc]
   simp [Addr.add]
  | succ j=>simp at hu
 ·intro v' w' h1 h2 _
  have h3:w'.ownsRow base e 1 v' (n + 1) ((l ++ [y]).map (Value.int k)):=by simpa using h1
  have h4:∃ A' c',v'=.slice A' (n + 1) c':=by
   rcases h3.2 with ⟨_,hn⟩ | ⟨g,cap,cur,hv,_⟩
   ·simp at hn
   ·exact ⟨_,_,hv⟩
  obtain ⟨A',c',rfl⟩:=h4
  exact h A' c' w' ⟨by simp [hown.1],h3⟩ h2
end

def strLen:Value→Nat | .string S=>S.size | _=>0

def mag (z:Int):ByteArray:=⟨(mdig z).toArray⟩

theorem cut_canon (z:Int) (w:World) :
  Calls Tryz.prog 86 #[.string (canon z),.string ⟨#[45]⟩] w fun e w'=>e=.returned (.tuple #[.string (mag z),.bool (decide (z < 0))])∧w=w':=by
 refine (Tryz.strings_CutPrefix (canon z) ⟨#[45]⟩ w).mono ?_
 rintro e w' ⟨rfl,rfl⟩
 have h:=trim_minus z
 have h1:(canon z).data.toList=Lib.itoa z:=rfl
 rw [h1]
 have h2:(⟨#[45]⟩:ByteArray).data.toList=[45]:=rfl
 rw [h2,h.1,h.2]
 exact ⟨rfl,rfl⟩

theorem parseU_any (s:ByteArray) (hs:s.size≤19) (hne:s.data.toList ≠ []) (hd:AllDig s.data.toList) (w:World) :
  Calls Tryz.prog 102 #[.string s,.int .i64 10,.int .i64 64] w fun e w'=>e=.returned (.tuple #[.int .u64 (dval s.data.toList),.nilIface])∧Below w.heap.size w w':=by
 refine (Tryz.strconv_ParseUint_10_at64_ok s (by omega) _ (parseU64_digits hne hd (by rw [← Lib.size_eq]; exact hs)) w).mono ?_
 rintro e w' ⟨rfl,rfl | rfl⟩
 ·exact ⟨rfl,Below.refl _ _⟩
 ·exact ⟨rfl,Lib.bytesWorld_below w _ s⟩

def OpenInv (D:List UInt8) (S:ByteArray) (j:Nat) (p:List Int):Prop :=
 S.data.toList=D.take S.size∧S.size=D.length - 9 * j∧Digs 1000000000 p∧p.length=j∧valB 1000000000 p=dval (D.drop S.size)

theorem open_start (z:Int):OpenInv (mdig z) (mag z) 0 []:=by
 have h:(mag z).size=(mdig z).length:=rfl
 refine ⟨?_,by rw [h]; omega,Digs.nil,rfl,?_⟩
 ·rw [h,List.take_length]; rfl
 ·rw [h,List.drop_length]; rfl

theorem open_piece {D:List UInt8} {S:ByteArray} {j:Nat} {p:List Int} (h:OpenInv D S j p) (hd:AllDig D) (hp:0 < S.size) :
  (S.extract (S.size - 9) S.size).size≤9∧(S.extract (S.size - 9) S.size).data.toList ≠ []∧AllDig (S.extract (S.size - 9) S.size).data.toList∧dval (S.extract (S.size - 9) S.size).data.toList < 1000000000:=by
 obtain ⟨h1,h2,_⟩:=h
 have hl:S.data.toList.length=S.size:=(Lib.size_eq S).symm
 have hx:(S.extract (S.size - 9) S.size).data.toList=S.data.toList.drop (S.size - 9):=by
  rw [Lib.extract_data,List.take_of_length_le (by rw [List.length_drop,hl]; omega)]
 have hxl:(S.data.toList.drop (S.size - 9)).length≤9:=by rw [List.length_drop,hl]; omega
 have hxd:AllDig (S.data.toList.drop (S.size - 9)):=by rw [h1]; exact (hd.take _).drop _
 refine ⟨by rw [Lib.size_eq,hx]; exact hxl,?_,by rw [hx]; exact hxd,?_⟩
 ·rw [hx]
  intro hn
  have:=congrArg List.length hn
  rw [List.length_drop,hl] at this
  simp at this
  omega
 ·rw [hx]
  have h3:=dval_lt hxd
  have h4:10 ^ (S.data.toList.drop (S.size - 9)).length≤10 ^ 9:=Nat.pow_le_pow_right (by omega) hxl
  omega

theorem open_step {D:List UInt8} {S:ByteArray} {j:Nat} {p:List Int} (h:OpenInv D S j p) (hd:AllDig D) (hp:0 < S.size) :
  OpenInv D (S.extract 0 (S.size - 9)) (j + 1) (p ++ [(dval (S.extract (S.size - 9) S.size).data.toList:Int)]):=by
 have hpc:=open_piece h hd hp
 obtain ⟨h1,h2,h3,h4,h5⟩:=h
 have hl:S.data.toList.length=S.size:=(Lib.size_eq S).symm
 have hx:(S.extract (S.size - 9) S.size).data.toList=(D.take S.size).drop (S.size - 9):=by
  rw [Lib.extract_data,List.take_of_length_le (by rw [List.length_drop,hl]; omega),h1]
 have hs':(S.extract 0 (S.size - 9)).data.toList=D.take (S.size - 9):=by
  rw [Lib.extract_data,List.drop_zero,h1,List.take_take,Nat.min_eq_left (by omega)]
  rfl
 have hsz:(S.extract 0 (S.size - 9)).size=S.size - 9:=by
  rw [Lib.size_eq,hs',List.length_take]
  omega
 refine ⟨by rw [hsz]; exact hs',by rw [hsz]; omega,h3.snoc (by omega) (by omega),by simp [h4],?_⟩
 rw [valB_snoc,h5,h4,hsz,hx]
 have e:D.drop (S.size - 9)=(D.take S.size).drop (S.size - 9) ++ D.drop S.size:=by
  conv=>lhs; rw [← List.take_append_drop S.size D]
  rw [List.drop_append_of_le_length (by rw [List.length_take]; omega)]
 rw [e,dval_append]
 have hlen:(D.drop S.size).length=9 * j:=by rw [List.length_drop]; omega
 rw [hlen,Nat.pow_mul]
 generalize dval ((D.take S.size).drop (S.size - 9))=u
 generalize dval (D.drop S.size)=v
 have e2:((1000000000 ^ j:Nat):Int)=(1000000000:Int) ^ j:=by simp
 rw [show (10:Nat) ^ 9=1000000000 from rfl,← e2]
 generalize (1000000000:Nat) ^ j=q
 simp only [Int.natCast_add,Int.natCast_mul]
 rw [Int.add_comm,Int.mul_comm]

theorem open_end {z:Int} {S:ByteArray} {j:Nat} {p:List Int} (h:OpenInv (mdig z) S j p) (h0:S.size=0):Digs 1000000000 p∧valB 1000000000 p=(z.natAbs:Int):=by
 obtain ⟨h1,h2,h3,h4,h5⟩:=h
 rw [h0,List.drop_zero,mdig_val] at h5
 exact ⟨h3,h5⟩

set_option maxHeartbeats 2000000 in
theorem open_any (z:Int) (w:World) (hlen:(mag z).size≤60000) :
  Calls Tryz.prog 81 #[.string (canon z)] w fun e w'=>∃ A c,e=.returned (.agg #[.bool (decide (z < 0)),.slice A (lim9 z.natAbs).length c])∧Sl w' .u64 A c (lim9 z.natAbs)∧Below w.heap.size w w':=by
 have HD:Hid (AllDig (mdig z)):=mdig_all z
 have H0:Hid (OpenInv (mdig z) (mag z) 0 []):=open_start z
 have hmk:=run_mk0 Elem64 ((mag z).size / 9 + 1) (by omega) (((mag z).size:Int) / 9 + 1) (by omega)
 go_enter Tryz.func81, Tryz.ntmps81
 go_wp2_with (go_at_call 86; refine (cut_canon z _).mono ?_; rintro e w' ⟨rfl,rfl⟩)
 have hown0:Own ((w.alloc (.cells #[.bool false,.slice none 0 0] 143)).alloc (.cells (zrow .u64 ((mag z).size / 9 + 1)) 165)) (w.heap.size + 1) 165 .u64 (some ⟨w.heap.size + 1,0,none⟩) 0 ((mag z).size / 9 + 1) []:=by
  have:=Own.made (base:=w.heap.size + 1) (e := 165) (k:=.u64) (c:=(mag z).size / 9 + 1) (w.alloc (.cells #[.bool false,.slice none 0 0] 143)) (by simp) (by simp only [maxLen]; omega)
  rw [World.size_alloc] at this
  exact this
 have hblk0:((w.alloc (.cells #[.bool false,.slice none 0 0] 143)).alloc (.cells (zrow .u64 ((mag z).size / 9 + 1)) 165)).heap[w.heap.size]?=some (.cells #[.bool false,.slice none 0 0] 143 (0,0)):=by
  rw [Below.heap_alloc _ _ _ (by simp)]
  exact heap_alloc_new w _
 have hb0:Below w.heap.size w ((w.alloc (.cells #[.bool false,.slice none 0 0] 143)).alloc (.cells (zrow .u64 ((mag z).size / 9 + 1)) 165)):=((Below.refl _ _).alloc (Nat.le_refl _) _).alloc (by simp) _
 go_loopw [3,5] (fun sv pv wr=>∃ (S:ByteArray) (j:Nat) (p:List Int) (Ao:Option Addr) (co:Nat),sv=.string S∧pv=.slice Ao j co∧S.size≤60000∧j + S.size≤60000∧Own wr (w.heap.size + 1) 165 .u64 Ao j co p ∧
   wr.heap[w.heap.size]?=some (.cells #[.bool false,.slice none 0 0] 143 (0,0))∧Below w.heap.size w wr∧OpenInv (mdig z) S j p) (fun sv _ _=>strLen sv)
 case atStart=>exact ⟨mag z,0,[],_,_,rfl,rfl,hlen,by omega,hown0,hblk0,hb0,H0.out⟩
 case round =>
  clear hown0 hblk0 hb0 H0 hmk
  obtain ⟨S,j,p,Ao,co,rfl,rfl,hS,hj,hown,hblk,hbel,hinv⟩:=hrel
  have HI:=Lib.hid hinv
  have HO:=Lib.hid hown
  have HB:=Lib.hid hbel
  have HK:=Lib.hid hblk
  have hlt:=(Array.getElem?_eq_some_iff.1 hblk).1
  clear hinv hown hbel hblk
  rcases Nat.eq_zero_or_pos S.size with hz | hpos
  ·have hz1:¬ (0:Int) < (S.size:Int):=by omega
   have HE:=Lib.hid (open_end HI.out hz)
   have HZ:=Lib.hid hz
   clear hz
   have c0:wr.cell? ⟨w.heap.size,0,none⟩=some (.bool false):=by rw [Lib.cell_of_heap HK.out]; rfl
   have c1:wr.cell? ⟨w.heap.size,1,none⟩=some (.slice none 0 0):=by rw [Lib.cell_of_heap HK.out]; rfl
   have f0:=Lib.frozen_of_heap HK.out 0
   have f1:=Lib.frozen_of_heap HK.out 1
   go_wp2_with (go_at_call 103; refine (trim_to Ao co _ z.natAbs _ _ HO.out.sl HO.out.len (by omega) HE.out.1 HE.out.2).mono ?_; rintro e w'' ⟨rfl,rfl⟩)
   have r0:=World.cell?_setCell_same wr ⟨w.heap.size,0,none⟩ (.bool (decide (z < 0))) c0
   have c1':(wr.setCell ⟨w.heap.size,0,none⟩ (.bool (decide (z < 0)))).cell? ⟨w.heap.size,1,none⟩=some (.slice none 0 0):=by rw [World.cell?_setCell_other _ _ _ _ (by simp)]; exact c1
   have r1:=World.cell?_setCell_same (wr.setCell ⟨w.heap.size,0,none⟩ (.bool (decide (z < 0)))) ⟨w.heap.size,1,none⟩ (.slice Ao (lim9 z.natAbs).length co) c1'
   refine bodyPost_ret (v:=.agg #[.bool (decide (z < 0)),.slice Ao (lim9 z.natAbs).length co]) (by simp [results,Tryz.results81, go_sem,r0,r1]) rfl ⟨Ao,co,rfl,?_,?_⟩
   ·refine ((HO.out.grown (row:=some w.heap.size) (World.grownBy.trans (b:=wr.setCell ⟨w.heap.size,0,none⟩ (.bool (decide (z < 0)))) ?_ ?_) (.inr (fun g e=>by injection e with e; omega))).sl).to9 HE.out.1 HE.out.2
    ·exact ⟨rfl,rfl,rfl,by simp [World.setCell],fun k _ hk=>Below.heap_setCell _ _ _ _ (fun e=>hk (by simp [e]))⟩
    ·exact ⟨rfl,rfl,rfl,by simp [World.setCell],fun k _ hk=>Below.heap_setCell _ _ _ _ (fun e=>hk (by simp [e]))⟩
   ·exact (HB.out.setCell (p:=⟨w.heap.size,0,none⟩) (Nat.le_refl _) _).setCell (p:=⟨w.heap.size,1,none⟩) (Nat.le_refl _) _
  ·have hp1:(0:Int) < (S.size:Int):=by omega
   obtain ⟨kk,hkk⟩:∃ kk:Nat,S.size - 9=kk:=⟨_,rfl⟩
   have hmx:max ((S.size:Int) - 9) 0=(kk:Int):=by omega
   have hkl:kk≤S.size:=by omega
   have hkl2:kk < S.size:=by omega
   have hs:=open_step HI.out HD.out hpos
   obtain ⟨q1,q2,q3,q4⟩:=open_piece HI.out HD.out hpos
   rw [hkk] at hs q1 q2 q3 q4
   have HS:=Lib.hid hs
   have hpu:=fun W=>parseU_any (S.extract kk S.size) (by omega) q2 q3 W
   have hsz2:(S.extract 0 kk).size=kk:=by simp; omega
   have HZ2:=Lib.hid hsz2
   have HKK:=Lib.hid hkk
   generalize dval (S.extract kk S.size).data.toList=u at *
   have HP:=Lib.hid hpu
   clear hpu q1 q2 q3 hs hsz2 hkk
   go_wp2_with (go_at_call 102; refine (HP.out _).mono ?_; rintro e w1 ⟨rfl,hb1⟩; have HB1:=Lib.hid hb1; have hs1:=hb1.size; clear hb1)
   have hown1:=(HO.out.below HB1.out (Nat.le_refl _)).alloc (.cells #[.int .u64 (u:Int)] 165)
   have hcell1:(w1.alloc (.cells #[.int .u64 (u:Int)] 165)).cell? ⟨w1.heap.size,0,none⟩=some (.int .u64 (u:Int)):=by rw [World.cell?_alloc_at _ _ _ _ rfl]; rfl
   have HO1:=Lib.hid hown1
   have HC1:=Lib.hid hcell1
   clear hown1 hcell1
   go_region_law (refine step_push Elem64 rfl (.tmp 33) (.tmp 35) rfl (w.heap.size + 1) Ao j co p (by simp [Act.eval]) HO1.out w1.heap.size (u:Int) (by simp [Act.eval]) HC1.out (by omega) (by simp; omega) ?_; intro A' c' w2 hown2 hg2; have HO2:=Lib.hid hown2; have HG2:=Lib.hid hg2; clear hown2 hg2)
   simp only [Act.put,List.getElem_toArray,List.getElem_cons_succ,List.getElem_cons_zero,List.setIfInBounds_toArray,List.set_cons_succ,List.set_cons_zero]
   go_wp2
   go_roundw
   case rel =>
    refine ⟨S.extract 0 kk,j + 1,_,A',c',rfl,rfl,?_,?_,HO2.out,?_,?_,HS.out⟩
    ·rw [HZ2.out]; omega
    ·rw [HZ2.out]; omega
    ·refine (HG2.out.block _ (by simp; omega) (fun e=>?_)).trans ((Below.heap_alloc w1 _ _ (by omega)).trans ((HB1.out.block _ hlt).trans HK.out))
     have:=HO1.out.2.lt _ e.symm
     omega
    ·exact HO1.out.drew.grownBelow HG2.out ((HB.out.trans (HB1.out.mono (by omega))).alloc (by omega) _).drew (by omega) (by simp; omega)
   case measure=>simp only [strLen]; rw [HZ2.out]; omega

end Go.Proofs.YthhkmihjnnfpgaaGreatDoor

/- The walks of integer's small functions: quick, Of, Sign, Neg, Abs. -/
namespace Go.Proofs.YthhkmihjnnfpgaaGreatDoor
open Go.RowKit Go.Sort

theorem canon_data (z:Int):(canon z).data.toList=Lib.itoa z:=rfl
theorem canon_zero:canon 0=⟨#[48]⟩:=by
 have h:Lib.itoa 0=[48]:=(itoa_of_nat 0).trans (decDigits_lt 0 (by omega))
 unfold canon
 rw [h]
theorem canon_list (z:Int):(canon z).toList=Lib.itoa z:=by rw [ByteArray.toList_eq]; rfl
theorem canon_zero_list:(canon 0).toList=[48]:=by rw [canon_list]; exact (itoa_of_nat 0).trans (decDigits_lt 0 (by omega))
theorem canon_beq (a b:Int):((canon a).toList == (canon b).toList)=decide (a=b):=by
 rw [canon_list,canon_list]
 by_cases h:a=b
 ·subst h; simp
 ·have h2:Lib.itoa a ≠ Lib.itoa b:=fun e=>h (itoa_inj e)
  simp [h,h2]
theorem canon_beq0 (a:Int):((canon a).toList == [48])=decide (a=0):=by rw [← canon_zero_list]; exact canon_beq a 0
theorem canon_inj {a b:Int} (h:canon a=canon b):a=b:=by
 refine itoa_inj ?_
 rw [← canon_data a,← canon_data b,h]

theorem itoa_any (n:Int) (h0:-9223372036854775808≤n) (h1:n≤9223372036854775807) (w:World) (ht:Pow10 w) :
  Calls Tryz.prog 54 #[.int .i64 n] w fun e w'=>e=.returned (.string (canon n))∧Below w.heap.size w w':=by
 refine (Tryz.strconv_Itoa n h0 h1 w ht).mono ?_
 rintro e w' ⟨rfl,k,os,rfl⟩
 exact ⟨rfl,below_grow w (Nat.le_refl _) k os⟩

theorem of_any (n:Int) (h0:-9223372036854775808≤n) (h1:n≤9223372036854775807) (w:World) (ht:Pow10 w) :
  Calls Tryz.prog 20 #[.int .i64 n] w fun e w'=>e=.returned (.string (canon n))∧Below w.heap.size w w':=by
 have hi:=itoa_any n h0 h1 w ht
 have HI:=Lib.hid hi
 clear hi h0 h1
 go_enter Tryz.func20, Tryz.ntmps20
 go_wp2_with (go_at_call 54; refine HI.out.mono ?_; rintro e w' ⟨rfl,h1⟩; have H1:=Lib.hid h1; clear h1)
 go_ret
 exact ⟨rfl,H1.out⟩

theorem atoi_any (z:Int) (h:(canon z).size≤18) (w:World) :
  Calls Tryz.prog 101 #[.string (canon z)] w fun e w'=>e=.returned (.tuple #[.int .i64 z,.nilIface])∧Below w.heap.size w w':=by
 have h1:=itoa_len_small (z:=z) (k:=18) h
 refine (Tryz.strconv_Atoi_ok (canon z) (by omega) z (by rw [canon_data]; exact atoi_itoa z (by omega)) w).mono ?_
 rintro e w' ⟨rfl,rfl | ⟨t,rfl⟩⟩
 ·exact ⟨rfl,Below.refl _ _⟩
 ·exact ⟨rfl,Lib.bytesWorld_below w _ t⟩

set_option maxHeartbeats 400000 in
theorem quick_yes (z m:Int) (h:((canon z).size:Int)≤m) (hm:m≤18) (w:World) :
  Calls Tryz.prog 80 #[.string (canon z),.int .i64 m] w fun e w'=>e=.returned (.tuple #[.int .i64 z,.bool true])∧Below w.heap.size w w':=by
 have ha:=fun W=>atoi_any z (by omega) W
 have HA:=Lib.hid ha
 clear ha
 go_enter Tryz.func80, Tryz.ntmps80
 go_wp2_with (go_at_call 101; refine (HA.out _).mono ?_; rintro e w' ⟨rfl,h1⟩; have H1:=Lib.hid h1; clear h1)
 go_quiet (fail)
 go_wp2
 go_ret2
 exact ⟨rfl,H1.out.trans ((Drew.of _ _).below _)⟩

theorem quick_no (z m:Int) (h:m < ((canon z).size:Int)) (w:World) :
  Calls Tryz.prog 80 #[.string (canon z),.int .i64 m] w fun e w'=>e=.returned (.tuple #[.int .i64 0,.bool false])∧w=w':=by
 go_enter Tryz.func80, Tryz.ntmps80
 go_wp2
 go_ret2
 exact ⟨rfl,rfl⟩

theorem hasMinus (z:Int) (w:World) :
  Calls Tryz.prog 112 #[.string (canon z),.string ⟨#[45]⟩] w fun e w'=>e=.returned (.bool (decide (z < 0)))∧w=w':=by
 refine (Tryz.strings_HasPrefix (canon z) ⟨#[45]⟩ w).mono ?_
 rintro e w' ⟨rfl,rfl⟩
 have h:=trim_minus z
 rw [canon_data,show (⟨#[45]⟩:ByteArray).data.toList=[45] from rfl,h.2]
 exact ⟨rfl,rfl⟩

theorem trimMinus (z:Int) (w:World) :
  Calls Tryz.prog 95 #[.string (canon z),.string ⟨#[45]⟩] w fun e w'=>e=.returned (.string (mag z))∧w=w':=by
 refine (Tryz.strings_TrimPrefix (canon z) ⟨#[45]⟩ w).mono ?_
 rintro e w' ⟨rfl,rfl⟩
 have h:=trim_minus z
 rw [canon_data,show (⟨#[45]⟩:ByteArray).data.toList=[45] from rfl,h.1]
 exact ⟨rfl,rfl⟩

set_option maxHeartbeats 400000 in
theorem sign_any (z:Int) (w:World) :
  Calls Tryz.prog 89 #[.string (canon z)] w fun e w'=>e=.returned (.int .i64 z.sign)∧w=w':=by
 have hh:=fun W=>hasMinus z W
 have HH:=Lib.hid hh
 clear hh
 go_enter Tryz.func89, Tryz.ntmps89
 go_wp2_with (go_at_call 112; refine (HH.out _).mono ?_; rintro e w' ⟨rfl,rfl⟩)
 ·go_ret
  have hz:((canon z).toList == [48])=true:=by assumption
  have hz0:z=0:=by simpa [canon_beq0] using hz
  subst hz0
  exact ⟨rfl,rfl⟩
 ·go_ret
  have hlt:z < 0:=by assumption
  exact ⟨ret_i64 (Int.sign_eq_neg_one_of_neg hlt).symm,rfl⟩
 ·go_ret
  have hz:((canon z).toList == [48])=false:=by assumption
  have hle:0≤z:=by assumption
  have hne:z ≠ 0:=by
   simpa [canon_beq0] using hz
  exact ⟨ret_i64 (Int.sign_eq_one_of_pos (by omega)).symm,rfl⟩

end Go.Proofs.YthhkmihjnnfpgaaGreatDoor

/- Plain facts about texts of digits. No program in sight. -/
namespace Go.Proofs.YthhkmihjnnfpgaaGreatDoor
open Go.RowKit

def allDigB (t:List UInt8):Bool:=t.all fun c=>decide (48≤c.toNat) && decide (c.toNat≤57)
theorem allDigB_iff (t:List UInt8):allDigB t=true ↔ AllDig t:=by
 simp [allDigB,AllDig]

theorem pre_cons (c p:UInt8) (m:List UInt8):Lib.hasPrefix (c :: m) [p]=(p == c)∧Lib.trimPrefix (c :: m) [p]=if p=c then m else c :: m:=by
 have h:Lib.hasPrefix (c :: m) [p]=(p == c):=by simp [Lib.hasPrefix,List.isPrefixOf]
 refine ⟨h,?_⟩
 unfold Lib.trimPrefix
 rw [h]
 by_cases e:p=c <;> simp [e]

theorem minus_app (s:ByteArray):(⟨#[45]⟩:ByteArray) ++ s=⟨(45 :: s.data.toList).toArray⟩:=by
 apply ByteArray.ext
 simp [ByteArray.data_append]

theorem head_get (s:ByteArray) (h:0 < s.size):s.data.toList=s[0] :: s.data.toList.drop 1:=by
 have hl:s.data.toList.length=s.size:=(Lib.size_eq s).symm
 cases e:s.data.toList with
 | nil=>rw [e] at hl; simp at hl; omega
 | cons c l =>
  have:s[0]=c:=by
   have h1:s[0]=s.data.toList[0]'(by omega):=rfl
   rw [h1]; simp [e]
  rw [this]; rfl

theorem notDig_of_get (T:ByteArray) (k:Nat) (h:k < T.size) (hd:¬ (48≤T[k].toNat∧T[k].toNat≤57)):allDigB T.data.toList=false:=by
 cases e:allDigB T.data.toList with
 | false=>rfl
 | true=>exact absurd ((allDigB_iff _).1 e T[k] (List.getElem_mem (l:=T.data.toList) h)) hd

end Go.Proofs.YthhkmihjnnfpgaaGreatDoor

/- Plain facts about numerals: small ones written out, their sizes, zeros ahead of digits. No program in sight. -/
namespace Go.Proofs.YthhkmihjnnfpgaaGreatDoor
open Go.RowKit

theorem canon_dig (d:Nat) (h:d < 10):canon (d:Int)=⟨#[UInt8.ofNat (48 + d)]⟩:=by
 have e:Lib.itoa (d:Int)=[UInt8.ofNat (48 + d)]:=(itoa_of_nat d).trans (decDigits_lt d h)
 unfold canon
 rw [e]
theorem k_1:canon 1=⟨#[49]⟩:=canon_dig 1 (by omega)
theorem canon_size_lt (z:Int) (N:Nat) (h:z.natAbs < 10 ^ N) (h0:0 < N):(canon z).size≤N + 1:=by
 have h1:(mdig z).length≤N:=decDigits_len_le N z.natAbs h h0
 show (Lib.itoa z).length≤N + 1
 rcases itoa_cases z with ⟨_,e⟩ | ⟨_,e⟩
 ·rw [e]; omega
 ·rw [e,List.length_cons]; omega

end Go.Proofs.YthhkmihjnnfpgaaGreatDoor
