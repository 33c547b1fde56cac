/- The walks on magnitudes: trim, order, plus, minus, times; slices, builders, ranges. -/
import Derived.Test.YthhkmihjnnfpgaaGreatDoorProg
import Derived.Test.YthhkmihjnnfpgaaGreatDoorGPlain
import Derived.Laws.AppendOwnNone
import Derived.Laws.AppendOwn
import Derived.Deep.QuietTactic
import Derived.BigQuiet
import Derived.Handy
import Derived.StillTailTactics
import Derived.OrdersIn
import Derived.RangeFuncCalls
import Derived.TacticsIn
import Derived.WalkKit
import Derived.RangeFuncBox
import Derived.RangeFuncLeaves
import Derived.RangeFuncNested
import Derived.RangeFuncBound
import Derived.RangeFuncWrites
import Derived.Shelf.Abstract
import Derived.Shelf.RegionOpen
import Derived.OwnWalkIn
import Derived.TacticsInMore
import Derived.LoopNIn
import Derived.LoopIn
import Derived.Lib.Builder
import Derived.Lib.OthersKept
import Derived.Lib.FrozenHead
import Derived.Lib.FrozenHead2
import Derived.Lib.AppendStr
import Derived.Lib.UnsafeStr
import Derived.Lib.MakeNoZero
import Derived.Lib.Walk
import Derived.Lib.Strings
import Derived.Lib.Slices
import Derived.Laws.Externs
import Derived.Laws.IdiomCopy
import Derived.Laws.BitsLemmas
import Derived.Shelf.Strings.BuilderK
/- The walk of integer.trim: zeros at the end are left out, nothing is written. -/
namespace Go.Proofs.YthhkmihjnnfpgaaGreatDoor
set_option linter.all false
open Go.RowKit

set_option maxHeartbeats 400000 in
theorem trim_any (A:Option Addr) (c:Nat) (l:List Int) (w:World) (h:Sl w .u64 A c l) (hlen:l.length≤65536) :
  Calls Tryz.prog 103 #[.slice A l.length c] w fun e w'=>e=.returned (.slice A (trimL l).length c)∧w=w':=by
 have hcap:=h.cap
 go_enter Tryz.func103, Tryz.ntmps103
 go_wp2
 go_loop [0] (fun p=>∃ n:Nat,n≤l.length∧p=.slice A n c∧trimL (l.take n)=trimL l) (fun p=>lenOf p)
 case atStart=>exact ⟨l.length,Nat.le_refl _,rfl,by rw [List.take_length]⟩
 case round =>
  obtain ⟨n,hn,rfl,ht⟩:=hrel
  have HT:=Lib.hid ht
  clear ht
  rcases Nat.eq_zero_or_pos n with rfl | hpos
  ·go_wp2
   go_ret
   have h1:=HT.out
   rw [List.take_zero] at h1
   rw [← h1]
   exact ⟨rfl,rfl⟩
  ·obtain ⟨b,o,rfl,hb,hc⟩:=h.at_ (by omega)
   have hc1:=hc (n - 1) (by omega)
   clear hc h hb
   by_cases hz:l[n - 1]?.getD 0=0
   ·rw [hz] at hc1
    have Hz:=Lib.hid hz
    clear hz
    go_wp2
    go_round
    case rel =>
     refine ⟨n - 1,by omega,rfl,?_⟩
     rw [← HT.out,← trimL_of_zero l (n - 1) (by omega) Hz.out,show n - 1 + 1=n from by omega]
    case measure=>simp [lenOf]; omega
   ·have hT:trimL l=l.take n:=by
     rw [← HT.out]
     refine trimL_of_last _ (by simp; omega) ?_
     rw [List.getElem?_take,if_pos (by simp; omega)]
     simpa [Nat.min_eq_left hn] using hz
    have HL:Hid ((trimL l).length=n):=by rw [hT]; simp [Hid,Nat.min_eq_left hn]
    clear hT
    go_wp2
    go_ret
    rw [HL.out]
    exact ⟨rfl,rfl⟩

def lim9 (n:Nat):List Int:=lim 1000000000 n

theorem lim9_val (n:Nat):valB 1000000000 (lim9 n)=n:=lim_val 1000000000 (by omega) n
theorem lim9_digs (n:Nat):Digs 1000000000 (lim9 n):=lim_digs 1000000000 (by omega) n
theorem trim_eq9 (l:List Int) (n:Nat) (hd:Digs 1000000000 l) (hv:valB 1000000000 l=n):trimL l=lim9 n:=trim_eq_lim 1000000000 (by omega) l n hd hv
theorem at9 (n j:Nat):0≤(lim9 n)[j]?.getD 0∧(lim9 n)[j]?.getD 0 < 1000000000:=(lim9_digs n).at_ (by omega) j

theorem Elem64:IntElem Tryz.prog 141 165 .u64 8:=⟨Tryz.underlying141, by kernel_rfl,by omega⟩

theorem push64 {ops:Array Oper} {rest:List Oper} {o:Oper} {a:Act} {Q:Exit→Act→World→Prop} (hgd:o.guard=none) (s x:Operand)
  (ho:o.op=.call { callee:=.builtin .append,args:=#[s,x],argTypes:=#[141, 141] })
  (base:Nat) (A:Option Addr) (n c:Nat) (l:List Int) (W:World) (hs:a.eval s=.slice A n c) (hown:Own W base 165 .u64 A n c l) (y:Int)
  (hx:a.eval x=.slice (some ⟨W.heap.size,0,none⟩) 1 1) (h63:n≤1000000) (hbase:base≤W.heap.size)
  (h:∀ A' c' w',Own w' base 165 .u64 A' (n + 1) c' (l ++ [y])→W.grownBy w' (Value.slice A n c).ownBlock→wpList Tryz.prog ops Q rest (a.put o.dst (.slice A' (n + 1) c')) w') :
  wpList Tryz.prog ops Q (o :: rest) a (W.alloc (.cells #[.int .u64 y] 165)) :=
 wpList_push Elem64 hgd s x ho base A n c l W hs hown y hx h63 hbase h

theorem trim_to (A:Option Addr) (c n m:Nat) (l:List Int) (w:World) (h:Sl w .u64 A c l) (hn:l.length=n) (hlen:n≤65536) (hd:Digs 1000000000 l) (hv:valB 1000000000 l=m) :
  Calls Tryz.prog 103 #[.slice A n c] w fun e w'=>e=.returned (.slice A (lim9 m).length c)∧w=w':=by
 subst hn
 have h1:=trim_any A c l w h hlen
 rw [trim_eq9 l m hd hv] at h1
 exact h1

theorem Sl.to9 {w:World} {A:Option Addr} {c m:Nat} {l:List Int} (h:Sl w .u64 A c l) (hd:Digs 1000000000 l) (hv:valB 1000000000 l=m):Sl w .u64 A c (lim9 m):=by
 rw [← trim_eq9 l m hd hv]; exact h.trim

end Go.Proofs.YthhkmihjnnfpgaaGreatDoor

/- 'append([]T{y}, r...)': a number laid ahead of a slice of numbers. -/
namespace Go.Proofs.YthhkmihjnnfpgaaGreatDoor
open Go.RowKit

section
variable {P:Program} {t e:TypeId} {k:IntKind} {bytes:Nat}

theorem Own.one (W:World) (e:TypeId) (k:IntKind) (y:Int):Own (W.alloc (.cells #[.int k y] e)) W.heap.size e k (some ⟨W.heap.size,0,none⟩) 1 1 [y] :=
 ⟨rfl,rfl,.inr ⟨W.heap.size,1,#[.int k y],rfl,Nat.le_refl _,heap_alloc_new W _,Nat.le_refl _,by simp only [maxLen]; omega,rfl,rfl⟩⟩

theorem wpList_cons {ops:Array Oper} {rest:List Oper} {o:Oper} {a:Act} {Q:Exit→Act→World→Prop} (E:IntElem P t e k bytes) (hgd:o.guard=none) (s x:Operand)
  (ho:o.op=.call { callee:=.builtin .append,args:=#[s,x],argTypes:=#[t,t] })
  (W:World) (y:Int) (R:List Int) (Ar:Option Addr) (cr:Nat) (hs:a.eval s=.slice (some ⟨W.heap.size,0,none⟩) 1 1) (hx:a.eval x=.slice Ar R.length cr) (hr:Sl W k Ar cr R) (h0:Ar=none→cr=0) (hlen:R.length≤1000000)
  (h:∀ A' c' w',Own w' W.heap.size e k A' (R.length + 1) c' (y :: R)→Below W.heap.size W w'→wpList P ops Q rest (a.put o.dst (.slice A' (R.length + 1) c')) w') :
  wpList P ops Q (o :: rest) a (W.alloc (.cells #[.int k y] e)):=by
 obtain ⟨i,hi,hz,hsz,hby⟩:=info_parts E.info
 have hsm:=E.small
 have h8:(1 + R.length) * bytes≤(1 + R.length) * 8:=Nat.mul_le_mul_left _ hsm
 have hone:=Own.one W e k y
 have hbel:Below W.heap.size W (W.alloc (.cells #[.int k y] e)):=(Below.refl _ _).alloc (Nat.le_refl _) _
 have hr':=hr.below hbel
 cases Ar with
 | none =>
  have hc:=h0 rfl
  subst hc
  have hR:R=[]:=by
   have:=hr.cap
   exact List.length_eq_zero_iff.1 (by omega)
  subst hR
  refine wpList_append_own_none hgd s x t ho W.heap.size e i 1 E.ht hi _ 1 _ hs hone.2 hx ?_
  exact h _ _ _ hone hbel
 | some ad =>
  refine wpList_append_own _ hgd s x t ho W.heap.size e i (.int k 0) 1 bytes E.ht hi hz hsz hby rfl (by decide) _ 1 _ hs hone.2 ad R.length cr (R.map (Value.int k)) hx (by simp) ?_ (by simp [Value.oneCell'])
   (by simp only [maxLen]; omega) (by omega) (by simp) ?_
  ·intro j u hu
   have hj:j < R.length:=by
    have:=(List.getElem?_eq_some_iff.1 hu).1
    simpa using this
   obtain ⟨b,o',e',hb,hc⟩:=hr'.at_ (by omega)
   injection e' with e'
   subst e'
   have h1:=hc j hj
   simp only [List.getElem?_map,List.getElem?_eq_getElem hj,Option.map_some,Option.some.injEq] at hu
   rw [← hu]
   rw [List.getElem?_eq_getElem hj] at h1
   rcases Nat.eq_zero_or_pos j with h2 | h2
   ·subst h2
    simpa [Addr.add] using h1
   ·simpa [Addr.add,Nat.ne_of_gt h2] using h1
  ·intro v' w' h1 h2 _
   have h3:w'.ownsRow W.heap.size e 1 v' (R.length + 1) ((y :: R).map (Value.int k)):=by
    rw [Nat.add_comm]; simpa using h1
   have h4:∃ A' c',v'=.slice A' (R.length + 1) c':=by
    rcases h3.2 with ⟨_,hn⟩ | ⟨g,cap,cur,hv,_⟩
    ·simp at hn
    ·exact ⟨_,_,hv⟩
   obtain ⟨A',c',rfl⟩:=h4
   exact h A' c' w' ⟨by simp,h3⟩ (hone.grownBelow h2 hbel (Nat.le_refl _) (by simp))
end

theorem cons64 {ops:Array Oper} {rest:List Oper} {o:Oper} {a:Act} {Q:Exit→Act→World→Prop} (hgd:o.guard=none) (s x:Operand)
  (ho:o.op=.call { callee:=.builtin .append,args:=#[s,x],argTypes:=#[141, 141] })
  (W:World) (y:Int) (R:List Int) (Ar:Option Addr) (cr:Nat) (hs:a.eval s=.slice (some ⟨W.heap.size,0,none⟩) 1 1) (hx:a.eval x=.slice Ar R.length cr) (hr:Sl W .u64 Ar cr R) (h0:Ar=none→cr=0) (hlen:R.length≤1000000)
  (h:∀ A' c' w',Own w' W.heap.size 165 .u64 A' (R.length + 1) c' (y :: R)→Below W.heap.size W w'→wpList Tryz.prog ops Q rest (a.put o.dst (.slice A' (R.length + 1) c')) w') :
  wpList Tryz.prog ops Q (o :: rest) a (W.alloc (.cells #[.int .u64 y] 165)) :=
 wpList_cons Elem64 hgd s x ho W y R Ar cr hs hx hr h0 hlen h

end Go.Proofs.YthhkmihjnnfpgaaGreatDoor

/- The walk of integer.order: magnitudes are compared, nothing is written. -/
namespace Go.Proofs.YthhkmihjnnfpgaaGreatDoor
open Go.RowKit

def cmpN (a b:Nat):Int:=if a < b then -1 else if b < a then 1 else 0

theorem cmpN_lt {a b:Nat} (h:a < b):cmpN a b = -1:=by simp [cmpN,h]
theorem cmpN_gt {a b:Nat} (h:b < a):cmpN a b=1:=by simp [cmpN,h]; omega
theorem cmpN_eq (a:Nat):cmpN a a=0:=by simp [cmpN]

theorem ret_i64 {a b:Int} (h:a=b):Ending.returned (.int .i64 a)=.returned (.int .i64 b):=by rw [h]

theorem order_len_lt (a b:Nat) (h:(lim9 a).length < (lim9 b).length):cmpN a b = -1:=cmpN_lt (lim_len_lt _ (by omega) a b h)

theorem order_top (a b i:Nat) (hl:(lim9 a).length=(lim9 b).length) (hi:i < (lim9 a).length) (hs:(lim9 a).drop (i + 1)=(lim9 b).drop (i + 1))
  (hlt:(lim9 a)[i]?.getD 0 < (lim9 b)[i]?.getD 0):cmpN a b = -1:=by
 have h:=val_lt_of_top _ (by omega) (lim9 a) (lim9 b) (lim_digs 1000000000 (by omega) a) (lim_digs 1000000000 (by omega) b) hl i hi hs hlt
 unfold lim9 at h
 rw [lim_val 1000000000 (by omega),lim_val 1000000000 (by omega)] at h
 exact cmpN_lt (by omega)

theorem cmpN_flip {a b:Nat} (h:cmpN b a = -1):cmpN a b=1:=by
 unfold cmpN at *
 split at h
 ·simp [*]; omega
 ·split at h <;> omega

theorem order_all (a b:Nat) (hs:lim9 a=lim9 b):cmpN a b=0:=by
 rw [lim_inj _ (by omega) a b hs,cmpN_eq]

set_option maxHeartbeats 400000 in
theorem order_any (A A':Option Addr) (c c' a b:Nat) (w:World) (ha:Sl w .u64 A c (lim9 a)) (hb:Sl w .u64 A' c' (lim9 b)) (hla:(lim9 a).length≤65536) (_hlb:(lim9 b).length≤65536) :
  Calls Tryz.prog 84 #[.slice A (lim9 a).length c,.slice A' (lim9 b).length c'] w fun e w'=>e=.returned (.int .i64 (cmpN a b))∧Drew w w':=by
 by_cases hne:(lim9 a).length=(lim9 b).length
 ·have hx:∀ X Y:List Int,lim9 a=X→lim9 b=Y→Calls Tryz.prog 84 #[.slice A X.length c,.slice A' X.length c'] w fun e w'=>e=.returned (.int .i64 (cmpN a b))∧Drew w w':=by
   intro X Y hX hY
   rw [hX] at ha hla hne
   rw [hY] at hb hne
   have HX:=Lib.hid hX
   have HY:=Lib.hid hY
   have HN:=Lib.hid hne
   clear hX hY hne
   go_enter Tryz.func84, Tryz.ntmps84
   go_wp2
   go_loopw [5] (fun i wr=>∃ (k:Nat) (j:Int),k≤X.length∧j=k - 1∧i=.int .i64 j∧X.drop k=Y.drop k∧Drew w wr) (fun i _=>(intOf i + 1).toNat)
   case atStart=>exact ⟨X.length,_,Nat.le_refl _,rfl,rfl,by rw [List.drop_length,HN.out,List.drop_length],Drew.refl _⟩
   case round =>
    obtain ⟨k,j,hk,hj,rfl,hs,n,rfl⟩:=hrel
    have HS:=Lib.hid hs
    clear hs
    rcases Nat.eq_zero_or_pos k with rfl | hpos
    ·obtain rfl:j = -1:=by omega
     clear hj
     go_wp2
     go_ret
     have h0:=HS.out
     rw [List.drop_zero,List.drop_zero] at h0
     exact ⟨ret_i64 (order_all a b (by rw [HX.out,HY.out,h0])).symm,Drew.of _ _⟩
    ·obtain ⟨m,rfl⟩:∃ m,k=m + 1:=⟨k - 1,by omega⟩
     obtain rfl:j=(m:Int):=by omega
     clear hj
     obtain ⟨ba,oa,rfl,hba,hca⟩:=ha.at_ (by omega)
     obtain ⟨bb,ob,rfl,hbb,hcb⟩:=hb.at_ (by rw [← HN.out]; omega)
     have hm:m < X.length:=by omega
     have hm':m < Y.length:=by rw [← HN.out]; omega
     have ga:=hca m hm
     have gb:=hcb m hm'
     clear hca hcb ha hb
     have hcapa:X.length≤65536:=hla
     generalize hxx:X[m]?.getD 0=x at *
     generalize hyy:Y[m]?.getD 0=y at *
     have HXX:=Lib.hid hxx
     have HYY:=Lib.hid hyy
     clear hxx hyy
     rcases Int.lt_trichotomy x y with hlt | heq | hgt
     ·have t1:(x != y)=true:=by rw [bne_iff_ne]; omega
      go_wp2
      go_quiet (fail)
      go_wp2
      go_quiet (fail)
      go_wp2
      go_ret
      have hx2:=HX.out
      have hy2:=HY.out
      exact ⟨ret_i64 (order_top a b m (by rw [hx2,hy2]; exact HN.out) (by rw [hx2]; omega) (by rw [hx2,hy2]; exact HS.out) (by rw [hx2,hy2,HXX.out,HYY.out]; exact hlt)).symm,((Drew.of _ _).more _).more _⟩
     ·have t1:(x != y)=false:=by rw [heq]; simp
      have HE:=Lib.hid heq
      clear heq
      go_wp2
      go_quiet (fail)
      go_wp2
      go_roundw
      case rel=>exact ⟨m,_,by omega,rfl,rfl,by rw [drop_getD X m hm,drop_getD Y m hm',HS.out,HXX.out,HYY.out,HE.out],Drew.of _ _⟩
      case measure=>simp [intOf]
     ·have t1:(x != y)=true:=by rw [bne_iff_ne]; omega
      go_wp2
      go_quiet (fail)
      go_wp2
      go_quiet (fail)
      go_wp2
      go_ret
      have hx2:=HX.out
      have hy2:=HY.out
      exact ⟨ret_i64 (cmpN_flip (order_top b a m (by rw [hx2,hy2]; exact HN.out.symm) (by rw [hy2]; omega) (by rw [hx2,hy2]; exact HS.out.symm) (by rw [hx2,hy2,HXX.out,HYY.out]; exact hgt))).symm,((Drew.of _ _).more _).more _⟩
  have:=hx _ _ rfl rfl
  rw [← hne]
  exact this
 ·clear ha hb
  rcases Nat.lt_or_gt_of_ne hne with hlt | hgt
  ·have HR:=Lib.hid (order_len_lt a b hlt)
   have t1:(((lim9 a).length:Int) != ((lim9 b).length:Int))=true:=by rw [bne_iff_ne]; omega
   go_enter Tryz.func84, Tryz.ntmps84
   go_wp2
   go_ret
   exact ⟨ret_i64 HR.out.symm,Drew.refl _⟩
  ·have HR:=Lib.hid (cmpN_flip (order_len_lt b a hgt))
   have t1:(((lim9 a).length:Int) != ((lim9 b).length:Int))=true:=by rw [bne_iff_ne]; omega
   go_enter Tryz.func84, Tryz.ntmps84
   go_wp2
   go_ret
   exact ⟨ret_i64 HR.out.symm,Drew.refl _⟩

end Go.Proofs.YthhkmihjnnfpgaaGreatDoor

/- The walk of integer.plus: the sum of two magnitudes. -/
namespace Go.Proofs.YthhkmihjnnfpgaaGreatDoor
open Go.RowKit

def PlusInv (X Y:List Int) (j:Nat) (cv:Int) (out:List Int):Prop :=
 Digs 1000000000 out∧valB 1000000000 out + 1000000000 ^ j * cv=valB 1000000000 (X.take j) + valB 1000000000 (Y.take j)

theorem plus_start (X Y:List Int):PlusInv X Y 0 0 []:=⟨Digs.nil,by simp [valB]⟩

theorem valB_take_succ (B:Int) (l:List Int) (j:Nat) (hj:j < l.length):valB B (l.take (j + 1))=valB B (l.take j) + B ^ j * l[j]?.getD 0:=by
 rw [take_succ_getD l j hj,valB_snoc,List.length_take,Nat.min_eq_left (by omega)]

theorem valB_take_past (B:Int) (l:List Int) (j:Nat) (hj:l.length≤j):valB B (l.take j)=valB B l:=by
 rw [List.take_of_length_le hj]

theorem plus_step1 {X Y out:List Int} {j:Nat} {cv:Int} (hj:j < X.length) (hy:j < Y.length) (hl:out.length=j) (h:PlusInv X Y j cv out) :
  PlusInv X Y (j + 1) ((cv + X[j]?.getD 0 + Y[j]?.getD 0) / 1000000000) (out ++ [(cv + X[j]?.getD 0 + Y[j]?.getD 0) % 1000000000]):=by
 obtain ⟨hd,hv⟩:=h
 refine ⟨hd.snoc (by omega) (by omega),?_⟩
 rw [valB_snoc,hl,valB_take_succ _ X j hj,valB_take_succ _ Y j hy]
 generalize X[j]?.getD 0=x at *
 generalize Y[j]?.getD 0=y at *
 have h1:=Int.emod_add_mul_ediv (cv + x + y) 1000000000
 generalize (cv + x + y) % 1000000000=r at *
 generalize (cv + x + y) / 1000000000=q at *
 have h2:(1000000000:Int) ^ (j + 1)=1000000000 ^ j * 1000000000:=by grind
 rw [h2]
 generalize (1000000000:Int) ^ j=p at *
 grind

theorem plus_step2 {X Y out:List Int} {j:Nat} {cv:Int} (hj:j < X.length) (hy:Y.length≤j) (hl:out.length=j) (h:PlusInv X Y j cv out) :
  PlusInv X Y (j + 1) ((cv + X[j]?.getD 0) / 1000000000) (out ++ [(cv + X[j]?.getD 0) % 1000000000]):=by
 obtain ⟨hd,hv⟩:=h
 refine ⟨hd.snoc (by omega) (by omega),?_⟩
 rw [valB_take_past _ Y j hy] at hv
 rw [valB_snoc,hl,valB_take_succ _ X j hj,valB_take_past _ Y (j + 1) (by omega)]
 generalize X[j]?.getD 0=x at *
 have h1:=Int.emod_add_mul_ediv (cv + x) 1000000000
 generalize (cv + x) % 1000000000=r at *
 generalize (cv + x) / 1000000000=q at *
 have h2:(1000000000:Int) ^ (j + 1)=1000000000 ^ j * 1000000000:=by grind
 rw [h2]
 generalize (1000000000:Int) ^ j=p at *
 grind

theorem plus_end {a b:Nat} {out:List Int} {cv:Int} (hab:(lim9 b).length≤(lim9 a).length) (hl:out.length=(lim9 a).length) (h:PlusInv (lim9 a) (lim9 b) (lim9 a).length cv out) (h0:0≤cv) (h1:cv≤1) :
  Digs 1000000000 (out ++ [cv])∧valB 1000000000 (out ++ [cv])=((a + b:Nat):Int):=by
 obtain ⟨hd,hv⟩:=h
 refine ⟨hd.snoc h0 (by omega),?_⟩
 rw [valB_snoc,hl,hv,valB_take_past _ _ _ (Nat.le_refl _),valB_take_past _ _ _ hab,lim9_val,lim9_val]
 omega

set_option maxHeartbeats 1000000 in
theorem plus_ge (A1 A2:Option Addr) (c1 c2 x y:Nat) (w:World) (hx:Sl w .u64 A1 c1 (lim9 x)) (hy:Sl w .u64 A2 c2 (lim9 y)) (hlx:(lim9 x).length≤65000) (hxy:¬ (lim9 x).length < (lim9 y).length) :
  Calls Tryz.prog 82 #[.slice A1 (lim9 x).length c1,.slice A2 (lim9 y).length c2] w fun e w'=>∃ A c,e=.returned (.slice A (lim9 (x + y)).length c)∧Sl w' .u64 A c (lim9 (x + y))∧Below w.heap.size w w':=by
 have hle:(lim9 y).length≤(lim9 x).length:=by omega
 obtain ⟨X,hX⟩:∃ X:List Int,lim9 x=X:=⟨_,rfl⟩
 obtain ⟨Y,hY⟩:∃ Y:List Int,lim9 y=Y:=⟨_,rfl⟩
 have bX:∀ j:Nat,0≤X[j]?.getD 0∧X[j]?.getD 0 < 1000000000:=fun j=>by rw [← hX]; exact at9 x j
 have bY:∀ j:Nat,0≤Y[j]?.getD 0∧Y[j]?.getD 0 < 1000000000:=fun j=>by rw [← hY]; exact at9 y j
 have BX:=Lib.hid bX
 have BY:=Lib.hid bY
 rw [hX] at hx hlx hxy hle ⊢
 rw [hY] at hy hxy hle ⊢
 have HX:=Lib.hid hX
 have HY:=Lib.hid hY
 clear hX hY bX bY
 have hmk:=run_mk0 Elem64 (X.length + 1) (by omega) ((X.length:Int) + 1) (by omega)
 have hown0:Own (w.alloc (.cells (zrow .u64 (X.length + 1)) 165)) w.heap.size 165 .u64 (some ⟨w.heap.size,0,none⟩) 0 (X.length + 1) []:=Own.made w (Nat.le_refl _) (by simp only [maxLen]; omega)
 go_enter Tryz.func82, Tryz.ntmps82
 go_wp2
 go_loopw [5,6,22] (fun v cy i wr=>∃ (j:Nat) (cv:Int) (out:List Int) (Ao:Option Addr) (co:Nat),j≤X.length∧i=.int .i64 j∧cy=.int .u64 cv∧v=.slice Ao j co∧0≤cv∧cv≤1 ∧
   Own wr w.heap.size 165 .u64 Ao j co out∧Below w.heap.size w wr∧PlusInv X Y j cv out) (fun _ _ i _=>X.length - (intOf i).toNat)
 case atStart=>exact ⟨0,0,[],_,_,Nat.zero_le _,rfl,rfl,rfl,by omega,by omega,hown0,(Below.refl _ _).alloc (Nat.le_refl _) _,plus_start X Y⟩
 case round =>
  obtain ⟨j,cv,out,Ao,co,hj,rfl,rfl,rfl,h0,h1,hown,hbel,hinv⟩:=hrel
  have HI:=Lib.hid hinv
  have HO:=Lib.hid hown
  have HB:=Lib.hid hbel
  have hbs:=hbel.size
  clear hinv hown hbel hown0
  by_cases hlt:j < X.length
  ·have hx1:=hx.below HB.out
   have hy1:=hy.below HB.out
   obtain ⟨bx,ox,rfl,hbx,hcx⟩:=hx1.at_ (by omega)
   have gx:=hcx j hlt
   have bx1:=(BX.out j).1
   have bx2:=(BX.out j).2
   have by1:=(BY.out j).1
   have by2:=(BY.out j).2
   clear hcx hx1
   by_cases hly:j < Y.length
   ·obtain ⟨by_,oy,rfl,hby,hcy⟩:=hy1.at_ (by omega)
    have gy:=hcy j hly
    clear hcy hy1
    have HS:=Lib.hid (plus_step1 hlt hly HO.out.len HI.out)
    generalize hxx:X[j]?.getD 0=xx at *
    generalize hyy:Y[j]?.getD 0=yy at *
    clear hxx hyy hx hy
    go_wp2_with (at_builtin; refine push64 rfl (.tmp 40) (.tmp 43) rfl w.heap.size Ao j co out wr rfl HO.out ((cv + xx + yy) % 1000000000) rfl (by omega) hbs ?_; intro A' c' w' hown' hg'; have HO':=Lib.hid hown'; have HG':=Lib.hid hg'; clear hown' hg')
    go_roundw
    case rel=>exact ⟨j + 1,_,_,A',c',by omega,by go_num,rfl,rfl,by omega,by omega,HO'.out,HO.out.grownBelow HG'.out HB.out (Nat.le_refl _) hbs,HS.out⟩
    case measure=>simp [intOf]; omega
   ·have HS:=Lib.hid (plus_step2 hlt (by omega) HO.out.len HI.out)
    generalize hxx:X[j]?.getD 0=xx at *
    clear hxx hx hy hy1
    go_wp2_with (at_builtin; refine push64 rfl (.tmp 40) (.tmp 43) rfl w.heap.size Ao j co out wr rfl HO.out ((cv + xx) % 1000000000) rfl (by omega) hbs ?_; intro A' c' w' hown' hg'; have HO':=Lib.hid hown'; have HG':=Lib.hid hg'; clear hown' hg')
    go_roundw
    case rel=>exact ⟨j + 1,_,_,A',c',by omega,by go_num,rfl,rfl,by omega,by omega,HO'.out,HO.out.grownBelow HG'.out HB.out (Nat.le_refl _) hbs,HS.out⟩
    case measure=>simp [intOf]; omega
  ·obtain rfl:j=X.length:=by omega
   have HE:Hid (Digs 1000000000 (out ++ [cv])∧valB 1000000000 (out ++ [cv])=((x + y:Nat):Int)):=by
    have hX:=HX.out
    have hY:=HY.out
    subst hX hY
    exact plus_end hle HO.out.len HI.out h0 h1
   clear hx hy
   go_wp2_with (first
    | (at_builtin; refine push64 rfl (.tmp 48) (.tmp 50) rfl w.heap.size Ao X.length co out wr rfl HO.out cv rfl (by omega) hbs ?_; intro A' c' w' hown' hg'; have HO':=Lib.hid hown'; have HG':=Lib.hid hg'; clear hown' hg')
    | (go_at_call 103; refine (trim_to A' c' _ (x + y) _ _ HO'.out.sl HO'.out.len (by omega) HE.out.1 HE.out.2).mono ?_; rintro e w'' ⟨rfl,rfl⟩))
   go_ret
   exact ⟨A',c',rfl,HO'.out.sl.to9 HE.out.1 HE.out.2,HO.out.grownBelow HG'.out HB.out (Nat.le_refl _) hbs⟩

set_option maxHeartbeats 1000000 in
theorem plus_lt (A1 A2:Option Addr) (c1 c2 x y:Nat) (w:World) (hx:Sl w .u64 A1 c1 (lim9 x)) (hy:Sl w .u64 A2 c2 (lim9 y)) (hlx:(lim9 x).length≤65000) (hxy:(lim9 y).length < (lim9 x).length) :
  Calls Tryz.prog 82 #[.slice A2 (lim9 y).length c2,.slice A1 (lim9 x).length c1] w fun e w'=>∃ A c,e=.returned (.slice A (lim9 (x + y)).length c)∧Sl w' .u64 A c (lim9 (x + y))∧Below w.heap.size w w':=by
 have hle:(lim9 y).length≤(lim9 x).length:=by omega
 obtain ⟨X,hX⟩:∃ X:List Int,lim9 x=X:=⟨_,rfl⟩
 obtain ⟨Y,hY⟩:∃ Y:List Int,lim9 y=Y:=⟨_,rfl⟩
 have bX:∀ j:Nat,0≤X[j]?.getD 0∧X[j]?.getD 0 < 1000000000:=fun j=>by rw [← hX]; exact at9 x j
 have bY:∀ j:Nat,0≤Y[j]?.getD 0∧Y[j]?.getD 0 < 1000000000:=fun j=>by rw [← hY]; exact at9 y j
 have BX:=Lib.hid bX
 have BY:=Lib.hid bY
 rw [hX] at hx hlx hxy hle ⊢
 rw [hY] at hy hxy hle ⊢
 have HX:=Lib.hid hX
 have HY:=Lib.hid hY
 clear hX hY bX bY
 have hmk:=run_mk0 Elem64 (X.length + 1) (by omega) ((X.length:Int) + 1) (by omega)
 have hown0:Own (w.alloc (.cells (zrow .u64 (X.length + 1)) 165)) w.heap.size 165 .u64 (some ⟨w.heap.size,0,none⟩) 0 (X.length + 1) []:=Own.made w (Nat.le_refl _) (by simp only [maxLen]; omega)
 go_enter Tryz.func82, Tryz.ntmps82
 go_wp2
 go_loopw [5,6,22] (fun v cy i wr=>∃ (j:Nat) (cv:Int) (out:List Int) (Ao:Option Addr) (co:Nat),j≤X.length∧i=.int .i64 j∧cy=.int .u64 cv∧v=.slice Ao j co∧0≤cv∧cv≤1 ∧
   Own wr w.heap.size 165 .u64 Ao j co out∧Below w.heap.size w wr∧PlusInv X Y j cv out) (fun _ _ i _=>X.length - (intOf i).toNat)
 case atStart=>exact ⟨0,0,[],_,_,Nat.zero_le _,rfl,rfl,rfl,by omega,by omega,hown0,(Below.refl _ _).alloc (Nat.le_refl _) _,plus_start X Y⟩
 case round =>
  obtain ⟨j,cv,out,Ao,co,hj,rfl,rfl,rfl,h0,h1,hown,hbel,hinv⟩:=hrel
  have HI:=Lib.hid hinv
  have HO:=Lib.hid hown
  have HB:=Lib.hid hbel
  have hbs:=hbel.size
  clear hinv hown hbel hown0
  by_cases hlt:j < X.length
  ·have hx1:=hx.below HB.out
   have hy1:=hy.below HB.out
   obtain ⟨bx,ox,rfl,hbx,hcx⟩:=hx1.at_ (by omega)
   have gx:=hcx j hlt
   have bx1:=(BX.out j).1
   have bx2:=(BX.out j).2
   have by1:=(BY.out j).1
   have by2:=(BY.out j).2
   clear hcx hx1
   by_cases hly:j < Y.length
   ·obtain ⟨by_,oy,rfl,hby,hcy⟩:=hy1.at_ (by omega)
    have gy:=hcy j hly
    clear hcy hy1
    have HS:=Lib.hid (plus_step1 hlt hly HO.out.len HI.out)
    generalize hxx:X[j]?.getD 0=xx at *
    generalize hyy:Y[j]?.getD 0=yy at *
    clear hxx hyy hx hy
    go_wp2_with (at_builtin; refine push64 rfl (.tmp 40) (.tmp 43) rfl w.heap.size Ao j co out wr rfl HO.out ((cv + xx + yy) % 1000000000) rfl (by omega) hbs ?_; intro A' c' w' hown' hg'; have HO':=Lib.hid hown'; have HG':=Lib.hid hg'; clear hown' hg')
    go_roundw
    case rel=>exact ⟨j + 1,_,_,A',c',by omega,by go_num,rfl,rfl,by omega,by omega,HO'.out,HO.out.grownBelow HG'.out HB.out (Nat.le_refl _) hbs,HS.out⟩
    case measure=>simp [intOf]; omega
   ·have HS:=Lib.hid (plus_step2 hlt (by omega) HO.out.len HI.out)
    generalize hxx:X[j]?.getD 0=xx at *
    clear hxx hx hy hy1
    go_wp2_with (at_builtin; refine push64 rfl (.tmp 40) (.tmp 43) rfl w.heap.size Ao j co out wr rfl HO.out ((cv + xx) % 1000000000) rfl (by omega) hbs ?_; intro A' c' w' hown' hg'; have HO':=Lib.hid hown'; have HG':=Lib.hid hg'; clear hown' hg')
    go_roundw
    case rel=>exact ⟨j + 1,_,_,A',c',by omega,by go_num,rfl,rfl,by omega,by omega,HO'.out,HO.out.grownBelow HG'.out HB.out (Nat.le_refl _) hbs,HS.out⟩
    case measure=>simp [intOf]; omega
  ·obtain rfl:j=X.length:=by omega
   have HE:Hid (Digs 1000000000 (out ++ [cv])∧valB 1000000000 (out ++ [cv])=((x + y:Nat):Int)):=by
    have hX:=HX.out
    have hY:=HY.out
    subst hX hY
    exact plus_end hle HO.out.len HI.out h0 h1
   clear hx hy
   go_wp2_with (first
    | (at_builtin; refine push64 rfl (.tmp 48) (.tmp 50) rfl w.heap.size Ao X.length co out wr rfl HO.out cv rfl (by omega) hbs ?_; intro A' c' w' hown' hg'; have HO':=Lib.hid hown'; have HG':=Lib.hid hg'; clear hown' hg')
    | (go_at_call 103; refine (trim_to A' c' _ (x + y) _ _ HO'.out.sl HO'.out.len (by omega) HE.out.1 HE.out.2).mono ?_; rintro e w'' ⟨rfl,rfl⟩))
   go_ret
   exact ⟨A',c',rfl,HO'.out.sl.to9 HE.out.1 HE.out.2,HO.out.grownBelow HG'.out HB.out (Nat.le_refl _) hbs⟩

theorem plus_any (A A':Option Addr) (c c' a b:Nat) (w:World) (ha:Sl w .u64 A c (lim9 a)) (hb:Sl w .u64 A' c' (lim9 b)) (hla:(lim9 a).length≤65000) (hlb:(lim9 b).length≤65000) :
  Calls Tryz.prog 82 #[.slice A (lim9 a).length c,.slice A' (lim9 b).length c'] w fun e w'=>∃ A c,e=.returned (.slice A (lim9 (a + b)).length c)∧Sl w' .u64 A c (lim9 (a + b))∧Below w.heap.size w w':=by
 by_cases h:(lim9 a).length < (lim9 b).length
 ·rw [Nat.add_comm a b]
  exact plus_lt A' A c' c b a w hb ha hlb h
 ·exact plus_ge A A' c c' a b w ha hb hla h

end Go.Proofs.YthhkmihjnnfpgaaGreatDoor

/- The walk of integer.minus: the difference of two magnitudes, of which the first one is not less. -/
namespace Go.Proofs.YthhkmihjnnfpgaaGreatDoor
open Go.RowKit

def MinusInv (X Y:List Int) (j:Nat) (bv:Int) (out:List Int):Prop :=
 Digs 1000000000 out∧valB 1000000000 out - 1000000000 ^ j * bv=valB 1000000000 (X.take j) - valB 1000000000 (Y.take j)

theorem minus_start (X Y:List Int):MinusInv X Y 0 0 []:=⟨Digs.nil,by simp [valB]⟩

theorem minus_step {X Y out:List Int} {j:Nat} {bv nb d y:Int} (hj:j < X.length) (hl:out.length=j) (h:MinusInv X Y j bv out)
  (hy:valB 1000000000 (Y.take (j + 1))=valB 1000000000 (Y.take j) + 1000000000 ^ j * y) (he:d=X[j]?.getD 0 - (bv + y) + 1000000000 * nb) (h0:0≤d) (h1:d < 1000000000) :
  MinusInv X Y (j + 1) nb (out ++ [d]):=by
 obtain ⟨hd,hv⟩:=h
 refine ⟨hd.snoc h0 h1,?_⟩
 rw [valB_snoc,hl,valB_take_succ _ X j hj,hy]
 generalize X[j]?.getD 0=x at *
 have h2:(1000000000:Int) ^ (j + 1)=1000000000 ^ j * 1000000000:=by grind
 rw [h2]
 generalize (1000000000:Int) ^ j=p at *
 subst he
 grind

theorem minus_in {Y:List Int} {j:Nat} (hj:j < Y.length):valB 1000000000 (Y.take (j + 1))=valB 1000000000 (Y.take j) + 1000000000 ^ j * Y[j]?.getD 0:=valB_take_succ _ Y j hj
theorem minus_past {Y:List Int} {j:Nat} (hj:Y.length≤j):valB 1000000000 (Y.take (j + 1))=valB 1000000000 (Y.take j) + 1000000000 ^ j * 0:=by
 rw [valB_take_past _ Y j hj,valB_take_past _ Y (j + 1) (by omega)]; simp

theorem minus_end {a b:Nat} {out:List Int} {bv:Int} (hab:b≤a) (hl:out.length=(lim9 a).length) (h:MinusInv (lim9 a) (lim9 b) (lim9 a).length bv out) (h0:0≤bv) (h1:bv≤1) :
  Digs 1000000000 out∧valB 1000000000 out=((a - b:Nat):Int):=by
 obtain ⟨hd,hv⟩:=h
 refine ⟨hd,?_⟩
 have h2:(lim9 b).length≤(lim9 a).length:=lim_len_mono 1000000000 (by omega) b a hab
 rw [valB_take_past _ _ _ (Nat.le_refl _),valB_take_past _ _ _ h2,lim9_val,lim9_val] at hv
 have h3:=hd.val_lt (by omega)
 rw [hl] at h3
 have h4:bv=0 ∨ bv=1:=by omega
 rcases h4 with rfl | rfl
 ·simp at hv; omega
 ·rw [Int.mul_one] at hv
  omega

set_option maxHeartbeats 1000000 in
theorem minus_own (A1 A2:Option Addr) (c1 c2 x y:Nat) (w:World) (hx:Sl w .u64 A1 c1 (lim9 x)) (hy:Sl w .u64 A2 c2 (lim9 y)) (hlx:(lim9 x).length≤65000) (hyx:y≤x) :
  Calls Tryz.prog 85 #[.slice A1 (lim9 x).length c1,.slice A2 (lim9 y).length c2] w fun e w'=>∃ A c,e=.returned (.slice A (lim9 (x - y)).length c)∧Sl w' .u64 A c (lim9 (x - y))∧Below w.heap.size w w'∧(∀ p:Addr,A=some p→w.heap.size≤p.block)∧(A=none→c=0):=by
 have hle:(lim9 y).length≤(lim9 x).length:=lim_len_mono 1000000000 (by omega) y x hyx
 obtain ⟨X,hX⟩:∃ X:List Int,lim9 x=X:=⟨_,rfl⟩
 obtain ⟨Y,hY⟩:∃ Y:List Int,lim9 y=Y:=⟨_,rfl⟩
 have bX:∀ j:Nat,0≤X[j]?.getD 0∧X[j]?.getD 0 < 1000000000:=fun j=>by rw [← hX]; exact at9 x j
 have bY:∀ j:Nat,0≤Y[j]?.getD 0∧Y[j]?.getD 0 < 1000000000:=fun j=>by rw [← hY]; exact at9 y j
 have BX:=Lib.hid bX
 have BY:=Lib.hid bY
 rw [hX] at hx hlx hle ⊢
 rw [hY] at hy hle ⊢
 have HX:=Lib.hid hX
 have HY:=Lib.hid hY
 have HYX:=Lib.hid hyx
 clear hX hY bX bY hyx
 have hmk:=run_mk0 Elem64 X.length (by omega) (X.length:Int) rfl
 have hown0:Own (w.alloc (.cells (zrow .u64 X.length) 165)) w.heap.size 165 .u64 (some ⟨w.heap.size,0,none⟩) 0 X.length []:=Own.made w (Nat.le_refl _) (by simp only [maxLen]; omega)
 go_enter Tryz.func85, Tryz.ntmps85
 go_wp2
 go_loopw [5,6,15] (fun v cy i wr=>∃ (j:Nat) (bv:Int) (out:List Int) (Ao:Option Addr) (co:Nat),j≤X.length∧i=.int .i64 j∧cy=.int .u64 bv∧v=.slice Ao j co∧0≤bv∧bv≤1 ∧
   Own wr w.heap.size 165 .u64 Ao j co out∧Below w.heap.size w wr∧MinusInv X Y j bv out) (fun _ _ i _=>X.length - (intOf i).toNat)
 case atStart=>exact ⟨0,0,[],_,_,Nat.zero_le _,rfl,rfl,rfl,by omega,by omega,hown0,(Below.refl _ _).alloc (Nat.le_refl _) _,minus_start X Y⟩
 case round =>
  obtain ⟨j,bv,out,Ao,co,hj,rfl,rfl,rfl,h0,h1,hown,hbel,hinv⟩:=hrel
  have HI:=Lib.hid hinv
  have HO:=Lib.hid hown
  have HB:=Lib.hid hbel
  have hbs:=hbel.size
  clear hinv hown hbel hown0
  by_cases hlt:j < X.length
  ·have hx1:=hx.below HB.out
   have hy1:=hy.below HB.out
   obtain ⟨bx,ox,rfl,hbx,hcx⟩:=hx1.at_ (by omega)
   have gx:=hcx j hlt
   have bx1:=(BX.out j).1
   have bx2:=(BX.out j).2
   have by1:=(BY.out j).1
   have by2:=(BY.out j).2
   clear hcx hx1
   generalize hxx:X[j]?.getD 0=xx at *
   have HXX:=Lib.hid hxx
   clear hxx hx hy
   by_cases hly:j < Y.length
   ·obtain ⟨by_,oy,rfl,hby,hcy⟩:=hy1.at_ (by omega)
    have gy:=hcy j hly
    clear hcy hy1
    generalize hyy:Y[j]?.getD 0=yy at *
    have HYY:=Lib.hid hyy
    clear hyy
    by_cases hbor:xx < bv + yy
    ·have HS:Hid (MinusInv X Y (j + 1) 1 (out ++ [xx + 1000000000 - (bv + yy)])):=minus_step hlt HO.out.len HI.out (minus_in hly) (by rw [HXX.out,HYY.out]; omega) (by omega) (by omega)
     go_wp2_with (at_builtin; refine push64 rfl (.tmp 36) (.tmp 40) rfl w.heap.size Ao j co out wr rfl HO.out (xx + 1000000000 - (bv + yy)) rfl (by omega) hbs ?_; intro A' c' w' hown' hg'; have HO':=Lib.hid hown'; have HG':=Lib.hid hg'; clear hown' hg')
     go_roundw
     case rel=>exact ⟨j + 1,_,_,A',c',by omega,by go_num,rfl,rfl,by omega,by omega,HO'.out,HO.out.grownBelow HG'.out HB.out (Nat.le_refl _) hbs,HS.out⟩
     case measure=>simp [intOf]; omega
    ·have HS:Hid (MinusInv X Y (j + 1) 0 (out ++ [xx - (bv + yy)])):=minus_step hlt HO.out.len HI.out (minus_in hly) (by rw [HXX.out,HYY.out]; omega) (by omega) (by omega)
     go_wp2_with (at_builtin; refine push64 rfl (.tmp 36) (.tmp 40) rfl w.heap.size Ao j co out wr rfl HO.out (xx - (bv + yy)) rfl (by omega) hbs ?_; intro A' c' w' hown' hg'; have HO':=Lib.hid hown'; have HG':=Lib.hid hg'; clear hown' hg')
     go_roundw
     case rel=>exact ⟨j + 1,_,_,A',c',by omega,by go_num,rfl,rfl,by omega,by omega,HO'.out,HO.out.grownBelow HG'.out HB.out (Nat.le_refl _) hbs,HS.out⟩
     case measure=>simp [intOf]; omega
   ·clear hy1
    by_cases hbor:xx < bv
    ·have HS:Hid (MinusInv X Y (j + 1) 1 (out ++ [xx + 1000000000 - bv])):=minus_step hlt HO.out.len HI.out (minus_past (by omega)) (by rw [HXX.out]; omega) (by omega) (by omega)
     go_wp2_with (at_builtin; refine push64 rfl (.tmp 36) (.tmp 40) rfl w.heap.size Ao j co out wr rfl HO.out (xx + 1000000000 - bv) rfl (by omega) hbs ?_; intro A' c' w' hown' hg'; have HO':=Lib.hid hown'; have HG':=Lib.hid hg'; clear hown' hg')
     go_roundw
     case rel=>exact ⟨j + 1,_,_,A',c',by omega,by go_num,rfl,rfl,by omega,by omega,HO'.out,HO.out.grownBelow HG'.out HB.out (Nat.le_refl _) hbs,HS.out⟩
     case measure=>simp [intOf]; omega
    ·have HS:Hid (MinusInv X Y (j + 1) 0 (out ++ [xx - bv])):=minus_step hlt HO.out.len HI.out (minus_past (by omega)) (by rw [HXX.out]; omega) (by omega) (by omega)
     go_wp2_with (at_builtin; refine push64 rfl (.tmp 36) (.tmp 40) rfl w.heap.size Ao j co out wr rfl HO.out (xx - bv) rfl (by omega) hbs ?_; intro A' c' w' hown' hg'; have HO':=Lib.hid hown'; have HG':=Lib.hid hg'; clear hown' hg')
     go_roundw
     case rel=>exact ⟨j + 1,_,_,A',c',by omega,by go_num,rfl,rfl,by omega,by omega,HO'.out,HO.out.grownBelow HG'.out HB.out (Nat.le_refl _) hbs,HS.out⟩
     case measure=>simp [intOf]; omega
  ·obtain rfl:j=X.length:=by omega
   have HE:Hid (Digs 1000000000 out∧valB 1000000000 out=((x - y:Nat):Int)):=by
    have hX:=HX.out
    have hY:=HY.out
    subst hX hY
    exact minus_end HYX.out HO.out.len HI.out h0 h1
   clear hx hy
   go_wp2_with (go_at_call 103; refine (trim_to Ao co _ (x - y) _ _ HO.out.sl HO.out.len (by omega) HE.out.1 HE.out.2).mono ?_; rintro e w'' ⟨rfl,rfl⟩)
   go_ret
   exact ⟨Ao,co,rfl,HO.out.sl.to9 HE.out.1 HE.out.2,HB.out,fun p hp=>by
    rcases HO.out.form with ⟨h1,_,_⟩ | ⟨g,cur,h1,h2,_⟩
    ·rw [h1] at hp; cases hp
    ·rw [h1] at hp; cases hp; exact h2,fun hp=>by
    rcases HO.out.form with ⟨_,_,h3⟩ | ⟨g,cur,h1,_⟩
    ·exact h3
    ·rw [h1] at hp; cases hp⟩

theorem minus_any (A1 A2:Option Addr) (c1 c2 x y:Nat) (w:World) (hx:Sl w .u64 A1 c1 (lim9 x)) (hy:Sl w .u64 A2 c2 (lim9 y)) (hlx:(lim9 x).length≤65000) (hyx:y≤x) :
  Calls Tryz.prog 85 #[.slice A1 (lim9 x).length c1,.slice A2 (lim9 y).length c2] w fun e w'=>∃ A c,e=.returned (.slice A (lim9 (x - y)).length c)∧Sl w' .u64 A c (lim9 (x - y))∧Below w.heap.size w w' :=
 (minus_own A1 A2 c1 c2 x y w hx hy hlx hyx).mono fun _ _ ⟨A,c,h1,h2,h3,_⟩=>⟨A,c,h1,h2,h3⟩

end Go.Proofs.YthhkmihjnnfpgaaGreatDoor

/- The walk of integer.times: the product of two magnitudes. -/
namespace Go.Proofs.YthhkmihjnnfpgaaGreatDoor
open Go.RowKit

theorem valB_set (B:Int):∀ (l:List Int) (i:Nat) (v:Int),i < l.length→valB B (l.set i v)=valB B l + B ^ i * (v - l[i]?.getD 0):=by
 intro l
 induction l with
 | nil=>intro i v h; simp at h
 | cons x l ih =>
  intro i v h
  cases i with
  | zero=>simp [valB]; omega
  | succ i =>
   have h1:=ih i v (by simpa using h)
   simp only [List.set_cons_succ,valB,h1,List.getElem?_cons_succ]
   grind

theorem pow_mono_int (a b:Nat) (h:a≤b):(1000000000:Int) ^ a≤1000000000 ^ b:=by
 obtain ⟨d,rfl⟩:∃ d,b=a + d:=⟨b - a,by omega⟩
 rw [Int.pow_add]
 have h1:(0:Int) < 1000000000 ^ d:=Int.pow_pos (by omega)
 have h2:(1000000000:Int) ^ a * 1≤1000000000 ^ a * 1000000000 ^ d:=Int.mul_le_mul_of_nonneg_left (by omega) (Int.le_of_lt (Int.pow_pos (by omega)))
 omega

theorem mul_lt_pow {x y p q:Int} (hx0:0≤x) (hx:x < p) (_hy0:0≤y) (hy:y < q):x * y < p * q:=by
 have h1:x * y≤x * q:=Int.mul_le_mul_of_nonneg_left (by omega) hx0
 have h2:x * q < p * q:=Int.mul_lt_mul_of_pos_right hx (by omega)
 omega

theorem mul_piece {x y:Int} (hx0:0≤x) (hx:x < 1000000000) (hy0:0≤y) (hy:y < 1000000000):0≤x * y∧x * y≤999999998000000001:=by
 have h1:x * y≤999999999 * y:=Int.mul_le_mul_of_nonneg_right (by omega) hy0
 exact ⟨Int.mul_nonneg hx0 hy0,by omega⟩

def TimesInv (X Y:List Int) (i:Nat) (out:List Int):Prop :=
 Digs 1000000000 out∧out.length=X.length + Y.length + 1∧valB 1000000000 out=valB 1000000000 (X.take i) * valB 1000000000 Y

def RowInv (X Y:List Int) (i k:Nat) (cv:Int) (out:List Int):Prop :=
 Digs 1000000000 out∧out.length=X.length + Y.length + 1∧0≤cv∧cv < 1000000000 ∧
 valB 1000000000 out + 1000000000 ^ (i + k) * cv=valB 1000000000 (X.take i) * valB 1000000000 Y + 1000000000 ^ i * (X[i]?.getD 0 * valB 1000000000 (Y.take k))

def CarryInv (X Y:List Int) (i k:Nat) (cv:Int) (out:List Int):Prop :=
 Digs 1000000000 out∧out.length=X.length + Y.length + 1∧0≤cv∧cv < 1000000000 ∧
 valB 1000000000 out + 1000000000 ^ k * cv=valB 1000000000 (X.take (i + 1)) * valB 1000000000 Y

theorem times_start (X Y:List Int):TimesInv X Y 0 (List.replicate (X.length + Y.length + 1) 0) :=
 ⟨Digs.zeros (by omega) _,by simp,by rw [valB_zeros]; simp [valB]⟩

theorem row_start {X Y out:List Int} {i:Nat} (h:TimesInv X Y i out):RowInv X Y i 0 0 out :=
 ⟨h.1,h.2.1,by omega,by omega,by rw [h.2.2]; simp [valB]⟩

theorem row_step {X Y out:List Int} {i k:Nat} {cv c2:Int} (hi:i < X.length) (hk:k < Y.length) (dX:Digs 1000000000 X) (dY:Digs 1000000000 Y) (h:RowInv X Y i k cv out)
  (hc:c2=cv + (out[i + k]?.getD 0 + X[i]?.getD 0 * Y[k]?.getD 0)):RowInv X Y i (k + 1) (c2 / 1000000000) (out.set (i + k) (c2 % 1000000000)):=by
 obtain ⟨hd,hl,h0,h1,hv⟩:=h
 have hx:=dX.at_ (by omega) i
 have hy:=dY.at_ (by omega) k
 have ho:=hd.at_ (by omega) (i + k)
 have hm:=mul_piece hx.1 hx.2 hy.1 hy.2
 refine ⟨hd.set _ (by omega) (by omega),by simpa using hl,by omega,by omega,?_⟩
 rw [valB_set _ _ _ _ (by omega),valB_take_succ _ Y k hk]
 generalize X[i]?.getD 0=x at *
 generalize Y[k]?.getD 0=y at *
 generalize out[i + k]?.getD 0=o at *
 have e1:=Int.emod_add_mul_ediv c2 1000000000
 generalize c2 % 1000000000=r at *
 generalize c2 / 1000000000=q at *
 have h2:(1000000000:Int) ^ (i + (k + 1))=1000000000 ^ i * 1000000000 ^ k * 1000000000:=by grind
 have h3:(1000000000:Int) ^ (i + k)=1000000000 ^ i * 1000000000 ^ k:=by grind
 rw [h3] at hv
 rw [h2,h3]
 generalize (1000000000:Int) ^ i=p at *
 generalize (1000000000:Int) ^ k=s at *
 grind

theorem row_end {X Y out:List Int} {i:Nat} {cv:Int} (hi:i < X.length) (h:RowInv X Y i Y.length cv out):CarryInv X Y i (i + Y.length) cv out:=by
 obtain ⟨hd,hl,h0,h1,hv⟩:=h
 refine ⟨hd,hl,h0,h1,?_⟩
 rw [hv,valB_take_succ _ X i hi,List.take_length]
 grind

theorem carry_room {X Y out:List Int} {i k:Nat} {cv:Int} (hi:i < X.length) (dX:Digs 1000000000 X) (dY:Digs 1000000000 Y) (h:CarryInv X Y i k cv out) (hc:0 < cv):k < X.length + Y.length:=by
 obtain ⟨hd,hl,h0,h1,hv⟩:=h
 rcases Nat.lt_or_ge k (X.length + Y.length) with h2 | h2
 ·exact h2
 ·exfalso
  have h3:=hd.val_nonneg (by omega)
  have h4:=mul_lt_pow ((dX.take (i + 1)).val_nonneg (by omega)) ((dX.take (i + 1)).val_lt (by omega)) (dY.val_nonneg (by omega)) (dY.val_lt (by omega))
  rw [← Int.pow_add,List.length_take,Nat.min_eq_left (by omega)] at h4
  have h5:(1000000000:Int) ^ (i + 1 + Y.length)≤1000000000 ^ k:=pow_mono_int _ _ (by omega)
  have h6:(1000000000:Int) ^ k * 1≤1000000000 ^ k * cv:=Int.mul_le_mul_of_nonneg_left (by omega) (Int.le_of_lt (Int.pow_pos (by omega)))
  omega

theorem carry_step {X Y out:List Int} {i k:Nat} {cv c2:Int} (hk:k < X.length + Y.length) (h:CarryInv X Y i k cv out)
  (hc:c2=cv + out[k]?.getD 0):CarryInv X Y i (k + 1) (c2 / 1000000000) (out.set k (c2 % 1000000000)):=by
 obtain ⟨hd,hl,h0,h1,hv⟩:=h
 have ho:=hd.at_ (by omega) k
 refine ⟨hd.set _ (by omega) (by omega),by simpa using hl,by omega,by omega,?_⟩
 rw [valB_set _ _ _ _ (by omega),← hv]
 generalize out[k]?.getD 0=o at *
 have e1:=Int.emod_add_mul_ediv c2 1000000000
 generalize c2 % 1000000000=r at *
 generalize c2 / 1000000000=q at *
 have h2:(1000000000:Int) ^ (k + 1)=1000000000 ^ k * 1000000000:=by grind
 rw [h2]
 generalize (1000000000:Int) ^ k=p at *
 grind

theorem carry_end {X Y out:List Int} {i k:Nat} (h:CarryInv X Y i k 0 out):TimesInv X Y (i + 1) out:=by
 obtain ⟨hd,hl,h0,h1,hv⟩:=h
 exact ⟨hd,hl,by simpa using hv⟩

theorem times_end {x y:Nat} {out:List Int} (h:TimesInv (lim9 x) (lim9 y) (lim9 x).length out):Digs 1000000000 out∧valB 1000000000 out=((x * y:Nat):Int):=by
 obtain ⟨hd,hl,hv⟩:=h
 refine ⟨hd,?_⟩
 rw [hv,List.take_length,lim9_val,lim9_val]
 simp

set_option maxHeartbeats 2000000 in
theorem times_any (A1 A2:Option Addr) (c1 c2 x y:Nat) (w:World) (hx:Sl w .u64 A1 c1 (lim9 x)) (hy:Sl w .u64 A2 c2 (lim9 y)) (hlx:(lim9 x).length≤30000) (hly:(lim9 y).length≤30000) :
  Calls Tryz.prog 94 #[.slice A1 (lim9 x).length c1,.slice A2 (lim9 y).length c2] w fun e w'=>∃ A c,e=.returned (.slice A (lim9 (x * y)).length c)∧Sl w' .u64 A c (lim9 (x * y))∧Below w.heap.size w w':=by
 obtain ⟨X,hX⟩:∃ X:List Int,lim9 x=X:=⟨_,rfl⟩
 obtain ⟨Y,hY⟩:∃ Y:List Int,lim9 y=Y:=⟨_,rfl⟩
 have DX:Hid (Digs 1000000000 X):=by rw [← hX]; exact lim9_digs x
 have DY:Hid (Digs 1000000000 Y):=by rw [← hY]; exact lim9_digs y
 rw [hX] at hx hlx ⊢
 rw [hY] at hy hly ⊢
 have HX:=Lib.hid hX
 have HY:=Lib.hid hY
 clear hX hY
 have hmk:=run_mkn Elem64 (X.length + Y.length + 1) (by omega) ((X.length:Int) + Y.length + 1) (by omega)
 have HT0:Hid (Tab (w.alloc (.cells (zrow .u64 (X.length + Y.length + 1)) 165)) w.heap.size 165 .u64 (List.replicate (X.length + Y.length + 1) 0)):=Tab.made w _ _ _
 go_enter Tryz.func94, Tryz.ntmps94
 go_wp2
 go_loopw [21] (fun i wr=>∃ (j:Nat) (out:List Int),j≤X.length∧i=.int .i64 j∧Tab wr w.heap.size 165 .u64 out∧Below w.heap.size w wr∧TimesInv X Y j out) (fun i _=>X.length - (intOf i).toNat)
 case atStart=>exact ⟨0,_,Nat.zero_le _,rfl,HT0.out,(Below.refl _ _).alloc (Nat.le_refl _) _,times_start X Y⟩
 case round =>
  obtain ⟨j,out,hj,rfl,htab,hbel,hinv⟩:=hrel
  have HI:=Lib.hid hinv
  have HT:=Lib.hid htab
  have HB:=Lib.hid hbel
  have hbs:=hbel.size
  clear hinv htab hbel
  by_cases hlt:j < X.length
  ·have hx1:=hx.below HB.out
   obtain ⟨bx,ox,rfl,hbx,hcx⟩:=hx1.at_ (by omega)
   have gx:=hcx j hlt
   have bx1:=(DX.out.at_ (by omega) j).1
   have bx2:=(DX.out.at_ (by omega) j).2
   clear hcx hx1
   generalize hxx:X[j]?.getD 0=xx at *
   have HXX:=Lib.hid hxx
   clear hxx
   go_wp2
   obtain ⟨wo,hwo⟩:∃ wo:World,wo=wr:=⟨_,rfl⟩
   rw [← hwo] at HB HT
   go_loopw [8,28] (fun cy i wr=>∃ (k:Nat) (cv:Int) (out:List Int),k≤Y.length∧i=.int .i64 k∧cy=.int .u64 cv∧Tab wr w.heap.size 165 .u64 out∧Below w.heap.size w wr∧RowInv X Y j k cv out) (fun _ i _=>Y.length - (intOf i).toNat)
   case atStart=>exact ⟨0,0,out,Nat.zero_le _,rfl,rfl,by rw [← hwo]; exact HT.out,by rw [← hwo]; exact HB.out,row_start HI.out⟩
   case round =>
    clear HT HB HI hwo hbx gx hbs
    obtain ⟨k,cv,out,hk,rfl,rfl,htab,hbel,hinv⟩:=hrel
    have HI:=Lib.hid hinv
    have HT:=Lib.hid htab
    have HB:=Lib.hid hbel
    have hbs:=hbel.size
    clear hinv htab hbel
    have hcv0:=HI.out.2.2.1
    have hcv1:=HI.out.2.2.2.1
    by_cases hlk:k < Y.length
    ·have hy1:=hy.below HB.out
     obtain ⟨by_,oy,rfl,hby,hcy⟩:=hy1.at_ (by omega)
     have gy:=hcy k hlk
     clear hcy hy1
     have by1:=(DY.out.at_ (by omega) k).1
     have by2:=(DY.out.at_ (by omega) k).2
     have bo1:=(HI.out.1.at_ (by omega) (j + k)).1
     have bo2:=(HI.out.1.at_ (by omega) (j + k)).2
     have go:=HT.out.cell (j + k) (by have:=HI.out.2.1; omega)
     have gf:=HT.out.frozen (j + k)
     have HS:=Lib.hid (row_step hlt hlk DX.out DY.out HI.out rfl)
     rw [HXX.out] at HS
     generalize hyy:Y[k]?.getD 0=yy at *
     generalize hoo:out[j + k]?.getD 0=oo at *
     clear hyy hoo
     have bm:=mul_piece bx1 bx2 by1 by2
     have bm1:=bm.1
     have bm2:=bm.2
     clear bm
     go_wp2
     go_roundw
     case rel=>exact ⟨k + 1,_,_,by omega,by go_num,rfl,HT.out.set _ _,HB.out.setCell (Nat.le_refl _) _,HS.out⟩
     case measure=>simp [intOf]; omega
    ·obtain rfl:k=Y.length:=by omega
     have hC:=Lib.hid (row_end hlt HI.out)
     clear HI
     obtain ⟨K,hK⟩:∃ K,K=j + Y.length:=⟨_,rfl⟩
     have eK:((j:Int) + (Y.length:Int))=(K:Int):=by omega
     have HK:=Lib.hid hK
     clear hK hy
     go_wp2
     clear eK
     obtain ⟨wo,hwo⟩:∃ wo:World,wo=wr:=⟨_,rfl⟩
     rw [← hwo] at HB HT
     go_loopw [8,11] (fun cy i wr=>∃ (k:Nat) (cv:Int) (out:List Int),k≤X.length + Y.length + 1∧i=.int .i64 k∧cy=.int .u64 cv∧Tab wr w.heap.size 165 .u64 out∧Below w.heap.size w wr∧CarryInv X Y j k cv out) (fun _ i _=>X.length + Y.length + 1 - (intOf i).toNat)
     case atStart=>exact ⟨K,cv,out,by have:=HK.out; omega,rfl,rfl,by rw [← hwo]; exact HT.out,by rw [← hwo]; exact HB.out,by rw [HK.out]; exact hC.out⟩
     case round =>
      clear HT HB hwo hbs hC hcv0 hcv1 HK
      obtain ⟨k,cv,out,hk,rfl,rfl,htab,hbel,hinv⟩:=hrel
      have HI:=Lib.hid hinv
      have HT:=Lib.hid htab
      have HB:=Lib.hid hbel
      have hbs:=hbel.size
      clear hinv htab hbel
      have hcv0:=HI.out.2.2.1
      have hcv1:=HI.out.2.2.2.1
      by_cases hc0:0 < cv
      ·have hroom:=carry_room hlt DX.out DY.out HI.out hc0
       have bo1:=(HI.out.1.at_ (by omega) k).1
       have bo2:=(HI.out.1.at_ (by omega) k).2
       have hol:Hid (out.length=X.length + Y.length + 1):=HI.out.2.1
       have go:=HT.out.cell k (by have:=hol.out; omega)
       have gf:=HT.out.frozen k
       have HS:=Lib.hid (carry_step hroom HI.out rfl)
       generalize hoo:out[k]?.getD 0=oo at *
       clear hoo
       go_wp2
       go_roundw
       case rel=>exact ⟨k + 1,_,_,by omega,by go_num,rfl,HT.out.set _ _,HB.out.setCell (Nat.le_refl _) _,HS.out⟩
       case measure=>simp [intOf]; omega
      ·obtain rfl:cv=0:=by omega
       have HE:=Lib.hid (carry_end HI.out)
       go_wp2
       go_roundw
       case rel=>exact ⟨j + 1,out,by omega,by go_num,HT.out,HB.out,HE.out⟩
       case measure=>simp [intOf]; omega
  ·obtain rfl:j=X.length:=by omega
   have HE:Hid (Digs 1000000000 out∧valB 1000000000 out=((x * y:Nat):Int)):=by
    have hX:=HX.out
    have hY:=HY.out
    subst hX hY
    exact times_end HI.out
   have HL:Hid (out.length=X.length + Y.length + 1):=HI.out.2.1
   clear hx hy
   go_wp2_with (go_at_call 103; refine (trim_to _ _ _ (x * y) out _ (HT.out.slN HL.out (by omega)) HL.out (by omega) HE.out.1 HE.out.2).mono ?_; rintro e w'' ⟨rfl,rfl⟩)
   go_ret
   exact ⟨_,_,rfl,(HT.out.slN HL.out (by omega)).to9 HE.out.1 HE.out.2,HB.out⟩

end Go.Proofs.YthhkmihjnnfpgaaGreatDoor

/- A region that draws its order, inside a round of a range over a function: walked by the plain words, in the wide fence. No program in sight. -/
namespace Go.Proofs.YthhkmihjnnfpgaaGreatDoor
open Go.RowKit

section
variable {P:Program} {ops:Array Oper} {Q:Exit→Act→World→Prop} {md:Region.Mode}

theorem rowsIn_round {l n:Nat} {row:String} {args:Array Value} {w:World} {R:Value→World→Prop} (h:Rows P row args w R):RowsIn (Fence.wide.inRound l) n P row args w R :=
 fun c cs _=>let ⟨v,w',r,s⟩:=h c cs; ⟨v,w',r,stepsIn_wide.2 s⟩

theorem opIn_of_op {l n:Nat} {o:Oper} {a:Act} {w:World} {K K':Act→World→Prop} (hnd:∀ c,o.op ≠ .defer c) (hK:∀ a w,K a w→K' a w) (h:o.wp P a w K Q):o.wpIn (Fence.wide.inRound l) n P a w K' Q:=by
 refine ⟨fun _ _=>trivial,?_⟩
 rw [show (Fence.wide.inRound l).round=some l from rfl,Oper.semAt_some l _ _ hnd]
 unfold Oper.wp at h
 generalize (execOp a.eval o).run P w=r at *
 have hdep:(Fence.wide.inRound l).depth.isSome=true→1≤n:=fun hd=>by cases hd
 cases r with
 | ok x w' =>
  cases x
  case value v=>exact hK _ _ h
  case skip=>exact hK _ _ h
  case defer d=>exact hK _ _ h
  case enter f args =>
   refine ⟨hdep,CallsIn.inRound l (callsIn_wide.2 (Calls.mono h ?_))⟩
   intro e w'' he
   cases e with
   | returned v=>exact hK _ _ he
   | panicked c=>exact he
   | outgrown=>exact he
  case row row args=>exact ⟨hdep,rowsIn_round (fun c cs=>let ⟨v,w',r,s⟩:=h c cs; ⟨v,w',hK _ _ r,s⟩)⟩
  all_goals exact h.elim
 | halt x w'=>cases x <;> exact h

def noDefer (ops:Array Oper):Bool:=ops.toList.all fun o=>match o.op with
 | .defer _=>false
 | _=>true

theorem noDefer_spec (h:noDefer ops=true) {i:Nat} {o:Oper} (ho:ops[i]?=some o):∀ c,o.op ≠ .defer c:=by
 intro c hc
 have hm:o ∈ ops.toList:=by
  rw [Array.mem_toList_iff]
  exact Array.mem_of_getElem? ho
 have:=List.all_eq_true.1 h o hm
 rw [hc] at this
 cases this

theorem anyIn_of_any {l n:Nat} (hd:noDefer ops=true) (hL:¬ LetsOut Q):∀ (fuel:Nat) (listed:Array Bool) (a:Act) (w:World),
  wpAny P md ops Q fuel listed a w→wpAnyIn (Fence.wide.inRound l) n P md ops Q fuel listed a w:=by
 intro fuel
 induction fuel with
 | zero=>intro listed a w h; exact h
 | succ fuel ih =>
  intro listed a w h
  refine ⟨h.1,fun i hi=>?_⟩
  have h2:=h.2 i hi
  unfold wpOp at h2
  unfold wpOpIn
  cases ho:ops[i]? with
  | none=>simp only [ho] at h2 ⊢; exact ih _ _ _ h2
  | some o =>
   simp only [ho] at h2 ⊢
   by_cases hw:Region.wanted o (yielded ops a.tmps)=true
   ·simp only [hw,if_true] at h2 ⊢
    rcases h2 with h2 | h2
    ·exact opIn_of_op (noDefer_spec hd ho) (fun a w=>ih _ a w) h2
    ·exact (hL h2.2).elim
   ·simp only [hw] at h2 ⊢
    exact ⟨fun _ _=>trivial,ih _ _ _ h2⟩

def OnlyN (Q:Exit→Act→World→Prop):Exit→Act→World→Prop
 | .normal,a,w=>Q .normal a w
 | _,_,_=>False

theorem onlyN_le:∀ (e:Exit) (a:Act) (w:World),OnlyN Q e a w→Q e a w
 | .normal,_,_,h=>h
 | .ret,_,_,h=>h.elim
 | .exit _,_,_,h=>h.elim
 | .goto _,_,_,h=>h.elim
 | .panic _,_,_,h=>h.elim
 | .outgrown,_,_,h=>h.elim
end

end Go.Proofs.YthhkmihjnnfpgaaGreatDoor

/- The statement 'q[i], rest = rest/b[0], rest%b[0]' of integer.divide, whatever its order: by an invariant over what has come up. -/
namespace Go.Proofs.YthhkmihjnnfpgaaGreatDoor
open Go.RowKit

section
variable {P:Program} {ops:Array Oper} {Q:Exit→Act→World→Prop} {md:Region.Mode}

def lacks (listed:Array Bool):Nat:=(listed.toList.filter (fun b=>!b)).length

theorem wpAny_inv (I:Array Bool→Act→World→Prop) (hs:∀ listed a w,I listed a w→listed.size=ops.size)
  (hstep:∀ listed a w,I listed a w→∀ i ∈ Region.ready md ops listed,wpOp P ops Q i (I (listed.setIfInBounds i true)) a w)
  (hdone:∀ listed a w,I listed a w→Region.ready md ops listed=[]→Q .normal a w) :
  ∀ (fuel:Nat) (listed:Array Bool) (a:Act) (w:World),I listed a w→lacks listed≤fuel→wpAny P md ops Q fuel listed a w:=by
 intro fuel
 induction fuel with
 | zero =>
  intro listed a w h hf
  have hr:Region.ready md ops listed=[]:=by
   cases hrd:Region.ready md ops listed with
   | nil=>rfl
   | cons i l =>
    exfalso
    have hi:i ∈ Region.ready md ops listed:=by rw [hrd]; simp
    obtain ⟨h0,oi,hoi,_⟩:=mem_ready.1 hi
    have hlt:i < listed.size:=by rw [hs _ _ _ h]; exact (Array.getElem?_eq_some_iff.1 hoi).1
    have hm:listed[i] ∈ listed.toList.filter (fun b=>!b):=by
     rw [List.mem_filter]
     refine ⟨Array.getElem_mem_toList hlt,?_⟩
     simp [hlt] at h0
     simp [h0]
    have:=List.length_pos_of_mem hm
    unfold lacks at hf
    omega
  exact ⟨hr,hdone _ _ _ h hr⟩
 | succ fuel ih =>
  intro listed a w h hf
  refine ⟨hdone _ _ _ h,fun i hi=>?_⟩
  obtain ⟨h0,oi,hoi,_⟩:=mem_ready.1 hi
  have hlt:i < listed.size:=by rw [hs _ _ _ h]; exact (Array.getElem?_eq_some_iff.1 hoi).1
  refine wpOp_mono (fun a' w' h'=>ih _ a' w' h' ?_) (hstep _ _ _ h i hi)
  have hb:listed[i]=false:=by simpa [hlt] using h0
  have hlt':i < listed.toList.length:=by simpa using hlt
  have e1:listed.toList=listed.toList.take i ++ false :: listed.toList.drop (i + 1):=by
   conv=>lhs; rw [← List.take_append_drop i listed.toList]
   rw [List.drop_eq_getElem_cons hlt']
   congr 2
  have e2:(listed.setIfInBounds i true).toList=listed.toList.take i ++ true :: listed.toList.drop (i + 1):=by
   rw [Array.toList_setIfInBounds,List.set_eq_take_append_cons_drop,if_pos hlt']
  unfold lacks at *
  rw [e2]
  rw [e1] at hf
  simp only [List.filter_append,List.length_append] at *
  simp at hf ⊢
  omega
end

def twoShape:List (Option Tmp × Op) :=
 [(some 33,.load 141 (.tmp 4)),(some 34,.move (.tmp 7)),(some 35,.load 165 (.tmp 6)),(some 36,.load 141 (.tmp 3)),(some 37,.indexAddr 141 (.tmp 36) (.const (.int .i64 0))),(some 38,.load 165 (.tmp 37)),
  (some 39,.binOp .quo 165 (.tmp 35) (.tmp 38) 165),(some 40,.load 165 (.tmp 6)),(some 41,.load 141 (.tmp 3)),(some 42,.indexAddr 141 (.tmp 41) (.const (.int .i64 0))),(some 43,.load 165 (.tmp 42)),
  (some 44,.binOp .rem 165 (.tmp 40) (.tmp 43) 165),(some 45,.indexAddr 141 (.tmp 33) (.tmp 34)),(none,.store 165 (.tmp 45) (.tmp 39)),(none,.store 165 (.tmp 6) (.tmp 44))]

def twoWaits (i:Nat):List Nat :=
 match i with
 | 4=>[3]
 | 5=>[4]
 | 6=>[2,5]
 | 9=>[8]
 | 10=>[9]
 | 11=>[7,10]
 | 12=>[0,1]
 | 13=>[0,1,2,3,4,5,6,12]
 | 14=>[0,1,2,3,4,5,6,7,8,9,10,11,12,13]
 | _=>[]

def twoOk (ops:Array Oper):Bool :=
 decide (ops.size=15) && (ops.toList.all fun o=>o.guard == none) && ((List.range 15).all fun i=>(twoWaits i).all fun d=>Region.waitsFor .any ops i d) && (List.range 15).all fun i=>match ops[i]? with
  | some o=>o.after.all fun e=>decide (e.on < i)
  | none=>false

def twoVals (q bb c':Nat) (ob L j:Nat) (rr b:Int):List Value :=
 [.slice (some ⟨q,0,none⟩) L L,.int .i64 (j:Int),.int .u64 rr,.slice (some ⟨bb,ob,none⟩) 1 c',.pointer (some ⟨bb,ob,none⟩),.int .u64 b,
  .int .u64 (rr / b),.int .u64 rr,.slice (some ⟨bb,ob,none⟩) 1 c',.pointer (some ⟨bb,ob,none⟩),.int .u64 b,.int .u64 (rr % b),.pointer (some ⟨q,j,none⟩)]

structure TwoI (ops:Array Oper) (W0:World) (T:Array Value) (V:List Value) (q r j:Nat) (x y:Int) (listed:Array Bool) (a:Act) (w:World):Prop where
 size:listed.size=15
 w0:listed.getD 13 false=false→w=W0
 w1:listed.getD 13 false=true→listed.getD 14 false=false→w=W0.setCell ⟨q,j,none⟩ (.int .u64 x)
 w2:listed.getD 14 false=true→w=(W0.setCell ⟨q,j,none⟩ (.int .u64 x)).setCell ⟨r,0,none⟩ (.int .u64 y)
 h14:listed.getD 14 false=true→∀ i,i < 15→listed.getD i false=true
 h13:listed.getD 14 false=true→listed.getD 13 false=true
 defs:a.defers=[]
 sz:a.tmps.size=T.size
 keep:∀ s,(s < 33 ∨ 45 < s)→a.tmps.getD s undef=T.getD s undef
 vals:∀ i,i < 13→listed.getD i false=true→a.tmps.getD (33 + i) undef=V.getD i undef

theorem getD_set_same' (listed:Array Bool) (i:Nat) (h:i < listed.size) (d:Bool):(listed.setIfInBounds i true).getD i d=true:=by
 simp [h]
theorem getD_set_other' (listed:Array Bool) (i j:Nat) (h:j ≠ i) (d:Bool):(listed.setIfInBounds i true).getD j d=listed.getD j d:=by
 simp [Array.getD_eq_getD_getElem?,Ne.symm h]

section
variable {ops:Array Oper} {W0:World} {T:Array Value} {V:List Value} {q r j:Nat} {x y:Int} {listed:Array Bool} {a:Act} {w:World}

theorem TwoI.yield (h:TwoI ops W0 T V q r j x y listed a w) {i:Nat} (hi:i < 13) (h0:listed.getD i true=false) (hT:46≤T.size) :
  TwoI ops W0 T V q r j x y (listed.setIfInBounds i true) (a.put (some (33 + i)) (V.getD i undef)) w:=by
 have hsz:=h.size
 have hl:i < listed.size:=by omega
 have g13:=getD_set_other' listed i 13 (by omega) false
 have g14:=getD_set_other' listed i 14 (by omega) false
 refine ⟨by simpa using hsz,by rw [g13]; exact h.w0,by rw [g13,g14]; exact h.w1,by rw [g14]; exact h.w2,?_,by rw [g13,g14]; exact h.h13,h.defs,?_,?_,?_⟩
 ·rw [g14]
  intro h14 k hk
  by_cases e:k=i
  ·subst e; exact getD_set_same' _ _ hl _
  ·rw [getD_set_other' _ _ _ e]; exact h.h14 h14 k hk
 ·simp [Act.put,h.sz]
 ·intro s hs
  rw [← h.keep s hs]
  simp only [Act.put,Array.getD_eq_getD_getElem?,Array.getElem?_setIfInBounds]
  rw [if_neg (by omega)]
 ·intro k hk hkl
  by_cases e:k=i
  ·subst e
   have:33 + k < a.tmps.size:=by rw [h.sz]; omega
   simp [Act.put,Array.getD_eq_getD_getElem?,this]
  ·rw [getD_set_other' _ _ _ e] at hkl
   rw [← h.vals k hk hkl]
   simp only [Act.put,Array.getD_eq_getD_getElem?,Array.getElem?_setIfInBounds]
   rw [if_neg (by omega)]
end

theorem wpOp_val {P:Program} {ops:Array Oper} {Q:Exit→Act→World→Prop} {i:Nat} {o:Oper} {K:Act→World→Prop} {a:Act} {w w':World} {v:Value} (ho:ops[i]?=some o) (hg:o.guard=none)
  (hrun:(execOp a.eval o).run P w=.ok (.value v) w') (hK:K (a.put o.dst v) w'):wpOp P ops Q i K a w:=by
 unfold wpOp
 rw [ho]
 simp only
 rw [if_pos (by simp [Region.wanted,hg])]
 left
 unfold Oper.wp
 rw [hrun]
 exact hK

theorem wpOp_skip {P:Program} {ops:Array Oper} {Q:Exit→Act→World→Prop} {i:Nat} {o:Oper} {K:Act→World→Prop} {a:Act} {w w':World} (ho:ops[i]?=some o) (hg:o.guard=none) (hd:o.dst=none)
  (hrun:(execOp a.eval o).run P w=.ok .skip w') (hK:K a w'):wpOp P ops Q i K a w:=by
 unfold wpOp
 rw [ho]
 simp only
 rw [if_pos (by simp [Region.wanted,hg])]
 left
 unfold Oper.wp
 rw [hrun]
 show K (a.put o.dst undef) w'
 rw [hd]
 exact hK

set_option maxHeartbeats 2000000 in
theorem two_region {ops:Array Oper} {Q:Exit→Act→World→Prop} (hshape:ops.toList.map (fun o=>(o.dst,o.op))=twoShape) (hok:twoOk ops=true) (T:Array Value) (W0:World) (pb pq q r bb ob c' L j:Nat) (rr b:Int) (old:Value)
  (hT:46≤T.size) (t3:T.getD 3 undef=.pointer (some ⟨pb,0,none⟩)) (t4:T.getD 4 undef=.pointer (some ⟨pq,0,none⟩)) (t6:T.getD 6 undef=.pointer (some ⟨r,0,none⟩)) (t7:T.getD 7 undef=.int .i64 (j:Int))
  (cb:W0.cell? ⟨pb,0,none⟩=some (.slice (some ⟨bb,ob,none⟩) 1 c')) (cq:W0.cell? ⟨pq,0,none⟩=some (.slice (some ⟨q,0,none⟩) L L)) (cr:W0.cell? ⟨r,0,none⟩=some (.int .u64 rr)) (fr:W0.frozen? ⟨r,0,none⟩=false)
  (cbb:W0.cell? ⟨bb,ob,none⟩=some (.int .u64 b)) (cj:W0.cell? ⟨q,j,none⟩=some old) (fj:W0.frozen? ⟨q,j,none⟩=false) (hj:j < L) (hb:0 < b) (hr0:0≤rr) (hr1:rr < 2000000000000000000) (hb1:b < 1000000000)
  (n1:q ≠ pb) (n2:q ≠ pq) (n3:q ≠ r) (n4:q ≠ bb)
  (hQ:∀ a,Q .normal a ((W0.setCell ⟨q,j,none⟩ (.int .u64 (rr / b))).setCell ⟨r,0,none⟩ (.int .u64 (rr % b)))) :
  wpAny Tryz.prog .any ops Q ops.size (Array.replicate ops.size false) { tmps:=T,defers:=[] } W0:=by
 simp only [twoOk,Bool.and_eq_true,decide_eq_true_eq] at hok
 obtain ⟨⟨⟨hsz,hg⟩,hwt⟩,hback⟩:=hok
 have hguard:∀ (i:Nat) (o:Oper),ops[i]?=some o→o.guard=none:=fun i o ho=>by
  have:=List.all_eq_true.1 hg o (by rw [Array.mem_toList_iff]; exact Array.mem_of_getElem? ho)
  simpa using this
 refine wpAny_inv (TwoI ops W0 T (twoVals q bb c' ob L j rr b) q r j (rr / b) (rr % b)) (fun listed a w h=>by rw [h.size,hsz]) ?_ ?_ _ _ _ _ ?_ ?_
 ·intro listed a w h i hi
  obtain ⟨h0,o,ho,hall⟩:=mem_ready.1 hi
  have hi15:i < 15:=by rw [← hsz]; exact (Array.getElem?_eq_some_iff.1 ho).1
  have hdep:∀ d,d ∈ twoWaits i→listed.getD d false=true:=by
   intro d hd
   have h1:=List.all_eq_true.1 hwt i (List.mem_range.2 hi15)
   have h2:=List.all_eq_true.1 h1 d hd
   obtain ⟨oj,hoj,e,he,hb,hon⟩:=Region.waitsFor_spec h2
   rw [ho] at hoj
   injection hoj with hoj
   subst hoj
   rw [← hon]
   exact hall e he hb
  have hsh:some (o.dst,o.op)=twoShape[i]?:=by
   rw [← hshape,List.getElem?_map,Array.getElem?_toList,ho]
   rfl
  have hn14:listed.getD 14 false=false:=by
   cases e:listed.getD 14 false with
   | false=>rfl
   | true =>
    have h1:=h.h14 e i hi15
    have hl:i < listed.size:=by rw [h.size]; exact hi15
    simp [hl] at h0 h1
    rw [h0] at h1
    cases h1
  have hc:∀ (p:Addr) (v:Value),W0.cell? p=some v→p ≠ ⟨q,j,none⟩→w.cell? p=some v:=by
   intro p v hv hp
   cases e:listed.getD 13 false with
   | false=>rw [h.w0 e]; exact hv
   | true=>rw [h.w1 e hn14,World.cell?_setCell_other _ _ _ _ (Ne.symm hp)]; exact hv
  have e3:a.eval (.tmp 3)=.pointer (some ⟨pb,0,none⟩):=(h.keep 3 (by omega)).trans t3
  have e4:a.eval (.tmp 4)=.pointer (some ⟨pq,0,none⟩):=(h.keep 4 (by omega)).trans t4
  have e6:a.eval (.tmp 6)=.pointer (some ⟨r,0,none⟩):=(h.keep 6 (by omega)).trans t6
  have e7:a.eval (.tmp 7)=.int .i64 (j:Int):=(h.keep 7 (by omega)).trans t7
  have ev:∀ k,k < 13→listed.getD k false=true→a.eval (.tmp (33 + k))=(twoVals q bb c' ob L j rr b).getD k undef:=fun k hk hl=>h.vals k hk hl
  have c3:=hc _ _ cb (fun e=>n1 (by injection e with e; exact e.symm))
  have c4:=hc _ _ cq (fun e=>n2 (by injection e with e; exact e.symm))
  have c6:=hc _ _ cr (fun e=>n3 (by injection e with e; exact e.symm))
  have cbb':=hc _ _ cbb (fun e=>n4 (by injection e with e; exact e.symm))
  have hgo:=hguard i o ho
  have hwq:IntKind.u64.wrap (rr / b)=rr / b:=by
   rw [IntKind.wrap_u64]
   have h1:0≤rr / b:=Int.ediv_nonneg hr0 (by omega)
   have h2:rr / b≤rr:=Int.ediv_le_self _ hr0
   omega
  have hsl:i < listed.size:=by rw [h.size]; exact hi15
  have hset:=getD_set_same' listed i hsl false
  match i,hi15,h0,ho,hdep,hsh with
  | 0,_,h0,ho,hdep,hsh =>
   injection hsh with hsh
   injection hsh with hd hop
   have hrun:(execOp a.eval o).run Tryz.prog w=.ok (.value (.slice (some ⟨q,0,none⟩) L L)) w:=by
    unfold execOp
    rw [hop]
    simp only [e4]
    go_simp
   have hy:=h.yield (i:=0) (by omega) h0 hT
   refine wpOp_val ho hgo hrun ?_
   rw [hd]
   exact hy
  | 1,_,h0,ho,hdep,hsh =>
   injection hsh with hsh
   injection hsh with hd hop
   have hrun:(execOp a.eval o).run Tryz.prog w=.ok (.value (.int .i64 (j:Int))) w:=by
    unfold execOp
    rw [hop]
    simp only [e7]
    go_simp
   have hy:=h.yield (i:=1) (by omega) h0 hT
   refine wpOp_val ho hgo hrun ?_
   rw [hd]
   exact hy
  | 2,_,h0,ho,hdep,hsh =>
   injection hsh with hsh
   injection hsh with hd hop
   have hrun:(execOp a.eval o).run Tryz.prog w=.ok (.value (.int .u64 rr)) w:=by
    unfold execOp
    rw [hop]
    simp only [e6]
    go_simp
   have hy:=h.yield (i:=2) (by omega) h0 hT
   refine wpOp_val ho hgo hrun ?_
   rw [hd]
   exact hy
  | 3,_,h0,ho,hdep,hsh =>
   injection hsh with hsh
   injection hsh with hd hop
   have hrun:(execOp a.eval o).run Tryz.prog w=.ok (.value (.slice (some ⟨bb,ob,none⟩) 1 c')) w:=by
    unfold execOp
    rw [hop]
    simp only [e3]
    go_simp
   have hy:=h.yield (i:=3) (by omega) h0 hT
   refine wpOp_val ho hgo hrun ?_
   rw [hd]
   exact hy
  | 4,_,h0,ho,hdep,hsh =>
   injection hsh with hsh
   injection hsh with hd hop
   have d3:a.eval (.tmp 36)=(.slice (some ⟨bb,ob,none⟩) 1 c'):=ev 3 (by omega) (hdep 3 (by simp [twoWaits]))
   have hrun:(execOp a.eval o).run Tryz.prog w=.ok (.value (.pointer (some ⟨bb,ob,none⟩))) w:=by
    unfold execOp
    rw [hop]
    simp only [d3]
    go_simp
   have hy:=h.yield (i:=4) (by omega) h0 hT
   refine wpOp_val ho hgo hrun ?_
   rw [hd]
   exact hy
  | 5,_,h0,ho,hdep,hsh =>
   injection hsh with hsh
   injection hsh with hd hop
   have d4:a.eval (.tmp 37)=(.pointer (some ⟨bb,ob,none⟩)):=ev 4 (by omega) (hdep 4 (by simp [twoWaits]))
   have hrun:(execOp a.eval o).run Tryz.prog w=.ok (.value (.int .u64 b)) w:=by
    unfold execOp
    rw [hop]
    simp only [d4]
    go_simp
   have hy:=h.yield (i:=5) (by omega) h0 hT
   refine wpOp_val ho hgo hrun ?_
   rw [hd]
   exact hy
  | 6,_,h0,ho,hdep,hsh =>
   injection hsh with hsh
   injection hsh with hd hop
   have d2:a.eval (.tmp 35)=(.int .u64 rr):=ev 2 (by omega) (hdep 2 (by simp [twoWaits]))
   have d5:a.eval (.tmp 38)=(.int .u64 b):=ev 5 (by omega) (hdep 5 (by simp [twoWaits]))
   have hrun:(execOp a.eval o).run Tryz.prog w=.ok (.value (.int .u64 (rr / b))) w:=by
    unfold execOp
    rw [hop]
    simp only [d2,d5]
    go_simp
    rw [if_neg (by omega),Int.tdiv_eq_ediv_of_nonneg hr0,hwq]
   have hy:=h.yield (i:=6) (by omega) h0 hT
   refine wpOp_val ho hgo hrun ?_
   rw [hd]
   exact hy
  | 7,_,h0,ho,hdep,hsh =>
   injection hsh with hsh
   injection hsh with hd hop
   have hrun:(execOp a.eval o).run Tryz.prog w=.ok (.value (.int .u64 rr)) w:=by
    unfold execOp
    rw [hop]
    simp only [e6]
    go_simp
   have hy:=h.yield (i:=7) (by omega) h0 hT
   refine wpOp_val ho hgo hrun ?_
   rw [hd]
   exact hy
  | 8,_,h0,ho,hdep,hsh =>
   injection hsh with hsh
   injection hsh with hd hop
   have hrun:(execOp a.eval o).run Tryz.prog w=.ok (.value (.slice (some ⟨bb,ob,none⟩) 1 c')) w:=by
    unfold execOp
    rw [hop]
    simp only [e3]
    go_simp
   have hy:=h.yield (i:=8) (by omega) h0 hT
   refine wpOp_val ho hgo hrun ?_
   rw [hd]
   exact hy
  | 9,_,h0,ho,hdep,hsh =>
   injection hsh with hsh
   injection hsh with hd hop
   have d8:a.eval (.tmp 41)=(.slice (some ⟨bb,ob,none⟩) 1 c'):=ev 8 (by omega) (hdep 8 (by simp [twoWaits]))
   have hrun:(execOp a.eval o).run Tryz.prog w=.ok (.value (.pointer (some ⟨bb,ob,none⟩))) w:=by
    unfold execOp
    rw [hop]
    simp only [d8]
    go_simp
   have hy:=h.yield (i:=9) (by omega) h0 hT
   refine wpOp_val ho hgo hrun ?_
   rw [hd]
   exact hy
  | 10,_,h0,ho,hdep,hsh =>
   injection hsh with hsh
   injection hsh with hd hop
   have d9:a.eval (.tmp 42)=(.pointer (some ⟨bb,ob,none⟩)):=ev 9 (by omega) (hdep 9 (by simp [twoWaits]))
   have hrun:(execOp a.eval o).run Tryz.prog w=.ok (.value (.int .u64 b)) w:=by
    unfold execOp
    rw [hop]
    simp only [d9]
    go_simp
   have hy:=h.yield (i:=10) (by omega) h0 hT
   refine wpOp_val ho hgo hrun ?_
   rw [hd]
   exact hy
  | 11,_,h0,ho,hdep,hsh =>
   injection hsh with hsh
   injection hsh with hd hop
   have d7:a.eval (.tmp 40)=(.int .u64 rr):=ev 7 (by omega) (hdep 7 (by simp [twoWaits]))
   have d10:a.eval (.tmp 43)=(.int .u64 b):=ev 10 (by omega) (hdep 10 (by simp [twoWaits]))
   have hrun:(execOp a.eval o).run Tryz.prog w=.ok (.value (.int .u64 (rr % b))) w:=by
    unfold execOp
    rw [hop]
    simp only [d7,d10]
    go_simp
    rw [if_neg (by omega),Int.tmod_eq_emod_of_nonneg hr0]
   have hy:=h.yield (i:=11) (by omega) h0 hT
   refine wpOp_val ho hgo hrun ?_
   rw [hd]
   exact hy
  | 12,_,h0,ho,hdep,hsh =>
   injection hsh with hsh
   injection hsh with hd hop
   have d0:a.eval (.tmp 33)=(.slice (some ⟨q,0,none⟩) L L):=ev 0 (by omega) (hdep 0 (by simp [twoWaits]))
   have d1:a.eval (.tmp 34)=(.int .i64 (j:Int)):=ev 1 (by omega) (hdep 1 (by simp [twoWaits]))
   have hrun:(execOp a.eval o).run Tryz.prog w=.ok (.value (.pointer (some ⟨q,j,none⟩))) w:=by
    unfold execOp
    rw [hop]
    simp only [d0,d1]
    go_simp
   have hy:=h.yield (i:=12) (by omega) h0 hT
   refine wpOp_val ho hgo hrun ?_
   rw [hd]
   exact hy
  | 13,_,h0,ho,hdep,hsh =>
   injection hsh with hsh
   injection hsh with hd hop
   have d6:a.eval (.tmp 39)=.int .u64 (rr / b):=ev 6 (by omega) (hdep 6 (by simp [twoWaits]))
   have d12:a.eval (.tmp 45)=.pointer (some ⟨q,j,none⟩):=ev 12 (by omega) (hdep 12 (by simp [twoWaits]))
   have hw:w=W0:=h.w0 (by simpa [hsl] using h0)
   subst hw
   have hrun:(execOp a.eval o).run Tryz.prog w=.ok .skip (w.setCell ⟨q,j,none⟩ (.int .u64 (rr / b))):=by
    unfold execOp
    rw [hop]
    simp only [d6,d12]
    go_simp
   refine wpOp_skip ho hgo hd hrun ?_
   have g14:=getD_set_other' listed 13 14 (by omega) false
   refine ⟨by simpa using h.size,fun e=>?_,fun _ _=>rfl,fun e=>?_,fun e=>?_,fun e=>?_,h.defs,h.sz,h.keep,fun k hk hl=>?_⟩
   ·rw [hset] at e; cases e
   ·rw [g14,hn14] at e; cases e
   ·rw [g14,hn14] at e; cases e
   ·rw [g14,hn14] at e; cases e
   ·rw [getD_set_other' _ _ _ (by omega)] at hl; exact h.vals k hk hl
  | 14,_,h0,ho,hdep,hsh =>
   injection hsh with hsh
   injection hsh with hd hop
   have d11:a.eval (.tmp 44)=.int .u64 (rr % b):=ev 11 (by omega) (hdep 11 (by simp [twoWaits]))
   have hw:w=W0.setCell ⟨q,j,none⟩ (.int .u64 (rr / b)):=h.w1 (hdep 13 (by simp [twoWaits])) hn14
   subst hw
   have hrun:(execOp a.eval o).run Tryz.prog (W0.setCell ⟨q,j,none⟩ (.int .u64 (rr / b)))=.ok .skip ((W0.setCell ⟨q,j,none⟩ (.int .u64 (rr / b))).setCell ⟨r,0,none⟩ (.int .u64 (rr % b))):=by
    unfold execOp
    rw [hop]
    simp only [e6,d11]
    go_simp
   refine wpOp_skip ho hgo hd hrun ?_
   have g13:=getD_set_other' listed 14 13 (by omega) false
   have hall15:∀ k,k < 15→(listed.setIfInBounds 14 true).getD k false=true:=by
    intro k hk
    by_cases e:k=14
    ·subst e; exact hset
    ·rw [getD_set_other' _ _ _ e]
     exact hdep k (by simp [twoWaits]; omega)
   refine ⟨by simpa using h.size,fun e=>?_,fun _ e=>?_,fun _=>rfl,fun _=>hall15,fun _=>hall15 13 (by omega),h.defs,h.sz,h.keep,fun k hk hl=>?_⟩
   ·rw [hall15 13 (by omega)] at e; cases e
   ·rw [hset] at e; cases e
   ·rw [getD_set_other' _ _ _ (by omega)] at hl; exact h.vals k hk hl
  | i + 15,hi15,_,_,_,_=>omega
 ·intro listed a w h hr
  have hall : ∀ i, i < 15 → listed.getD i false = true := by
   intro i
   induction i using Nat.strongRecOn with
   | _ i ih =>
    intro hi
    cases e:listed.getD i false with
    | true=>rfl
    | false =>
     exfalso
     have hlt:i < ops.size:=by omega
     have ho:ops[i]?=some ops[i]:=Array.getElem?_eq_getElem hlt
     have hb:=List.all_eq_true.1 hback i (List.mem_range.2 hi)
     rw [ho] at hb
     have hm:i ∈ Region.ready .any ops listed:=by
      refine mem_ready.2 ⟨?_,ops[i],ho,fun ed he _=>?_⟩
      ·have hl:i < listed.size:=by rw [h.size]; exact hi
       simpa [hl] using e
      ·have h1:=Array.all_eq_true'.1 hb ed he
       exact ih ed.on (by simpa using h1) (by have:=of_decide_eq_true h1; omega)
     rw [hr] at hm
     cases hm
  rw [h.w2 (hall 14 (by omega))]
  exact hQ a
 ·exact ⟨by simp [hsz],fun _=>rfl,fun h=>by simp [hsz] at h,fun h=>by simp [hsz] at h,fun h=>by simp [hsz] at h,fun h=>by simp [hsz] at h,rfl,rfl,fun _ _=>rfl,fun i hi h=>by
   have:i < ops.size:=by omega
   simp [this] at h⟩
 ·simp [lacks]

end Go.Proofs.YthhkmihjnnfpgaaGreatDoor

/- slices.Backward at a slice of pieces: its contract as an iterator. -/
namespace Go.Proofs.YthhkmihjnnfpgaaGreatDoor
open Go.RowKit Go.Shelf

attribute [local go_sem] Oper.semAt_some

def uptoF {α:Type} (f:Nat→α) (k:Nat):List α:=(List.range k).map f
theorem uptoF_succ {α:Type} (f:Nat→α) (k:Nat):uptoF f (k + 1)=uptoF f k ++ [f k]:=by simp [uptoF,List.range_succ]
theorem uptoF_length {α:Type} (f:Nat→α) (k:Nat):(uptoF f k).length=k:=by simp [uptoF]

def backF (zs:List Int) (j:Nat):Int × Int:=((zs.length:Int) - 1 - j,zs[zs.length - 1 - j]?.getD 0)

def KeptAt (S:Nat→Prop) (W W':World):Prop:=∀ g,S g→W'.heap[g]?=W.heap[g]?
theorem KeptAt.refl (S:Nat→Prop) (W:World):KeptAt S W W:=fun _ _=>rfl
theorem KeptAt.trans {S:Nat→Prop} {A B C:World} (h:KeptAt S A B) (k:KeptAt S B C):KeptAt S A C:=fun g hg=>(k g hg).trans (h g hg)
theorem KeptAt.cell {S:Nat→Prop} {W W':World} (h:KeptAt S W W') {p:Addr} (hp:S p.block):W'.cell? p=W.cell? p:=World.cell?_of_block (h p.block hp)
theorem KeptAt.put {S:Nat→Prop} {w:World} (hS:∀ g,S g→g < w.heap.size) (W:World) (l:Nat) (o o':Obj) (hl:w.heap.size≤l) (_:W.heap[l]?=some o) (_:o.isCells=false) (_:o.isWalk=false):KeptAt S W (W.putObj l o'):=fun g hg=>by
 have:=hS g hg
 exact (grownBy_putObj' W l o').block g (by
  have h:=(Array.getElem?_eq_some_iff.1 (by assumption:W.heap[l]?=some o)).1
  omega) (fun e=>by injection e with e; omega)
def BelowOr (n₀ b:Nat) (g:Nat):Prop:=g < n₀ ∨ g=b

set_option maxRecDepth 100000 in
set_option maxHeartbeats 2000000 in
theorem back1_in {α:Type} (enc:α→Int × Int) (f:Nat→α) (F:Fence) (n:Nat) (h84:F.fn 120) (hro:F.round=none) (hn:1≤n) (l Bs n₀:Nat) (A:Option Addr) (cap:Nat) (zs:List Int) (hlen:zs.length≤65536)
  (hf:∀ j,j < zs.length→enc (f j)=backF zs j) (J Jx:List α→World→Prop)
  (hY:∀ pre x W,J pre W→pre.length < zs.length→YieldAt F (n - 1) Tryz.prog l #[.int .i64 (enc x).1,.int .u64 (enc x).2] W fun e W' =>
   (e=.returned (.bool true)∧J (pre ++ [x]) W'∧KeptAt (BelowOr n₀ Bs) W W') ∨ (e=.returned (.bool false)∧Jx (pre ++ [x]) W'))
  (W:World) (hBs:W.cell? ⟨Bs,0,none⟩=some (.slice A zs.length cap)) (hc:0 < zs.length→∃ b o,A=some ⟨b,o,none⟩∧b < n₀∧∀ j,j < zs.length→W.cell? ⟨b,o + j,none⟩=some (.int .u64 (zs[j]?.getD 0))) (h0:J [] W) :
  CallsIn F n Tryz.prog 120 #[.func (.yield l) #[] #[],.pointer (some ⟨Bs,0,none⟩)] W fun e W'=>(∃ v,e=.returned v) ∧
   ((∃ ys,ys=uptoF f zs.length∧J ys W') ∨ (∃ pre,(∃ k,k≤zs.length∧pre=uptoF f k)∧Jx pre W')):=by
 refine callsIn_of_wp Tryz.func120 rfl h84 ?_ hro
 simp only [Tryz.ntmps120, List.size_toArray,List.length_cons,List.length_nil,Nat.reduceAdd,Nat.reduceSub,Array.replicate_succ,Array.replicate_zero,List.push_toArray,List.append_toArray,List.nil_append,List.cons_append]
 gi_wp2
 gi_loopw [3] (fun i wr=>∃ (k:Nat) (j:Int),k≤zs.length∧j=(zs.length:Int) - 1 - k∧i=.int .i64 j∧J (uptoF f k) wr∧KeptAt (BelowOr n₀ Bs) W wr)
  (fun i _=>(intOf i + 1).toNat)
 case atStart=>exact ⟨0,_,Nat.zero_le _,by omega,rfl,h0,KeptAt.refl _ _⟩
 case round =>
  obtain ⟨k,j,hk,hj,rfl,hJs,hnx⟩:=hrel
  have hB1:=(hnx.cell (p:=⟨Bs,0,none⟩) (.inr rfl)).trans hBs
  by_cases hlt:k < zs.length
  ·obtain ⟨b,o,rfl,hb,hcs⟩:=hc (by omega)
   obtain ⟨m,hm⟩:∃ m:Nat,m=zs.length - 1 - k:=⟨_,rfl⟩
   obtain rfl:j=(m:Int):=by omega
   have hcx:wr.cell? ⟨b,o + m,none⟩=some (.int .u64 (zs[m]?.getD 0)):=(hnx.cell (p:=⟨b,o + m,none⟩) (.inl hb)).trans (hcs m (by omega))
   have hF:Hid (enc (f k)=((m:Int),zs[m]?.getD 0)):=by rw [hf k hlt]; unfold backF; rw [← hm,← hj]; rfl
   have hyk:=hY _ (f k) wr hJs (by rw [uptoF_length]; exact hlt)
   rw [hF.out] at hyk
   obtain ⟨fn,tmps,assign,body,hy,hR⟩:=hyk
   dsimp only at hy
   have HM:=Lib.hid hm
   have HJ:=Lib.hid hj
   have hml:m < zs.length:=by omega
   clear hm hj hcs hc
   generalize zs[m]?.getD 0=zm at *
   gi_wp2
   refine hR.mono ?_
   rintro e W3 (⟨rfl,hJ3,hk3⟩ | ⟨rfl,hJx3⟩)
   ·gi_wp2
    go_roundw
    case rel=>exact ⟨k + 1,_,by omega,by have:=HJ.out; omega,rfl,by rw [uptoF_succ]; exact hJ3,hnx.trans hk3⟩
    case measure=>simp [intOf]
   ·gi_wp2
    refine bodyPost_ret (results_none rfl _ _ _) rfl ?_
    exact ⟨⟨_,rfl⟩,.inr ⟨_,⟨k + 1,by omega,by rw [uptoF_succ]⟩,hJx3⟩⟩
  ·obtain rfl:k=zs.length:=by omega
   obtain rfl:j = -1:=by omega
   gi_wp2
   go_end0
   exact ⟨⟨_,rfl⟩,.inl ⟨_,rfl,hJs⟩⟩

set_option maxHeartbeats 1000000 in
theorem back_in (F:Fence) (n:Nat) (h64:F.fn 105) (hro:F.round=none) (a:Option Addr) (len cap:Nat) (w:World) :
  CallsIn F n Tryz.prog 105 #[.slice a len cap] w fun e w'=>e=.returned (.func (.func 120) #[] #[.pointer (some ⟨w.heap.size,0,none⟩)])∧w'=w.alloc (.cells #[.slice a len cap] 141):=by
 refine callsIn_of_wp Tryz.func105 rfl h64 ?_ hro
 simp only [Tryz.ntmps105, List.size_toArray,List.length_cons,List.length_nil,Nat.reduceAdd,Nat.reduceSub,Array.replicate_succ,Array.replicate_zero,List.push_toArray,List.append_toArray,List.nil_append,List.cons_append]
 gi_wp2
 go_ret
 exact ⟨rfl,rfl⟩

theorem back_stops {α:Type} (enc:α→Int × Int) (f:Nat→α) (F:Fence) (n:Nat) (h84:F.fn 120) (hro:F.round=none) (hn:1≤n) (Bs n₀:Nat) (A:Option Addr) (cap:Nat) (zs:List Int) (hlen:zs.length≤65536) (hf:∀ j,j < zs.length→enc (f j)=backF zs j) (w:World) (hBn:Bs < w.heap.size) (hn₀:n₀≤w.heap.size)
  (hcell:w.cell? ⟨Bs,0,none⟩=some (.slice A zs.length cap)) (hc:0 < zs.length→∃ b o,A=some ⟨b,o,none⟩∧b < n₀∧∀ j,j < zs.length→w.cell? ⟨b,o + j,none⟩=some (.int .u64 (zs[j]?.getD 0))) :
  SeqStopsK F n Tryz.prog 120 #[.pointer (some ⟨Bs,0,none⟩)] (fun x:α=>#[Value.int .i64 (enc x).1,Value.int .u64 (enc x).2]) (KeptAt (BelowOr n₀ Bs)) (fun ys=>ys=uptoF f zs.length)
   (fun pre=>∃ k,k≤zs.length∧pre=uptoF f k) zs.length w:=fun l J Jx W hW _ _ hY h0=>by
 have hb:=hW.mono hn₀
 refine back1_in enc f F n h84 hro hn l Bs n₀ A cap zs hlen hf J Jx hY W ((hW.cell (p:=⟨Bs,0,none⟩) hBn).trans hcell) (fun hl=>?_) h0
 obtain ⟨b,o,e,hlt,hcs⟩:=hc hl
 exact ⟨b,o,e,hlt,fun j hj=>(hb.cell (p:=⟨b,o + j,none⟩) hlt).trans (hcs j hj)⟩

structure P9 (N:Nat) where
 v:Int × Int
 ok:0≤v.1∧v.1 < N∧0≤v.2∧v.2 < 1000000000

theorem backF_ok {zs:List Int} (hd:Digs 1000000000 zs) {j:Nat} (hj:j < zs.length) :
  0≤(backF zs j).1∧(backF zs j).1 < zs.length∧0≤(backF zs j).2∧(backF zs j).2 < 1000000000:=by
 have:=hd.at_ (by omega) (zs.length - 1 - j)
 simp only [backF]
 omega

def backP (zs:List Int) (hd:Digs 1000000000 zs) (hl:0 < zs.length) (j:Nat):P9 zs.length :=
 if h:j < zs.length then ⟨backF zs j,backF_ok hd h⟩ else ⟨backF zs 0,backF_ok hd hl⟩

theorem backP_eq {zs:List Int} (hd:Digs 1000000000 zs) (hl:0 < zs.length) {j:Nat} (hj:j < zs.length):(backP zs hd hl j).v=backF zs j:=by
 unfold backP
 rw [dif_pos hj]

end Go.Proofs.YthhkmihjnnfpgaaGreatDoor

/- strings.Builder's copyCheck, WriteByte and WriteString at this dump (the shelf's own layings fall here: the loader refuses the panic in copyCheck, which is never reached). -/
namespace Go.Proofs.YthhkmihjnnfpgaaGreatDoor
open Go.RowKit

theorem sizeBuilder:(Tryz.prog.info? 171).map (·.size)=some 2:=by kernel_rfl
theorem liesBuilder:liesAt Tryz.prog Tryz.prog.depth 171 (2 / Tryz.prog.cellsOf 171) 0 171 1=true:=by kernel_rfl
theorem infoByte:(Tryz.prog.info? 5).map (fun i=>(i.zero,i.size,i.bytes))=some (some (.int .u8 0),1,1):=by kernel_rfl

set_option maxHeartbeats 1000000 in
set_option maxRecDepth 100000 in
theorem copyCheck_used (b:Nat) (w:World) (h0:w.cell? ⟨b,0,none⟩=some (.pointer (some ⟨b,0,none⟩))) :
  Calls Tryz.prog 119 #[.pointer (some ⟨b,0,none⟩)] w fun e w'=>e=.returned (.tuple #[])∧w'=w:=by
 obtain ⟨j,hj,_⟩:=Option.map_eq_some_iff.1 sizeBuilder
 have hne:=fun W:World=>Lib.run_neq_ptr_same (P:=Tryz.prog) W ⟨b,0,none⟩ Tryz.underlying169 hj
 go_enter Tryz.func119, Tryz.ntmps119
 go_wp2
 go_end0
 exact ⟨rfl,rfl⟩

set_option maxHeartbeats 1000000 in
set_option maxRecDepth 100000 in
theorem copyCheck_fresh (b:Nat) (w:World) (h0:w.cell? ⟨b,0,none⟩=some (.pointer none)) (hsh:w.shape? b=some (171, 2)) (hfz:w.frozen? ⟨b,0,none⟩=false) :
  Calls Tryz.prog 119 #[.pointer (some ⟨b,0,none⟩)] w fun e w'=>e=.returned (.tuple #[])∧w'=w.setCell ⟨b,0,none⟩ (.pointer (some ⟨b,0,none⟩)):=by
 obtain ⟨j,hj,hjs⟩:=Option.map_eq_some_iff.1 sizeBuilder
 go_enter Tryz.func119, Tryz.ntmps119
 go_wp2
 rw [Lib.run_to_unsafe w ⟨b,0,none⟩ Tryz.underlying169 Tryz.underlying199 hj (by rw [hjs]; decide) hsh (Nat.zero_lt_succ 1)]
 simp only [Result.andThen]
 rw [Oper.upon_value]
 go_wp2
 rw [run_callFunc_extern Tryz.func137 (by kernel_rfl) (by kernel_rfl) (by kernel_rfl) (e:=Extern.AbiNoEscape.same) (by kernel_rfl)]
 rw [Lib.run_noEscape]
 simp only [Result.andThen]
 rw [Oper.upon_value]
 go_wp2
 rw [Lib.run_from_unsafe w ⟨b,0,none⟩ Tryz.underlying199 Tryz.underlying169 hj hsh liesBuilder]
 simp only [Result.andThen]
 rw [Oper.upon_value]
 go_wp2
 go_end0
 exact ⟨rfl,rfl⟩

abbrev IsB (B b:Nat) (bs:List Value) (w:World):Prop:=Lib.IsBuilderF 171 5 B b bs w

theorem copyCheck_any (B b:Nat) (bs:List Value) (w:World) (h:IsB B b bs w) :
  Calls Tryz.prog 119 #[.pointer (some ⟨b,0,none⟩)] w fun e w'=>e=.returned (.tuple #[]) ∧
   (Lib.BuilderAtF 171 5 B b (.pointer (some ⟨b,0,none⟩)) bs w'∧Below B w w'∧Lib.OthersKept 5 (some b) w w'):=by
 rcases h with h | h
 ·refine (copyCheck_fresh b w h.cell0 h.shape h.frozen0).mono ?_
  rintro e w' ⟨rfl,rfl⟩
  exact ⟨rfl,h.used _,(Below.refl B w).setCell (p:=⟨b,0,none⟩) h.1 _,(Lib.OthersKept.refl _ _ w).setCell ⟨b,0,none⟩ rfl _⟩
 ·refine (copyCheck_used b w h.cell0).mono ?_
  rintro e w' ⟨rfl,rfl⟩
  exact ⟨rfl,h,Below.refl B _,Lib.OthersKept.refl _ _ _⟩

set_option maxHeartbeats 2000000 in
set_option maxRecDepth 100000 in
theorem writeByte_any (B b:Nat) (bs:List Value) (c:Int) (w:World) (h:IsB B b bs w) (hlen:bs.length≤1000000) (hBw:B≤w.heap.size) :
  Calls Tryz.prog 104 #[.pointer (some ⟨b,0,none⟩),.int .u8 c] w fun e w'=>e=.returned .nilIface∧(IsB B b (bs ++ [.int .u8 c]) w'∧Below B w w'∧Lib.OthersKept 5 (some b) w w'):=by
 obtain ⟨i0,hi,hz0,hz1,hz2⟩:=info_parts infoByte
 go_enter Tryz.func104, Tryz.ntmps104
 go_wp2_with (go_at_call 119; refine (copyCheck_any B b bs _ h).mono ?_)
 rintro e w1 ⟨rfl,h1,hb1,hk1⟩
 obtain ⟨hB,v,hbk,hown,hne⟩:=h1
 have c0:w1.cell? ⟨b,0,none⟩=some (.pointer (some ⟨b,0,none⟩)):=by rw [Lib.cell_of_heap hbk]; rfl
 have c1:w1.cell? ⟨b,1,none⟩=some v:=by rw [Lib.cell_of_heap hbk]; rfl
 go_wp2_with (at_builtin; refine wpList_append_ownF _ rfl _ _ 160 rfl B 5 i0 (.int .u8 0) 1 1 Tryz.underlying160 hi hz0 hz1 hz2 rfl (by decide) _ _ _ rfl (hown.alloc _) ⟨w1.heap.size,0,none⟩ 1 1 [.int .u8 c] rfl rfl ?c1 ?c2 ?c3 ?c4 ?c5 ?_)
 case c1 =>
  intro j u hj
  match j,hj with
  | 0,hj=>simp at hj; subst hj; simp [Addr.add]
 case c2=>intro u hu; simp at hu; subst hu; rfl
 case c3=>unfold maxLen; omega
 case c4=>omega
 case c5=>have:=hb1.size; simp; omega
 intro v' w2 hown' hgrow _
 have hlt:b < w1.heap.size:=by
  rcases Nat.lt_or_ge b w1.heap.size with h' | h'
  ·exact h'
  ·simp [Array.getElem?_eq_none h'] at hbk
 have hb2:w2.heap[b]?=some (.cells #[.pointer (some ⟨b,0,none⟩),v] 171 (0,0)):=by
  rw [hgrow.block b (by simp; omega) (fun e=>hne e.symm),Lib.alloc_old w1 _ b hlt]
  exact hbk
 have d0:w2.cell? ⟨b,0,none⟩=some (.pointer (some ⟨b,0,none⟩)):=by rw [Lib.cell_of_heap hb2]; rfl
 have d1:w2.cell? ⟨b,1,none⟩=some v:=by rw [Lib.cell_of_heap hb2]; rfl
 have f1:w2.frozen? ⟨b,1,none⟩=false:=Lib.frozen_of_heap hb2 1
 obtain ⟨g,cap,rfl⟩:∃ g cap,v'=.slice (some ⟨g,0,none⟩) (bs.length + 1) cap:=by
  rcases hown'.2 with ⟨_,h0⟩ | ⟨g,cap,cur,fz,hv,_⟩
  ·omega
  ·exact ⟨g,cap,hv⟩
 go_wp2
 go_ret
 refine ⟨rfl,?_,?_,((hk1.alloc _).grown hgrow (Lib.ownsRowF_kind (hown.alloc _))).setCell ⟨b,1,none⟩ rfl _⟩
 ·exact .inr (Lib.BuilderAtF.put (T := 171) (e := 5) hB hb2 (bs':=bs ++ [.int .u8 c]) (by simpa using hown') (by decide))
 ·exact ((hb1.alloc (by have:=hb1.size; omega) _).grown hgrow (by have:=hb1.size; simp; omega) (fun k hk=>(hown.lt k hk).1)).setCell (p:=⟨b,1,none⟩) hB _

set_option maxHeartbeats 2000000 in
set_option maxRecDepth 100000 in
theorem writeString_any (B b:Nat) (bs:List Value) (s:ByteArray) (w:World) (h:IsB B b bs w) (hlen:bs.length≤1000000) (hs:s.size≤1000000) (hBw:B≤w.heap.size) :
  Calls Tryz.prog 107 #[.pointer (some ⟨b,0,none⟩),.string s] w fun e w'=>e=.returned (.tuple #[.int .i64 s.size,.nilIface])∧(IsB B b (bs ++ Lib.strCells s) w'∧Below B w w'∧Lib.OthersKept 5 (some b) w w'):=by
 obtain ⟨i0,hi,hz0,hz1,hz2⟩:=info_parts infoByte
 go_enter Tryz.func107, Tryz.ntmps107
 go_wp2_with (go_at_call 119; refine (copyCheck_any B b bs _ h).mono ?_)
 rintro e w1 ⟨rfl,h1,hb1,hk1⟩
 obtain ⟨hB,v,hbk,hown,hne⟩:=h1
 have c0:w1.cell? ⟨b,0,none⟩=some (.pointer (some ⟨b,0,none⟩)):=by rw [Lib.cell_of_heap hbk]; rfl
 have c1:w1.cell? ⟨b,1,none⟩=some v:=by rw [Lib.cell_of_heap hbk]; rfl
 go_wp2_with (at_builtin; refine Lib.wpList_append_own_stringF _ rfl _ _ 160 9 rfl B 5 i0 Tryz.underlying160 Tryz.underlying9 hi hz0 hz1 hz2 _ _ _ rfl hown s rfl ?c3 ?c4 ?c5 ?_)
 case c3=>unfold maxLen; omega
 case c4=>omega
 case c5=>have:=hb1.size; omega
 intro v' w2 hown' hgrow _
 have hlt:b < w1.heap.size:=by
  rcases Nat.lt_or_ge b w1.heap.size with h' | h'
  ·exact h'
  ·simp [Array.getElem?_eq_none h'] at hbk
 have hb2:w2.heap[b]?=some (.cells #[.pointer (some ⟨b,0,none⟩),v] 171 (0,0)):=by
  rw [hgrow.block b hlt (fun e=>hne e.symm)]
  exact hbk
 have d0:w2.cell? ⟨b,0,none⟩=some (.pointer (some ⟨b,0,none⟩)):=by rw [Lib.cell_of_heap hb2]; rfl
 have d1:w2.cell? ⟨b,1,none⟩=some v:=by rw [Lib.cell_of_heap hb2]; rfl
 have f1:w2.frozen? ⟨b,1,none⟩=false:=Lib.frozen_of_heap hb2 1
 obtain ⟨ao,n',cap,rfl⟩:∃ ao n' cap,v'=.slice ao n' cap:=by
  rcases hown'.2 with ⟨hv,_⟩ | ⟨g,cap,cur,fz,hv,_⟩
  ·exact ⟨_,_,_,hv⟩
  ·exact ⟨_,_,_,hv⟩
 go_wp2
 go_ret2
 refine ⟨rfl,?_,?_,(hk1.grown hgrow (Lib.ownsRowF_kind hown)).setCell ⟨b,1,none⟩ rfl _⟩
 ·exact .inr (Lib.BuilderAtF.put (T := 171) (e := 5) hB hb2 (bs':=bs ++ Lib.strCells s) (by simpa [Lib.strCells_length] using hown') (by decide))
 ·exact (hb1.grown hgrow (by have:=hb1.size; omega) (fun k hk=>(hown.lt k hk).1)).setCell (p:=⟨b,1,none⟩) hB _

end Go.Proofs.YthhkmihjnnfpgaaGreatDoor
