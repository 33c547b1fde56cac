/- Correlate: Verify. -/
import Derived.Test.YthhkmihjnnfpgaaGreatDoorGCorE
import Derived.Test.YthhkmihjnnfpgaaGreatDoorGCorY
import Derived.Test.YthhkmihjnnfpgaaGreatDoorPar6
import Derived.Test.YthhkmihjnnfpgaaGreatDoorDilA
import Derived.Test.YthhkmihjnnfpgaaGreatDoorGCorS
/- Verify's plain side: what is checked of a proof. -/
namespace Go.Proofs.YthhkmihjnnfpgaaGreatDoor
set_option linter.all false
open Go.RowKit

theorem briefN {q:Rat} {n:Nat} (h:(canonR q).size≤n):Sz q n:=by
 have hsz:(canonR q).size=(ratL q.num q.den).length:=rfl
 have h2:(mdig q.num).length≤(Lib.itoa q.num).length:=by
  rcases itoa_cases q.num with ⟨_,e⟩ | ⟨_,e⟩
  ·rw [e]; exact Nat.le_refl _
  ·rw [e,List.length_cons]; omega
 have hp:0 < (mdig q.num).length:=List.length_pos_iff.2 (decDigits_ne _)
 refine ⟨dec_lt_pow q.num.natAbs n ?_,?_⟩
 ·have h3:(Lib.itoa q.num).length≤(ratL q.num q.den).length:=by
   unfold ratL
   split
   ·exact Nat.le_refl _
   ·rw [List.length_append]; omega
  have h4:(mdig q.num).length=(Lib.decDigits q.num.natAbs).length:=rfl
  omega
 ·by_cases hd:q.den=1
  ·rw [hd]; exact Nat.one_lt_pow (by
    have h3:(Lib.itoa q.num).length≤(ratL q.num q.den).length:=by
     unfold ratL
     rw [if_pos hd]
     exact Nat.le_refl _
    omega) (by omega)
  ·refine dec_lt_pow _ _ ?_
   have:(ratL q.num q.den).length=(Lib.itoa q.num).length + (1 + (Lib.decDigits q.den).length):=by
    unfold ratL
    rw [if_neg hd,List.length_append,List.length_cons]; omega
   omega
theorem right_ex {t:ByteArray} (h:rightQ t=true):∃ q:Rat,t=canonR q:=by
 obtain ⟨x,hx,_⟩:=rightQ_of h
 exact ⟨x,hx⟩
noncomputable def numT (t:ByteArray):Rat:=@dite _ (rightQ t=true) (Classical.propDecidable _) (fun h=>Classical.choose (right_ex h)) (fun _=>0)
theorem numT_eq {t:ByteArray} (h:rightQ t=true):t=canonR (numT t):=by
 unfold numT
 rw [dif_pos h]
 exact Classical.choose_spec (right_ex h)
theorem numT_sz {t:ByteArray} (h:rightQ t=true) {n:Nat} (hn:t.size≤n):Sz (numT t) n:=briefN (by rw [← numT_eq h]; exact hn)

end Go.Proofs.YthhkmihjnnfpgaaGreatDoor

/- The first part of a drawn region by an invariant, the rest in order; rows of slices; appends of one element that lies anywhere. -/
namespace Go.Proofs.YthhkmihjnnfpgaaGreatDoor
set_option linter.all false
open Go.RowKit

section
variable {P:Program} {ops:Array Oper} {Q:Exit→Act→World→Prop}
end

section
variable {α:Type} {f:α→List Value} {sz:Nat} {T:TypeId}
end
def rwC (x:Nat × Nat):List Value:=[.slice (some ⟨x.1,0,none⟩) x.2 x.2]

end Go.Proofs.YthhkmihjnnfpgaaGreatDoor

/- Verify's verdict. -/
namespace Go.Proofs.YthhkmihjnnfpgaaGreatDoor
set_option linter.all false
open Go.RowKit

attribute [local go_sem] Oper.semAt_some

structure StV (w0:World) (bq ba bp b6 ob N:Nat) (q:CQ) (sl sr v:Value) (T:ByteArray) (ds:List Deferred) (W:World):Prop where
 bb:Below w0.heap.size w0 W
 kq:Blk W bq #[sl,sr,.string (qT (2 * q.ch)),.string (qT (2 * q.mi)),.string (qT (2 * q.ga)),.string (qT (2 * q.re))] 32
 ka:Blk W ba #[v,.string T] 36
 kp:Blk W bp #[.slice (some ⟨ob,0,none⟩) N N] 44
 k6:Blk W b6 #[.int .i64 0] 37
 mrk:Marks w0.heap.size W ds
 s1:w0.heap.size≤bq∧bq < ba∧ba < bp∧bp < b6
section
variable {w0 W W':World} {bq ba bp b6 ob N:Nat} {q:CQ} {sl sr v:Value} {T:ByteArray} {ds:List Deferred}
theorem StV.below (h:StV w0 bq ba bp b6 ob N q sl sr v T ds W) (k:Below W.heap.size W W'):StV w0 bq ba bp b6 ob N q sl sr v T ds W' :=
 ⟨h.bb.trans (k.mono h.bb.size),h.kq.below k,h.ka.below k,h.kp.below k,h.k6.below k,h.mrk.kept (keepsFrom_below k),h.s1⟩
end
structure V12 (W:World) (us:List (Nat × Nat)) (T:ByteArray) (L:Nat→Prop) (σ:Nat→Value) (U:World):Prop where
 bb:Below W.heap.size W U
 c:L 1→¬ L 6→SRow rwC 1 71 U W.heap.size (σ 53) us
 e:L 4→∃ h,σ 56=.slice (some ⟨h,0,none⟩) 1 1∧W.heap.size≤h∧Blk U h #[.string T] 28
 f:L 5→¬ L 6→∃ h,σ 57=.slice (some ⟨h,0,none⟩) 1 1∧Blk U h #[σ 56] 71
 g:L 6→∃ h,σ 56=.slice (some ⟨h,0,none⟩) 1 1∧SRow rwC 1 71 U W.heap.size (σ 58) (us ++ [(h,1)])
 d:(L 5→L 4)∧(L 6→L 1∧L 5)
section
variable {W U U':World} {us:List (Nat × Nat)} {T:ByteArray} {L:Nat→Prop} {σ:Nat→Value}
theorem V12.below (h:V12 W us T L σ U) (b:Below U.heap.size U U'):V12 W us T L σ U':=by
 refine ⟨h.bb.trans (b.mono h.bb.size),fun x y=>(h.c x y).below b,fun x=>?_,fun x y=>?_,fun x=>?_,h.d⟩
 ·obtain ⟨g,a1,a2,a3⟩:=h.e x
  exact ⟨g,a1,a2,a3.below b⟩
 ·obtain ⟨g,a1,a3⟩:=h.f x y
  exact ⟨g,a1,a3.below b⟩
 ·obtain ⟨g,a1,a3⟩:=h.g x
  exact ⟨g,a1,a3.below b⟩
end

end Go.Proofs.YthhkmihjnnfpgaaGreatDoor
