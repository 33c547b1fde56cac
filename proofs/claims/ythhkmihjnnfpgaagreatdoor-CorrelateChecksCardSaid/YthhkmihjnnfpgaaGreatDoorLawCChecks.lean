/- CorrelateChecks: the walk. -/
import Derived.Test.YthhkmihjnnfpgaaGreatDoorGCorC
import Derived.Test.YthhkmihjnnfpgaaGreatDoorGCorW
import Derived.Test.YthhkmihjnnfpgaaGreatDoorGCorU
import Derived.Deep.CutBlock
namespace Go.Proofs.YthhkmihjnnfpgaaGreatDoor
set_option linter.all false
open Go.RowKit

def wantK (p:Int) (b:Bool):Int:=if p=0 then if b=true then 0 else 2 else p
theorem wantK_n {p:Int} (h:¬ p=0) (b:Bool):wantK p b=p:=if_neg h
noncomputable def pfxR (c1 c2 c3 c4:ByteArray):Nat→Bool
 | 0=>true
 | 1=>rightQ c1
 | 2=>rightQ c1 && rightQ c2
 | 3=>(rightQ c1 && rightQ c2) && rightQ c3
 | _=>((rightQ c1 && rightQ c2) && rightQ c3) && rightQ c4
theorem pfxR_t {c1 c2 c3 c4:ByteArray} (h:pfxR c1 c2 c3 c4 4=true):rightQ c1=true∧rightQ c2=true∧rightQ c3=true∧rightQ c4=true:=by
 have h1:(((rightQ c1 && rightQ c2) && rightQ c3) && rightQ c4)=true:=h
 simp only [Bool.and_eq_true] at h1
 exact ⟨h1.1.1.1,h1.1.1.2,h1.1.2,h1.2⟩
theorem pfxR_f {c1 c2 c3 c4:ByteArray} (h:pfxR c1 c2 c3 c4 4=false):cosT c1 c2 c3 c4=2:=by
 unfold cosT
 rw [if_neg (fun e=>by
  have h1:(((rightQ c1 && rightQ c2) && rightQ c3) && rightQ c4)=false:=h
  rw [e.1,e.2.1,e.2.2.1,e.2.2.2] at h1
  cases h1)]

theorem chkT_p (z1 z2:Int) (l1 l2:Nat) (zc:Int):chkT z1 z2 l1 l2 zc=if (if decide ((if z1=0 then z2 else z1)=0∧(60 < l1 ∨ 60 < l2))=true then 4 else (if z1=0 then z2 else z1))=0 then zc else (if decide ((if z1=0 then z2 else z1)=0∧(60 < l1 ∨ 60 < l2))=true then 4 else (if z1=0 then z2 else z1)):=by
 unfold chkT
 by_cases h1:z1=0
 ·simp only [if_pos h1]
  by_cases h2:z2=0
  ·simp only [if_pos h2]
   by_cases h3:60 < l1 ∨ 60 < l2
   ·rw [if_pos h3,decide_eq_true (show z2=0∧(60 < l1 ∨ 60 < l2) from ⟨h2,h3⟩)]; simp
   ·rw [if_neg h3,decide_eq_false (show ¬ (z2=0∧(60 < l1 ∨ 60 < l2)) from fun e=>h3 e.2)]; simp [h2]
  ·simp [h2]
 ·simp [h1]
theorem want_end {p:Int} {c1 c2 c3 c4:ByteArray} (h:¬ wantK p (pfxR c1 c2 c3 c4 4)=0):(if p=0 then cosT c1 c2 c3 c4 else p)=wantK p (pfxR c1 c2 c3 c4 4):=by
 unfold wantK at h ⊢
 by_cases hp:p=0
 ·rw [if_pos hp] at h ⊢
  rw [if_pos hp]
  cases hb:pfxR c1 c2 c3 c4 4 with
  | true=>rw [hb] at h; exact absurd rfl h
  | false=>rw [pfxR_f hb]; rfl
 ·rw [if_neg hp,if_neg hp]
theorem want_start (p:Int):wantK p true=p:=by
 unfold wantK
 by_cases hp:p=0
 ·rw [if_pos hp,hp]; rfl
 ·rw [if_neg hp]
theorem want_zero {p:Int} {b:Bool} (h:wantK p b=0):p=0∧b=true:=by
 unfold wantK at h
 by_cases hp:p=0
 ·rw [if_pos hp] at h
  cases b with
  | true=>exact ⟨hp,rfl⟩
  | false=>simp at h
 ·rw [if_neg hp] at h
  exact absurd h hp

set_option maxRecDepth 100000 in
set_option maxHeartbeats 32000000 in
theorem corChecks_walk (q:XQ) (hl:q.L.length≤9223372036854775807) (hr:q.R.length≤9223372036854775807) (sl sr:Value) (w:World) (he:Env w) (hq:XAt w sl sr q) :
  Calls Tryz.prog 12 #[q.pt sl sr] w fun e w'=>e=.returned (.bool true)∧Below w.heap.size w w':=by
 have HKN:=Lib.hid (fun W (h:Below w.heap.size w W)=>known44_any W (he.below h))
 have HSL:=Lib.hid (fun W (h:Below w.heap.size w W)=>lshort_any q.L hl sl W (hq.l.below h))
 have HSR:=Lib.hid (fun W (h:Below w.heap.size w W)=>lshort_any q.R hr sr W (hq.r.below h))
 have HE:=Lib.hid he
 have HQ:=Lib.hid hq
 have B:=Lib.hid (Below.refl w.heap.size w)
 obtain ⟨A1,n1,rfl,_⟩:=hq.l
 obtain ⟨A2,n2,rfl,_⟩:=hq.r
 obtain ⟨L,R,c1,c2,c3,c4⟩:=q
 clear he hq hl hr
 unfold XQ.pt
 dsimp only at HSL HSR ⊢
 go_enter Tryz.func12,Tryz.ntmps12
 go_upto_region 1 with (fail)
 have K1:=Lib.hid (Blk.fresh w #[.slice A1 L.length n1,.slice A2 R.length n2,.string c1,.string c2,.string c3,.string c4] 32)
 have qq:=below_new w (.cells #[.slice A1 L.length n1,.slice A2 R.length n2,.string c1,.string c2,.string c3,.string c4] 32)
 replace B:=Lib.hid (B.out.trans (qq.mono B.out.size))
 clear qq
 generalize (w.alloc (.cells #[.slice A1 L.length n1,.slice A2 R.length n2,.string c1,.string c2,.string c3,.string c4] 32))=W1 at *
 obtain ⟨b1,hb1⟩:∃ b,w.heap.size=b:=⟨_,rfl⟩
 rw [hb1] at K1 ⊢
 have HB1:=Lib.hid hb1
 clear hb1
 have y0:=K1.out.at_ 0 _ rfl
 have y1:=K1.out.at_ 1 _ rfl
 obtain ⟨bl,hbl⟩:∃ b,shortB L=b:=⟨_,rfl⟩
 obtain ⟨br,hbr⟩:∃ b,shortB R=b:=⟨_,rfl⟩
 have HBL:=Lib.hid hbl
 have HBR:=Lib.hid hbr
 rw [hbl] at HSL
 rw [hbr] at HSR
 clear hbl hbr
 cases bl with
 | false =>
  go_wp2_with (first
   | (go_at_call 13; with_reducible refine (HKN.out _ B.out).mono ?_; rintro e wx ⟨rfl,q⟩; replace K1:=Lib.hid (K1.out.below q); replace B:=Lib.hid (B.out.trans (q.mono B.out.size)); clear q; replace y0:=K1.out.at_ 0 _ rfl; replace y1:=K1.out.at_ 1 _ rfl)
   | (go_at_call 40; with_reducible refine (HSL.out _ B.out).mono ?_; rintro e wx ⟨rfl,q⟩; replace K1:=Lib.hid (K1.out.below q); replace B:=Lib.hid (B.out.trans (q.mono B.out.size)); clear q; replace y0:=K1.out.at_ 0 _ rfl; replace y1:=K1.out.at_ 1 _ rfl)
   | fail "arm")
  go_ret
  exact ⟨rfl,B.out⟩
 | true =>
 cases br with
 | false =>
  go_wp2_with (first
   | (go_at_call 13; with_reducible refine (HKN.out _ B.out).mono ?_; rintro e wx ⟨rfl,q⟩; replace K1:=Lib.hid (K1.out.below q); replace B:=Lib.hid (B.out.trans (q.mono B.out.size)); clear q; replace y0:=K1.out.at_ 0 _ rfl; replace y1:=K1.out.at_ 1 _ rfl)
   | (go_at_call 40; with_reducible refine (HSL.out _ B.out).mono ?_; rintro e wx ⟨rfl,q⟩; replace K1:=Lib.hid (K1.out.below q); replace B:=Lib.hid (B.out.trans (q.mono B.out.size)); clear q; replace y0:=K1.out.at_ 0 _ rfl; replace y1:=K1.out.at_ 1 _ rfl)
   | (go_at_call 40; with_reducible refine (HSR.out _ B.out).mono ?_; rintro e wx ⟨rfl,q⟩; replace K1:=Lib.hid (K1.out.below q); replace B:=Lib.hid (B.out.trans (q.mono B.out.size)); clear q; replace y0:=K1.out.at_ 0 _ rfl; replace y1:=K1.out.at_ 1 _ rfl)
   | fail "arm")
  go_ret
  exact ⟨rfl,B.out⟩
 | true =>
 go_upto_region 3 with (first
  | (go_at_call 13; with_reducible refine (HKN.out _ B.out).mono ?_; rintro e wx ⟨rfl,q⟩; replace K1:=Lib.hid (K1.out.below q); replace B:=Lib.hid (B.out.trans (q.mono B.out.size)); clear q; replace y0:=K1.out.at_ 0 _ rfl; replace y1:=K1.out.at_ 1 _ rfl)
  | (go_at_call 40; with_reducible refine (HSL.out _ B.out).mono ?_; rintro e wx ⟨rfl,q⟩; replace K1:=Lib.hid (K1.out.below q); replace B:=Lib.hid (B.out.trans (q.mono B.out.size)); clear q; replace y0:=K1.out.at_ 0 _ rfl; replace y1:=K1.out.at_ 1 _ rfl)
  | (go_at_call 40; with_reducible refine (HSR.out _ B.out).mono ?_; rintro e wx ⟨rfl,q⟩; replace K1:=Lib.hid (K1.out.below q); replace B:=Lib.hid (B.out.trans (q.mono B.out.size)); clear q; replace y0:=K1.out.at_ 0 _ rfl; replace y1:=K1.out.at_ 1 _ rfl)
  | fail "arm")
 have y2:=K1.out.at_ 2 _ rfl
 have y3:=K1.out.at_ 3 _ rfl
 have y4:=K1.out.at_ 4 _ rfl
 have y5:=K1.out.at_ 5 _ rfl
 have shL:=shortB_of HBL.out
 have shR:=shortB_of HBR.out
 clear HBL HBR HSL HSR HKN
 have HSH:=Lib.hid (And.intro shL shR)
 clear shL shR
 go_upto_region 4 with (fail)
 obtain ⟨bc,hbc⟩:∃ b,wx.heap.size=b:=⟨_,rfl⟩
 have kc:=Blk.fresh wx #[.string c1,.string c2,.string c3,.string c4] 28
 have qq:=below_new wx (.cells #[.string c1,.string c2,.string c3,.string c4] 28)
 rw [hbc] at kc ⊢
 have HBC:=Lib.hid hbc
 clear hbc
 replace K1:=Lib.hid (K1.out.below qq)
 replace B:=Lib.hid (B.out.trans (qq.mono B.out.size))
 generalize (wx.alloc (.cells #[.string c1,.string c2,.string c3,.string c4] 28))=W3 at *
 have KC:=Lib.hid kc
 clear kc qq HBC
 replace y0:=K1.out.at_ 0 _ rfl
 replace y1:=K1.out.at_ 1 _ rfl
 clear y2 y3 y4 y5
 have HLL:Hid (Ret Tryz.prog w 41 #[.slice A1 L.length n1] (.int .i64 (logZ L))):=Lib.hid (fun W hW=>log_any L HSH.out.1 _ W (HE.out.below hW) (HQ.out.l.below hW))
 have HLR:Hid (Ret Tryz.prog w 41 #[.slice A2 R.length n2] (.int .i64 (logZ R))):=Lib.hid (fun W hW=>log_any R HSH.out.2 _ W (HE.out.below hW) (HQ.out.r.below hW))
 obtain ⟨z1,hz1⟩:∃ z,logZ L=z:=⟨_,rfl⟩
 obtain ⟨z2,hz2⟩:∃ z,logZ R=z:=⟨_,rfl⟩
 have HZ1:=Lib.hid hz1
 have HZ2:=Lib.hid hz2
 rw [hz1] at HLL
 rw [hz2] at HLR
 clear hz1 hz2
 go_upto_if 52 with (first
  | (go_at_call 41; with_reducible refine (HLL.out _ B.out).mono ?_; rintro e wx ⟨rfl,q⟩; replace K1:=Lib.hid (K1.out.below q); replace KC:=Lib.hid (KC.out.below q); replace B:=Lib.hid (B.out.trans (q.mono B.out.size)); clear q; replace y0:=K1.out.at_ 0 _ rfl; replace y1:=K1.out.at_ 1 _ rfl)
  | fail "arm")
 go_cut [4] from 51 (fun v wc=>v=.int .i64 (if z1=0 then z2 else z1)∧Blk wc b1 #[.slice A1 L.length n1,.slice A2 R.length n2,.string c1,.string c2,.string c3,.string c4] 32∧Blk wc bc #[.string c1,.string c2,.string c3,.string c4] 28∧Below w.heap.size w wc)
 case first =>
  by_cases hz:z1=0
  ·have hzb:(z1 == 0)=true:=by rw [hz]; rfl
   have HZ:=Lib.hid hz
   clear hz
   go_wp2_with (first
    | (go_at_call 41; with_reducible refine (HLR.out _ B.out).mono ?_; rintro e wx ⟨rfl,q⟩; replace K1:=Lib.hid (K1.out.below q); replace KC:=Lib.hid (KC.out.below q); replace B:=Lib.hid (B.out.trans (q.mono B.out.size)); clear q; replace y0:=K1.out.at_ 0 _ rfl; replace y1:=K1.out.at_ 1 _ rfl)
    | fail "arm")
   go_meet
   case rel=>exact ⟨by rw [if_pos HZ.out],K1.out,KC.out,B.out⟩
  ·have hzb:(z1 == 0)=false:=by rw [beq_eq_false_iff_ne]; exact hz
   have HZ:=Lib.hid hz
   clear hz
   go_wp2
   go_meet
   case rel=>exact ⟨by rw [if_neg HZ.out],K1.out,KC.out,B.out⟩
 case rest =>
  obtain ⟨rfl,hk1,hkc,hB⟩:=hcut
  clear K1 KC B y0 y1
  have K1:=Lib.hid hk1
  have KC:=Lib.hid hkc
  have B:=Lib.hid hB
  clear hk1 hkc hB
  obtain ⟨p1,hp1⟩:∃ p,(if z1=0 then z2 else z1)=p:=⟨_,rfl⟩
  rw [hp1]
  have HP1:=Lib.hid hp1
  clear hp1 HLL HLR
  have y0:=K1.out.at_ 0 _ rfl
  have y1:=K1.out.at_ 1 _ rfl
  obtain ⟨g,hg⟩:∃ b,decide (p1=0∧(60 < L.length ∨ 60 < R.length))=b:=⟨_,rfl⟩
  have HG:=Lib.hid hg
  clear hg
  go_upto_region 7 with (fail)
  go_cut [69] from 56 (fun v wd=>v=.bool g∧wd=wc)
  case first =>
   by_cases hz:p1=0
   case neg =>
    have hzb:(p1 == 0)=false:=by rw [beq_eq_false_iff_ne]; exact hz
    have e:g=false:=by rw [← HG.out]; exact decide_eq_false (fun e=>hz e.1)
    subst e
    clear hz
    go_wp2
    go_meet
    case rel=>exact ⟨rfl,rfl⟩
   have hzb:(p1 == 0)=true:=by rw [hz]; rfl
   by_cases m1:60 < L.length
   case pos =>
    have d1:decide ((L.length:Int) > 60)=true:=decide_eq_true (by omega)
    have e:g=true:=by rw [← HG.out]; exact decide_eq_true ⟨hz,.inl m1⟩
    subst e
    clear hz m1
    go_wp2
    go_meet
    case rel=>exact ⟨rfl,rfl⟩
   have d1:decide ((L.length:Int) > 60)=false:=decide_eq_false (by omega)
   by_cases m2:60 < R.length
   case pos =>
    have d2:decide ((R.length:Int) > 60)=true:=decide_eq_true (by omega)
    have e:g=true:=by rw [← HG.out]; exact decide_eq_true ⟨hz,.inr m2⟩
    subst e
    clear hz m1 m2
    go_wp2
    go_meet
    case rel=>exact ⟨rfl,rfl⟩
   have d2:decide ((R.length:Int) > 60)=false:=decide_eq_false (by omega)
   have e:g=false:=by rw [← HG.out]; exact decide_eq_false (fun e=>by omega)
   subst e
   clear hz m1 m2
   go_wp2
   go_meet
   case rel=>exact ⟨rfl,rfl⟩
  case rest =>
   obtain ⟨rfl,rfl⟩:=hcut
   go_upto_if 69 with (fail)
   go_cut [4] from 56 (fun v wd=>v=.int .i64 (if g=true then 4 else p1)∧wd=wc)
   case first =>
    cases g with
    | true =>
     go_wp2
     go_meet
     case rel=>exact ⟨rfl,rfl⟩
    | false =>
     go_wp2
     go_meet
     case rel=>exact ⟨rfl,rfl⟩
   case rest =>
    obtain ⟨rfl,rfl⟩:=hcut
    obtain ⟨p,hp⟩:∃ p,(if g=true then 4 else p1)=p:=⟨_,rfl⟩
    rw [hp]
    have HP:=Lib.hid hp
    clear hp y0 y1
    go_wp2
    go_loopw [4,5] (fun wv iv wr=>∃ k:Nat,k≤4∧iv=.int .i64 k∧wv=.int .i64 (wantK p (pfxR c1 c2 c3 c4 k))∧(0 < k→c1.size≤20)∧(1 < k→c2.size≤20)∧(2 < k→c3.size≤20)∧(3 < k→c4.size≤20)∧Blk wr b1 #[.slice A1 L.length n1,.slice A2 R.length n2,.string c1,.string c2,.string c3,.string c4] 32∧Blk wr bc #[.string c1,.string c2,.string c3,.string c4] 28∧Below w.heap.size w wr) (fun _ iv _=>4 - (intOf iv).toNat)
    case atStart=>exact ⟨0,Nat.zero_le _,rfl,by rw [show pfxR c1 c2 c3 c4 0=true from rfl,want_start],fun h=>absurd h (by decide),fun h=>absurd h (by decide),fun h=>absurd h (by decide),fun h=>absurd h (by decide),K1.out,KC.out,B.out⟩
    case round =>
     obtain ⟨k,hk,rfl,rfl,hs1,hs2,hs3,hs4,hk1,hkc,hB⟩:=hrel
     clear K1 KC B
     have K1:=Lib.hid hk1
     have KC:=Lib.hid hkc
     have B:=Lib.hid hB
     have HR:=Lib.hid (And.intro hs1 (And.intro hs2 (And.intro hs3 hs4)))
     clear hk1 hkc hB hs1 hs2 hs3 hs4
     rcases (show k=0 ∨ k=1 ∨ k=2 ∨ k=3 ∨ k=4 by omega) with rfl | rfl | rfl | rfl | rfl
     ·as_aux_lemma =>
      have y0:=KC.out.at_ 0 _ rfl
      by_cases hs:c1.size≤20
      case neg =>
       have d1:decide ((c1.size:Int) > 20)=true:=decide_eq_true (by omega)
       clear hs
       go_wp2
       exact bodyPost_ret (v:=.bool true) (by kernel_rfl) rfl ⟨rfl,B.out⟩
      have d1:decide ((c1.size:Int) > 20)=false:=decide_eq_false (by omega)
      have HS:=Lib.hid hs
      clear hs
      by_cases hp0:p=0
      case neg =>
       have hpb:(p == 0)=false:=by rw [beq_eq_false_iff_ne]; exact hp0
       have HP0:=Lib.hid hp0
       rw [wantK_n hp0]
       clear hp0
       go_wp2
       exact ⟨⟨1,by omega,rfl,by rw [wantK_n HP0.out],fun _=>HS.out,fun h=>absurd h (by decide),fun h=>absurd h (by decide),fun h=>absurd h (by decide),K1.out,KC.out,B.out⟩,by decide⟩
      have hpn:pfxR c1 c2 c3 c4 1=(pfxR c1 c2 c3 c4 0 && rightQ c1):=by rw [show pfxR c1 c2 c3 c4 0=true from rfl,Bool.true_and]; rfl
      have HPN:=Lib.hid hpn
      have HP0:=Lib.hid hp0
      clear hpn hp0
      cases hb:pfxR c1 c2 c3 c4 0 with
      | false =>
       rw [show wantK p false=2 from by unfold wantK; rw [if_pos HP0.out]; rfl]
       have e:pfxR c1 c2 c3 c4 1=false:=by rw [HPN.out,hb]; rfl
       have E:=Lib.hid e
       clear e hb
       go_wp2
       exact ⟨⟨1,by omega,rfl,by rw [E.out]; unfold wantK; rw [if_pos HP0.out]; rfl,fun _=>HS.out,fun h=>absurd h (by decide),fun h=>absurd h (by decide),fun h=>absurd h (by decide),K1.out,KC.out,B.out⟩,by decide⟩
      | true =>
       rw [show wantK p true=0 from by unfold wantK; rw [if_pos HP0.out]; rfl]
       have HWR:=Lib.hid (lwrong_any c1 (by have:=HS.out; omega) w HE.out)
       cases hr:rightQ c1 with
       | false =>
        rw [hr] at HWR
        have e:pfxR c1 c2 c3 c4 1=false:=by rw [HPN.out,hb,hr]; rfl
        have E:=Lib.hid e
        clear e hb hr
        replace HWR:Hid (Ret Tryz.prog w 42 #[.string c1] (.bool true)):=Lib.hid HWR.out
        go_wp2_with (first
         | (go_at_call 42; with_reducible refine (HWR.out _ B.out).mono ?_; rintro e wx ⟨rfl,q⟩; replace K1:=Lib.hid (K1.out.below q); replace KC:=Lib.hid (KC.out.below q); replace B:=Lib.hid (B.out.trans (q.mono B.out.size)); clear q)
         | fail "arm")
        exact ⟨⟨1,by omega,rfl,by rw [E.out]; unfold wantK; rw [if_pos HP0.out]; rfl,fun _=>HS.out,fun h=>absurd h (by decide),fun h=>absurd h (by decide),fun h=>absurd h (by decide),K1.out,KC.out,B.out⟩,by decide⟩
       | true =>
        rw [hr] at HWR
        have e:pfxR c1 c2 c3 c4 1=true:=by rw [HPN.out,hb,hr]; rfl
        have E:=Lib.hid e
        clear e hb hr
        replace HWR:Hid (Ret Tryz.prog w 42 #[.string c1] (.bool false)):=Lib.hid HWR.out
        go_wp2_with (first
         | (go_at_call 42; with_reducible refine (HWR.out _ B.out).mono ?_; rintro e wx ⟨rfl,q⟩; replace K1:=Lib.hid (K1.out.below q); replace KC:=Lib.hid (KC.out.below q); replace B:=Lib.hid (B.out.trans (q.mono B.out.size)); clear q)
         | fail "arm")
        exact ⟨⟨1,by omega,rfl,by rw [E.out]; unfold wantK; rw [if_pos HP0.out]; rfl,fun _=>HS.out,fun h=>absurd h (by decide),fun h=>absurd h (by decide),fun h=>absurd h (by decide),K1.out,KC.out,B.out⟩,by decide⟩
     ·as_aux_lemma =>
      have y0:=KC.out.at_ 1 _ rfl
      by_cases hs:c2.size≤20
      case neg =>
       have d1:decide ((c2.size:Int) > 20)=true:=decide_eq_true (by omega)
       clear hs
       go_wp2
       exact bodyPost_ret (v:=.bool true) (by kernel_rfl) rfl ⟨rfl,B.out⟩
      have d1:decide ((c2.size:Int) > 20)=false:=decide_eq_false (by omega)
      have HS:=Lib.hid hs
      clear hs
      by_cases hp0:p=0
      case neg =>
       have hpb:(p == 0)=false:=by rw [beq_eq_false_iff_ne]; exact hp0
       have HP0:=Lib.hid hp0
       rw [wantK_n hp0]
       clear hp0
       go_wp2
       exact ⟨⟨2,by omega,rfl,by rw [wantK_n HP0.out],fun _=>HR.out.1 (by decide),fun _=>HS.out,fun h=>absurd h (by decide),fun h=>absurd h (by decide),K1.out,KC.out,B.out⟩,by decide⟩
      have hpn:pfxR c1 c2 c3 c4 2=(pfxR c1 c2 c3 c4 1 && rightQ c2):=rfl
      have HPN:=Lib.hid hpn
      have HP0:=Lib.hid hp0
      clear hpn hp0
      cases hb:pfxR c1 c2 c3 c4 1 with
      | false =>
       rw [show wantK p false=2 from by unfold wantK; rw [if_pos HP0.out]; rfl]
       have e:pfxR c1 c2 c3 c4 2=false:=by rw [HPN.out,hb]; rfl
       have E:=Lib.hid e
       clear e hb
       go_wp2
       exact ⟨⟨2,by omega,rfl,by rw [E.out]; unfold wantK; rw [if_pos HP0.out]; rfl,fun _=>HR.out.1 (by decide),fun _=>HS.out,fun h=>absurd h (by decide),fun h=>absurd h (by decide),K1.out,KC.out,B.out⟩,by decide⟩
      | true =>
       rw [show wantK p true=0 from by unfold wantK; rw [if_pos HP0.out]; rfl]
       have HWR:=Lib.hid (lwrong_any c2 (by have:=HS.out; omega) w HE.out)
       cases hr:rightQ c2 with
       | false =>
        rw [hr] at HWR
        have e:pfxR c1 c2 c3 c4 2=false:=by rw [HPN.out,hb,hr]; rfl
        have E:=Lib.hid e
        clear e hb hr
        replace HWR:Hid (Ret Tryz.prog w 42 #[.string c2] (.bool true)):=Lib.hid HWR.out
        go_wp2_with (first
         | (go_at_call 42; with_reducible refine (HWR.out _ B.out).mono ?_; rintro e wx ⟨rfl,q⟩; replace K1:=Lib.hid (K1.out.below q); replace KC:=Lib.hid (KC.out.below q); replace B:=Lib.hid (B.out.trans (q.mono B.out.size)); clear q)
         | fail "arm")
        exact ⟨⟨2,by omega,rfl,by rw [E.out]; unfold wantK; rw [if_pos HP0.out]; rfl,fun _=>HR.out.1 (by decide),fun _=>HS.out,fun h=>absurd h (by decide),fun h=>absurd h (by decide),K1.out,KC.out,B.out⟩,by decide⟩
       | true =>
        rw [hr] at HWR
        have e:pfxR c1 c2 c3 c4 2=true:=by rw [HPN.out,hb,hr]; rfl
        have E:=Lib.hid e
        clear e hb hr
        replace HWR:Hid (Ret Tryz.prog w 42 #[.string c2] (.bool false)):=Lib.hid HWR.out
        go_wp2_with (first
         | (go_at_call 42; with_reducible refine (HWR.out _ B.out).mono ?_; rintro e wx ⟨rfl,q⟩; replace K1:=Lib.hid (K1.out.below q); replace KC:=Lib.hid (KC.out.below q); replace B:=Lib.hid (B.out.trans (q.mono B.out.size)); clear q)
         | fail "arm")
        exact ⟨⟨2,by omega,rfl,by rw [E.out]; unfold wantK; rw [if_pos HP0.out]; rfl,fun _=>HR.out.1 (by decide),fun _=>HS.out,fun h=>absurd h (by decide),fun h=>absurd h (by decide),K1.out,KC.out,B.out⟩,by decide⟩
     ·as_aux_lemma =>
      have y0:=KC.out.at_ 2 _ rfl
      by_cases hs:c3.size≤20
      case neg =>
       have d1:decide ((c3.size:Int) > 20)=true:=decide_eq_true (by omega)
       clear hs
       go_wp2
       exact bodyPost_ret (v:=.bool true) (by kernel_rfl) rfl ⟨rfl,B.out⟩
      have d1:decide ((c3.size:Int) > 20)=false:=decide_eq_false (by omega)
      have HS:=Lib.hid hs
      clear hs
      by_cases hp0:p=0
      case neg =>
       have hpb:(p == 0)=false:=by rw [beq_eq_false_iff_ne]; exact hp0
       have HP0:=Lib.hid hp0
       rw [wantK_n hp0]
       clear hp0
       go_wp2
       exact ⟨⟨3,by omega,rfl,by rw [wantK_n HP0.out],fun _=>HR.out.1 (by decide),fun _=>HR.out.2.1 (by decide),fun _=>HS.out,fun h=>absurd h (by decide),K1.out,KC.out,B.out⟩,by decide⟩
      have hpn:pfxR c1 c2 c3 c4 3=(pfxR c1 c2 c3 c4 2 && rightQ c3):=rfl
      have HPN:=Lib.hid hpn
      have HP0:=Lib.hid hp0
      clear hpn hp0
      cases hb:pfxR c1 c2 c3 c4 2 with
      | false =>
       rw [show wantK p false=2 from by unfold wantK; rw [if_pos HP0.out]; rfl]
       have e:pfxR c1 c2 c3 c4 3=false:=by rw [HPN.out,hb]; rfl
       have E:=Lib.hid e
       clear e hb
       go_wp2
       exact ⟨⟨3,by omega,rfl,by rw [E.out]; unfold wantK; rw [if_pos HP0.out]; rfl,fun _=>HR.out.1 (by decide),fun _=>HR.out.2.1 (by decide),fun _=>HS.out,fun h=>absurd h (by decide),K1.out,KC.out,B.out⟩,by decide⟩
      | true =>
       rw [show wantK p true=0 from by unfold wantK; rw [if_pos HP0.out]; rfl]
       have HWR:=Lib.hid (lwrong_any c3 (by have:=HS.out; omega) w HE.out)
       cases hr:rightQ c3 with
       | false =>
        rw [hr] at HWR
        have e:pfxR c1 c2 c3 c4 3=false:=by rw [HPN.out,hb,hr]; rfl
        have E:=Lib.hid e
        clear e hb hr
        replace HWR:Hid (Ret Tryz.prog w 42 #[.string c3] (.bool true)):=Lib.hid HWR.out
        go_wp2_with (first
         | (go_at_call 42; with_reducible refine (HWR.out _ B.out).mono ?_; rintro e wx ⟨rfl,q⟩; replace K1:=Lib.hid (K1.out.below q); replace KC:=Lib.hid (KC.out.below q); replace B:=Lib.hid (B.out.trans (q.mono B.out.size)); clear q)
         | fail "arm")
        exact ⟨⟨3,by omega,rfl,by rw [E.out]; unfold wantK; rw [if_pos HP0.out]; rfl,fun _=>HR.out.1 (by decide),fun _=>HR.out.2.1 (by decide),fun _=>HS.out,fun h=>absurd h (by decide),K1.out,KC.out,B.out⟩,by decide⟩
       | true =>
        rw [hr] at HWR
        have e:pfxR c1 c2 c3 c4 3=true:=by rw [HPN.out,hb,hr]; rfl
        have E:=Lib.hid e
        clear e hb hr
        replace HWR:Hid (Ret Tryz.prog w 42 #[.string c3] (.bool false)):=Lib.hid HWR.out
        go_wp2_with (first
         | (go_at_call 42; with_reducible refine (HWR.out _ B.out).mono ?_; rintro e wx ⟨rfl,q⟩; replace K1:=Lib.hid (K1.out.below q); replace KC:=Lib.hid (KC.out.below q); replace B:=Lib.hid (B.out.trans (q.mono B.out.size)); clear q)
         | fail "arm")
        exact ⟨⟨3,by omega,rfl,by rw [E.out]; unfold wantK; rw [if_pos HP0.out]; rfl,fun _=>HR.out.1 (by decide),fun _=>HR.out.2.1 (by decide),fun _=>HS.out,fun h=>absurd h (by decide),K1.out,KC.out,B.out⟩,by decide⟩
     ·as_aux_lemma =>
      have y0:=KC.out.at_ 3 _ rfl
      by_cases hs:c4.size≤20
      case neg =>
       have d1:decide ((c4.size:Int) > 20)=true:=decide_eq_true (by omega)
       clear hs
       go_wp2
       exact bodyPost_ret (v:=.bool true) (by kernel_rfl) rfl ⟨rfl,B.out⟩
      have d1:decide ((c4.size:Int) > 20)=false:=decide_eq_false (by omega)
      have HS:=Lib.hid hs
      clear hs
      by_cases hp0:p=0
      case neg =>
       have hpb:(p == 0)=false:=by rw [beq_eq_false_iff_ne]; exact hp0
       have HP0:=Lib.hid hp0
       rw [wantK_n hp0]
       clear hp0
       go_wp2
       exact ⟨⟨4,by omega,rfl,by rw [wantK_n HP0.out],fun _=>HR.out.1 (by decide),fun _=>HR.out.2.1 (by decide),fun _=>HR.out.2.2.1 (by decide),fun _=>HS.out,K1.out,KC.out,B.out⟩,by decide⟩
      have hpn:pfxR c1 c2 c3 c4 4=(pfxR c1 c2 c3 c4 3 && rightQ c4):=rfl
      have HPN:=Lib.hid hpn
      have HP0:=Lib.hid hp0
      clear hpn hp0
      cases hb:pfxR c1 c2 c3 c4 3 with
      | false =>
       rw [show wantK p false=2 from by unfold wantK; rw [if_pos HP0.out]; rfl]
       have e:pfxR c1 c2 c3 c4 4=false:=by rw [HPN.out,hb]; rfl
       have E:=Lib.hid e
       clear e hb
       go_wp2
       exact ⟨⟨4,by omega,rfl,by rw [E.out]; unfold wantK; rw [if_pos HP0.out]; rfl,fun _=>HR.out.1 (by decide),fun _=>HR.out.2.1 (by decide),fun _=>HR.out.2.2.1 (by decide),fun _=>HS.out,K1.out,KC.out,B.out⟩,by decide⟩
      | true =>
       rw [show wantK p true=0 from by unfold wantK; rw [if_pos HP0.out]; rfl]
       have HWR:=Lib.hid (lwrong_any c4 (by have:=HS.out; omega) w HE.out)
       cases hr:rightQ c4 with
       | false =>
        rw [hr] at HWR
        have e:pfxR c1 c2 c3 c4 4=false:=by rw [HPN.out,hb,hr]; rfl
        have E:=Lib.hid e
        clear e hb hr
        replace HWR:Hid (Ret Tryz.prog w 42 #[.string c4] (.bool true)):=Lib.hid HWR.out
        go_wp2_with (first
         | (go_at_call 42; with_reducible refine (HWR.out _ B.out).mono ?_; rintro e wx ⟨rfl,q⟩; replace K1:=Lib.hid (K1.out.below q); replace KC:=Lib.hid (KC.out.below q); replace B:=Lib.hid (B.out.trans (q.mono B.out.size)); clear q)
         | fail "arm")
        exact ⟨⟨4,by omega,rfl,by rw [E.out]; unfold wantK; rw [if_pos HP0.out]; rfl,fun _=>HR.out.1 (by decide),fun _=>HR.out.2.1 (by decide),fun _=>HR.out.2.2.1 (by decide),fun _=>HS.out,K1.out,KC.out,B.out⟩,by decide⟩
       | true =>
        rw [hr] at HWR
        have e:pfxR c1 c2 c3 c4 4=true:=by rw [HPN.out,hb,hr]; rfl
        have E:=Lib.hid e
        clear e hb hr
        replace HWR:Hid (Ret Tryz.prog w 42 #[.string c4] (.bool false)):=Lib.hid HWR.out
        go_wp2_with (first
         | (go_at_call 42; with_reducible refine (HWR.out _ B.out).mono ?_; rintro e wx ⟨rfl,q⟩; replace K1:=Lib.hid (K1.out.below q); replace KC:=Lib.hid (KC.out.below q); replace B:=Lib.hid (B.out.trans (q.mono B.out.size)); clear q)
         | fail "arm")
        exact ⟨⟨4,by omega,rfl,by rw [E.out]; unfold wantK; rw [if_pos HP0.out]; rfl,fun _=>HR.out.1 (by decide),fun _=>HR.out.2.1 (by decide),fun _=>HR.out.2.2.1 (by decide),fun _=>HS.out,K1.out,KC.out,B.out⟩,by decide⟩
     ·have hs1:=HR.out.1 (by decide)
      have hs2:=HR.out.2.1 (by decide)
      have hs3:=HR.out.2.2.1 (by decide)
      have hs4:=HR.out.2.2.2 (by decide)
      have HS:=Lib.hid (And.intro hs1 (And.intro hs2 (And.intro hs3 hs4)))
      clear hs1 hs2 hs3 hs4 HR
      obtain ⟨Z,hZ⟩:∃ z,chkT z1 z2 L.length R.length (cosT c1 c2 c3 c4)=z:=⟨_,rfl⟩
      have HZ:=Lib.hid hZ
      clear hZ
      have HZP:Hid (Z=if p=0 then cosT c1 c2 c3 c4 else p):=Lib.hid (by
       rw [← HZ.out,← HP.out,← HG.out,← HP1.out]
       exact chkT_p _ _ _ _ _)
      obtain ⟨m,hm⟩:∃ m,wantK p (pfxR c1 c2 c3 c4 4)=m:=⟨_,rfl⟩
      rw [hm]
      have HM:=Lib.hid hm
      clear hm
      rw [show ((4:Nat):Int)=4 from rfl]
      go_upto_block 2 with (fail)
      go_cut [4] from 89 (fun v wd=>v=.int .i64 Z∧Blk wd b1 #[.slice A1 L.length n1,.slice A2 R.length n2,.string c1,.string c2,.string c3,.string c4] 32∧Below w.heap.size w wd)
      case first =>
       by_cases hm0:m=0
       case neg =>
        as_aux_lemma =>
        have hmb:(m == 0)=false:=by rw [beq_eq_false_iff_ne]; exact hm0
        have e:Z=m:=by
         rw [HZP.out,← HM.out]
         exact want_end (by rw [HM.out]; exact hm0)
        subst e
        clear hm0
        go_wp2
        go_loopw [4,6] (fun wv iv wy=>wv=.int .i64 Z∧iv=.int .i64 0∧Blk wy b1 #[.slice A1 L.length n1,.slice A2 R.length n2,.string c1,.string c2,.string c3,.string c4] 32∧Below w.heap.size w wy) (fun _ iv _=>0)
        case atStart=>exact ⟨rfl,rfl,K1.out,B.out⟩
        case round =>
         obtain ⟨rfl,rfl,hk1,hB⟩:=hrel
         have K1':=Lib.hid hk1
         have B':=Lib.hid hB
         clear hk1 hB
         go_wp2
         go_meet
         case rel=>exact ⟨rfl,K1'.out,B'.out⟩
       as_aux_lemma =>
       obtain ⟨hp0,hpx⟩:=want_zero (HM.out.trans hm0)
       obtain ⟨r1,r2,r3,r4⟩:=pfxR_t hpx
       replace HZP:=Lib.hid (HZP.out.trans ((if_pos hp0).trans (cosT_sg r1 r2 r3 r4)))
       have HS1:=Lib.hid (signT_any r1 HS.out.1 w)
       have HS2:=Lib.hid (signT_any r2 HS.out.2.1 w)
       have HS3:=Lib.hid (signT_any r3 HS.out.2.2.1 w)
       have HS4:=Lib.hid (signT_any r4 HS.out.2.2.2 w)
       subst hm0
       clear hp0 hpx r1 r2 r3 r4
       obtain ⟨s1,e1⟩:∃ s,(numT c1).num.sign=s:=⟨_,rfl⟩
       rw [e1] at HZP HS1
       clear e1
       obtain ⟨s2,e2⟩:∃ s,(numT c2).num.sign=s:=⟨_,rfl⟩
       rw [e2] at HZP HS2
       clear e2
       obtain ⟨s3,e3⟩:∃ s,(numT c3).num.sign=s:=⟨_,rfl⟩
       rw [e3] at HZP HS3
       clear e3
       obtain ⟨s4,e4⟩:∃ s,(numT c4).num.sign=s:=⟨_,rfl⟩
       rw [e4] at HZP HS4
       clear e4
       go_wp2
       go_loopw [4,6] (fun wv iv wy=>∃ (k:Nat) (d:Bool),k≤4∧iv=.int .i64 k∧wv=.int .i64 (if d=true then 0 else 3)∧(d=false→Z=3)∧(d=true→(0 < k→0≤s1)∧(1 < k→0≤s2)∧(2 < k→0≤s3)∧(3 < k→0≤s4))∧Blk wy b1 #[.slice A1 L.length n1,.slice A2 R.length n2,.string c1,.string c2,.string c3,.string c4] 32∧Blk wy bc #[.string c1,.string c2,.string c3,.string c4] 28∧Below w.heap.size w wy) (fun _ iv _=>4 - (intOf iv).toNat)
       case atStart=>exact ⟨0,true,Nat.zero_le _,rfl,rfl,fun h=>(by cases h),fun _=>⟨fun h=>absurd h (by decide),fun h=>absurd h (by decide),fun h=>absurd h (by decide),fun h=>absurd h (by decide)⟩,K1.out,KC.out,B.out⟩
       case round =>
        obtain ⟨k,d,hk,rfl,rfl,hd3,hdt,hk1,hkc,hB⟩:=hrel
        clear K1 KC B
        have K1:=Lib.hid hk1
        have KC:=Lib.hid hkc
        have B:=Lib.hid hB
        have HD3:=Lib.hid hd3
        have HDT:=Lib.hid hdt
        clear hk1 hkc hB hd3 hdt
        cases d with
        | false =>
         rw [show (if false=true then (0:Int) else 3)=3 from rfl]
         have e:Z=3:=HD3.out rfl
         have E:=Lib.hid e
         clear e
         rcases (show k=0 ∨ k=1 ∨ k=2 ∨ k=3 ∨ k=4 by omega) with rfl | rfl | rfl | rfl | rfl
         all_goals
          as_aux_lemma =>
          go_wp2
          go_meet
          case rel=>exact ⟨by rw [E.out],K1.out,B.out⟩
        | true =>
        rw [show (if true=true then (0:Int) else 3)=0 from rfl]
        replace HDT:=Lib.hid (HDT.out rfl)
        rcases (show k=0 ∨ k=1 ∨ k=2 ∨ k=3 ∨ k=4 by omega) with rfl | rfl | rfl | rfl | rfl
        ·as_aux_lemma =>
         have y0:=KC.out.at_ 0 _ rfl
         by_cases r:s1 < 0
         ·have g0:decide (s1 < 0)=true:=decide_eq_true r
          have e:Z=3:=by rw [HZP.out,if_pos (.inl r)]
          have E:=Lib.hid e
          clear e r
          go_wp2_with (first
           | (go_at_call 43; with_reducible refine (HS1.out _ B.out).mono ?_; rintro e wx ⟨rfl,q⟩; replace K1:=Lib.hid (K1.out.below q); replace KC:=Lib.hid (KC.out.below q); replace B:=Lib.hid (B.out.trans (q.mono B.out.size)); clear q)
           | fail "arm")
          exact ⟨⟨1,false,by omega,rfl,rfl,fun _=>E.out,fun h=>(by cases h),K1.out,KC.out,B.out⟩,by decide⟩
         ·have g0:decide (s1 < 0)=false:=decide_eq_false r
          have RN:=Lib.hid (Int.not_lt.1 r)
          clear r
          go_wp2_with (first
           | (go_at_call 43; with_reducible refine (HS1.out _ B.out).mono ?_; rintro e wx ⟨rfl,q⟩; replace K1:=Lib.hid (K1.out.below q); replace KC:=Lib.hid (KC.out.below q); replace B:=Lib.hid (B.out.trans (q.mono B.out.size)); clear q)
           | fail "arm")
          exact ⟨⟨1,true,by omega,rfl,rfl,fun h=>(by cases h),fun _=>⟨fun _=>RN.out,fun h=>absurd h (by decide),fun h=>absurd h (by decide),fun h=>absurd h (by decide)⟩,K1.out,KC.out,B.out⟩,by decide⟩
        ·as_aux_lemma =>
         have y0:=KC.out.at_ 1 _ rfl
         by_cases r:s2 < 0
         ·have g0:decide (s2 < 0)=true:=decide_eq_true r
          have e:Z=3:=by rw [HZP.out,if_pos (.inr (.inl r))]
          have E:=Lib.hid e
          clear e r
          go_wp2_with (first
           | (go_at_call 43; with_reducible refine (HS2.out _ B.out).mono ?_; rintro e wx ⟨rfl,q⟩; replace K1:=Lib.hid (K1.out.below q); replace KC:=Lib.hid (KC.out.below q); replace B:=Lib.hid (B.out.trans (q.mono B.out.size)); clear q)
           | fail "arm")
          exact ⟨⟨2,false,by omega,rfl,rfl,fun _=>E.out,fun h=>(by cases h),K1.out,KC.out,B.out⟩,by decide⟩
         ·have g0:decide (s2 < 0)=false:=decide_eq_false r
          have RN:=Lib.hid (Int.not_lt.1 r)
          clear r
          go_wp2_with (first
           | (go_at_call 43; with_reducible refine (HS2.out _ B.out).mono ?_; rintro e wx ⟨rfl,q⟩; replace K1:=Lib.hid (K1.out.below q); replace KC:=Lib.hid (KC.out.below q); replace B:=Lib.hid (B.out.trans (q.mono B.out.size)); clear q)
           | fail "arm")
          exact ⟨⟨2,true,by omega,rfl,rfl,fun h=>(by cases h),fun _=>⟨fun _=>HDT.out.1 (by decide),fun _=>RN.out,fun h=>absurd h (by decide),fun h=>absurd h (by decide)⟩,K1.out,KC.out,B.out⟩,by decide⟩
        ·as_aux_lemma =>
         have y0:=KC.out.at_ 2 _ rfl
         by_cases r:s3 < 0
         ·have g0:decide (s3 < 0)=true:=decide_eq_true r
          have e:Z=3:=by rw [HZP.out,if_pos (.inr (.inr (.inl r)))]
          have E:=Lib.hid e
          clear e r
          go_wp2_with (first
           | (go_at_call 43; with_reducible refine (HS3.out _ B.out).mono ?_; rintro e wx ⟨rfl,q⟩; replace K1:=Lib.hid (K1.out.below q); replace KC:=Lib.hid (KC.out.below q); replace B:=Lib.hid (B.out.trans (q.mono B.out.size)); clear q)
           | fail "arm")
          exact ⟨⟨3,false,by omega,rfl,rfl,fun _=>E.out,fun h=>(by cases h),K1.out,KC.out,B.out⟩,by decide⟩
         ·have g0:decide (s3 < 0)=false:=decide_eq_false r
          have RN:=Lib.hid (Int.not_lt.1 r)
          clear r
          go_wp2_with (first
           | (go_at_call 43; with_reducible refine (HS3.out _ B.out).mono ?_; rintro e wx ⟨rfl,q⟩; replace K1:=Lib.hid (K1.out.below q); replace KC:=Lib.hid (KC.out.below q); replace B:=Lib.hid (B.out.trans (q.mono B.out.size)); clear q)
           | fail "arm")
          exact ⟨⟨3,true,by omega,rfl,rfl,fun h=>(by cases h),fun _=>⟨fun _=>HDT.out.1 (by decide),fun _=>HDT.out.2.1 (by decide),fun _=>RN.out,fun h=>absurd h (by decide)⟩,K1.out,KC.out,B.out⟩,by decide⟩
        ·as_aux_lemma =>
         have y0:=KC.out.at_ 3 _ rfl
         by_cases r:s4 < 0
         ·have g0:decide (s4 < 0)=true:=decide_eq_true r
          have e:Z=3:=by rw [HZP.out,if_pos (.inr (.inr (.inr r)))]
          have E:=Lib.hid e
          clear e r
          go_wp2_with (first
           | (go_at_call 43; with_reducible refine (HS4.out _ B.out).mono ?_; rintro e wx ⟨rfl,q⟩; replace K1:=Lib.hid (K1.out.below q); replace KC:=Lib.hid (KC.out.below q); replace B:=Lib.hid (B.out.trans (q.mono B.out.size)); clear q)
           | fail "arm")
          exact ⟨⟨4,false,by omega,rfl,rfl,fun _=>E.out,fun h=>(by cases h),K1.out,KC.out,B.out⟩,by decide⟩
         ·have g0:decide (s4 < 0)=false:=decide_eq_false r
          have RN:=Lib.hid (Int.not_lt.1 r)
          clear r
          go_wp2_with (first
           | (go_at_call 43; with_reducible refine (HS4.out _ B.out).mono ?_; rintro e wx ⟨rfl,q⟩; replace K1:=Lib.hid (K1.out.below q); replace KC:=Lib.hid (KC.out.below q); replace B:=Lib.hid (B.out.trans (q.mono B.out.size)); clear q)
           | fail "arm")
          exact ⟨⟨4,true,by omega,rfl,rfl,fun h=>(by cases h),fun _=>⟨fun _=>HDT.out.1 (by decide),fun _=>HDT.out.2.1 (by decide),fun _=>HDT.out.2.2.1 (by decide),fun _=>RN.out⟩,K1.out,KC.out,B.out⟩,by decide⟩
        ·as_aux_lemma =>
         have e:Z=0:=by
          rw [HZP.out,if_neg (fun e=>by
           rcases e with e | e | e | e
           ·exact absurd e (Int.not_lt.2 (HDT.out.1 (by decide)))
           ·exact absurd e (Int.not_lt.2 (HDT.out.2.1 (by decide)))
           ·exact absurd e (Int.not_lt.2 (HDT.out.2.2.1 (by decide)))
           ·exact absurd e (Int.not_lt.2 (HDT.out.2.2.2 (by decide))))]
         have E:=Lib.hid e
         clear e
         go_wp2
         go_meet
         case rel=>exact ⟨by rw [E.out],K1.out,B.out⟩
      case rest =>
       as_aux_lemma =>
       obtain ⟨rfl,hk1,hB⟩:=hcut
       clear K1 KC B
       have K1:=Lib.hid hk1
       have B:=Lib.hid hB
       clear hk1 hB
       have HCK0:=chk_any ⟨L,R,c1,c2,c3,c4⟩ ⟨HSH.out.1,HSH.out.2,HS.out.1,HS.out.2.1,HS.out.2.2.1,HS.out.2.2.2⟩ (.slice A1 L.length n1) (.slice A2 R.length n2) w HE.out HQ.out
       have hcz:chkZ ⟨L,R,c1,c2,c3,c4⟩=Z:=by
        rw [← HZ.out,← HZ1.out,← HZ2.out]
        rfl
       rw [hcz] at HCK0
       have HCK:Hid (Ret Tryz.prog w 44 #[.agg #[.slice A1 L.length n1,.slice A2 R.length n2,.string c1,.string c2,.string c3,.string c4]] (.int .i64 Z)):=Lib.hid HCK0
       clear HCK0 hcz HZ HZP HM HP HG HP1 HZ1 HZ2
       have y0:=K1.out.at_ 0 _ rfl
       have y1:=K1.out.at_ 1 _ rfl
       have y2:=K1.out.at_ 2 _ rfl
       have y3:=K1.out.at_ 3 _ rfl
       have y4:=K1.out.at_ 4 _ rfl
       have y5:=K1.out.at_ 5 _ rfl
       by_cases hz:Z=0
       case pos =>
        subst hz
        go_wp2_with (first
         | (go_at_call 44; with_reducible refine (HCK.out _ B.out).mono ?_; rintro e wx ⟨rfl,q⟩; replace K1:=Lib.hid (K1.out.below q); replace B:=Lib.hid (B.out.trans (q.mono B.out.size)); clear q; replace y0:=K1.out.at_ 0 _ rfl; replace y1:=K1.out.at_ 1 _ rfl; replace y2:=K1.out.at_ 2 _ rfl; replace y3:=K1.out.at_ 3 _ rfl; replace y4:=K1.out.at_ 4 _ rfl; replace y5:=K1.out.at_ 5 _ rfl)
         | fail "arm")
        exact bodyPost_ret (v:=.bool true) (by kernel_rfl) rfl ⟨rfl,B.out⟩
       have hzb:(Z == 0)=false:=by rw [beq_eq_false_iff_ne]; exact hz
       have HCOST:=Lib.hid (cost_bad A1 A2 L.length R.length n1 n2 c1 c2 c3 c4 Z hzb w HCK.out)
       have HQT:=Lib.hid (fun v=>qtotal_bad A1 A2 L.length R.length n1 n2 c1 c2 c3 c4 Z hzb w v HCK.out)
       have HTOT:=Lib.hid (total_bad A1 A2 L.length R.length n1 n2 c1 c2 c3 c4 Z hzb w (HQT.out _))
       have HPAR:=Lib.hid (partners_bad A1 A2 L.length R.length n1 n2 c1 c2 c3 c4 Z hzb w (HQT.out _))
       have HVER:=Lib.hid (verify_bad A1 A2 L.length R.length n1 n2 c1 c2 c3 c4 Z hzb w (HQT.out _))
       have HALL:=Lib.hid (all_bad A1 A2 L.length R.length n1 n2 c1 c2 c3 c4 Z hzb w HCK.out)
       have HCNT:=Lib.hid (count_bad A1 A2 L.length R.length n1 n2 c1 c2 c3 c4 Z hzb w HCK.out)
       have HGRA:=Lib.hid (graph_bad A1 A2 L.length R.length n1 n2 c1 c2 c3 c4 Z hzb w HCK.out)
       have HPOT:=Lib.hid (potentials_bad A1 A2 L.length R.length n1 n2 c1 c2 c3 c4 Z hzb w HCK.out)
       have HBST:=Lib.hid (best_bad A1 A2 L.length R.length n1 n2 c1 c2 c3 c4 Z hzb w HCK.out)
       clear hz
       go_upto_region 28 with (first
        | (go_at_call 44; with_reducible refine (HCK.out _ B.out).mono ?_; rintro e wx ⟨rfl,q⟩; replace K1:=Lib.hid (K1.out.below q); replace B:=Lib.hid (B.out.trans (q.mono B.out.size)); clear q; replace y0:=K1.out.at_ 0 _ rfl; replace y1:=K1.out.at_ 1 _ rfl; replace y2:=K1.out.at_ 2 _ rfl; replace y3:=K1.out.at_ 3 _ rfl; replace y4:=K1.out.at_ 4 _ rfl; replace y5:=K1.out.at_ 5 _ rfl)
        | (go_at_call 23; with_reducible refine (HCOST.out _ B.out).mono ?_; rintro e wx ⟨rfl,q⟩; replace K1:=Lib.hid (K1.out.below q); replace B:=Lib.hid (B.out.trans (q.mono B.out.size)); clear q; replace y0:=K1.out.at_ 0 _ rfl; replace y1:=K1.out.at_ 1 _ rfl; replace y2:=K1.out.at_ 2 _ rfl; replace y3:=K1.out.at_ 3 _ rfl; replace y4:=K1.out.at_ 4 _ rfl; replace y5:=K1.out.at_ 5 _ rfl)
        | (go_at_call 25; with_reducible refine (HTOT.out _ B.out).mono ?_; rintro e wx ⟨rfl,q⟩; replace K1:=Lib.hid (K1.out.below q); replace B:=Lib.hid (B.out.trans (q.mono B.out.size)); clear q; replace y0:=K1.out.at_ 0 _ rfl; replace y1:=K1.out.at_ 1 _ rfl; replace y2:=K1.out.at_ 2 _ rfl; replace y3:=K1.out.at_ 3 _ rfl; replace y4:=K1.out.at_ 4 _ rfl; replace y5:=K1.out.at_ 5 _ rfl)
        | (go_at_call 15; with_reducible refine (HBST.out _ B.out).mono ?_; rintro e wx ⟨rfl,q⟩; replace K1:=Lib.hid (K1.out.below q); replace B:=Lib.hid (B.out.trans (q.mono B.out.size)); clear q; replace y0:=K1.out.at_ 0 _ rfl; replace y1:=K1.out.at_ 1 _ rfl; replace y2:=K1.out.at_ 2 _ rfl; replace y3:=K1.out.at_ 3 _ rfl; replace y4:=K1.out.at_ 4 _ rfl; replace y5:=K1.out.at_ 5 _ rfl)
        | fail "arm")
       obtain ⟨ba,hba⟩:∃ b,wx.heap.size=b:=⟨_,rfl⟩
       have ka:=Blk.fresh wx #[.slice none 0 0,.string ⟨#[]⟩] 36
       have qq:=below_new wx (.cells #[.slice none 0 0,.string ⟨#[]⟩] 36)
       rw [hba] at ka ⊢
       have HBA:=Lib.hid hba
       clear hba
       replace K1:=Lib.hid (K1.out.below qq)
       replace B:=Lib.hid (B.out.trans (qq.mono B.out.size))
       generalize (wx.alloc (.cells #[.slice none 0 0,.string ⟨#[]⟩] 36))=WA at *
       have KA:=Lib.hid ka
       clear ka qq
       have a0:=KA.out.at_ 0 _ rfl
       have a1:=KA.out.at_ 1 _ rfl
       replace y0:=K1.out.at_ 0 _ rfl
       replace y1:=K1.out.at_ 1 _ rfl
       replace y2:=K1.out.at_ 2 _ rfl
       replace y3:=K1.out.at_ 3 _ rfl
       replace y4:=K1.out.at_ 4 _ rfl
       replace y5:=K1.out.at_ 5 _ rfl
       go_wp2_with (first
        | (go_at_call 28; with_reducible refine (HALL.out _ B.out).mono ?_; rintro e wx ⟨rfl,q⟩; replace K1:=Lib.hid (K1.out.below q); replace KA:=Lib.hid (KA.out.below q); replace B:=Lib.hid (B.out.trans (q.mono B.out.size)); clear q; replace y0:=K1.out.at_ 0 _ rfl; replace y1:=K1.out.at_ 1 _ rfl; replace y2:=K1.out.at_ 2 _ rfl; replace y3:=K1.out.at_ 3 _ rfl; replace y4:=K1.out.at_ 4 _ rfl; replace y5:=K1.out.at_ 5 _ rfl; replace a0:=KA.out.at_ 0 _ rfl; replace a1:=KA.out.at_ 1 _ rfl)
        | (go_at_call 16; with_reducible refine (HCNT.out _ B.out).mono ?_; rintro e wx ⟨rfl,q⟩; replace K1:=Lib.hid (K1.out.below q); replace KA:=Lib.hid (KA.out.below q); replace B:=Lib.hid (B.out.trans (q.mono B.out.size)); clear q; replace y0:=K1.out.at_ 0 _ rfl; replace y1:=K1.out.at_ 1 _ rfl; replace y2:=K1.out.at_ 2 _ rfl; replace y3:=K1.out.at_ 3 _ rfl; replace y4:=K1.out.at_ 4 _ rfl; replace y5:=K1.out.at_ 5 _ rfl; replace a0:=KA.out.at_ 0 _ rfl; replace a1:=KA.out.at_ 1 _ rfl)
        | (go_at_call 30; with_reducible refine (HGRA.out _ B.out).mono ?_; rintro e wx ⟨rfl,q⟩; replace K1:=Lib.hid (K1.out.below q); replace KA:=Lib.hid (KA.out.below q); replace B:=Lib.hid (B.out.trans (q.mono B.out.size)); clear q; replace y0:=K1.out.at_ 0 _ rfl; replace y1:=K1.out.at_ 1 _ rfl; replace y2:=K1.out.at_ 2 _ rfl; replace y3:=K1.out.at_ 3 _ rfl; replace y4:=K1.out.at_ 4 _ rfl; replace y5:=K1.out.at_ 5 _ rfl; replace a0:=KA.out.at_ 0 _ rfl; replace a1:=KA.out.at_ 1 _ rfl)
        | (go_at_call 34; with_reducible refine (HPOT.out _ B.out).mono ?_; rintro e wx ⟨rfl,q⟩; replace K1:=Lib.hid (K1.out.below q); replace KA:=Lib.hid (KA.out.below q); replace B:=Lib.hid (B.out.trans (q.mono B.out.size)); clear q; replace y0:=K1.out.at_ 0 _ rfl; replace y1:=K1.out.at_ 1 _ rfl; replace y2:=K1.out.at_ 2 _ rfl; replace y3:=K1.out.at_ 3 _ rfl; replace y4:=K1.out.at_ 4 _ rfl; replace y5:=K1.out.at_ 5 _ rfl; replace a0:=KA.out.at_ 0 _ rfl; replace a1:=KA.out.at_ 1 _ rfl)
        | (go_at_call 26; with_reducible refine (HPAR.out _ B.out).mono ?_; rintro e wx ⟨rfl,q⟩; replace K1:=Lib.hid (K1.out.below q); replace KA:=Lib.hid (KA.out.below q); replace B:=Lib.hid (B.out.trans (q.mono B.out.size)); clear q; replace y0:=K1.out.at_ 0 _ rfl; replace y1:=K1.out.at_ 1 _ rfl; replace y2:=K1.out.at_ 2 _ rfl; replace y3:=K1.out.at_ 3 _ rfl; replace y4:=K1.out.at_ 4 _ rfl; replace y5:=K1.out.at_ 5 _ rfl; replace a0:=KA.out.at_ 0 _ rfl; replace a1:=KA.out.at_ 1 _ rfl)
        | (go_at_call 35; with_reducible refine (HVER.out _ B.out).mono ?_; rintro e wx ⟨rfl,q⟩; replace K1:=Lib.hid (K1.out.below q); replace KA:=Lib.hid (KA.out.below q); replace B:=Lib.hid (B.out.trans (q.mono B.out.size)); clear q; replace y0:=K1.out.at_ 0 _ rfl; replace y1:=K1.out.at_ 1 _ rfl; replace y2:=K1.out.at_ 2 _ rfl; replace y3:=K1.out.at_ 3 _ rfl; replace y4:=K1.out.at_ 4 _ rfl; replace y5:=K1.out.at_ 5 _ rfl; replace a0:=KA.out.at_ 0 _ rfl; replace a1:=KA.out.at_ 1 _ rfl)
        | fail "arm")
       exact bodyPost_ret (v:=.bool true) (by kernel_rfl) rfl ⟨rfl,B.out⟩

end Go.Proofs.YthhkmihjnnfpgaaGreatDoor
