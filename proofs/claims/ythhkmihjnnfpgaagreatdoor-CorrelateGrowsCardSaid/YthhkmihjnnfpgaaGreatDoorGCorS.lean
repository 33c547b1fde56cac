/- The logs of chapter 43; the rows of steps. -/
import Derived.Test.YthhkmihjnnfpgaaGreatDoorGCorA
import Derived.Test.YthhkmihjnnfpgaaGreatDoorApp
import Derived.Test.YthhkmihjnnfpgaaGreatDoorCorR
/- The logs of a plan. -/
namespace Go.Proofs.YthhkmihjnnfpgaaGreatDoor
set_option linter.all false
open Go.RowKit

attribute [local go_sem] Oper.semAt_some

theorem ElI:StrElem Tryz.prog 27 86 3 48:=⟨Tryz.underlying27, by kernel_rfl,by omega,by omega⟩
theorem IV.one (x:IV):∀ u ∈ x.cells,u.oneCell'=true:=by
 intro u hu
 unfold IV.cells at hu
 simp only [List.mem_cons,List.not_mem_nil,or_false] at hu
 rcases hu with rfl | rfl | rfl <;> rfl
def unitT (n:Nat):ByteArray:=if n % 6=0 then ⟨#[97]⟩ else if n % 6=1 then ⟨#[98]⟩ else if n % 6=2 then ⟨#[99]⟩ else if n % 6=3 then ⟨#[100]⟩ else if n % 6=4 then ⟨#[101]⟩ else ⟨#[]⟩
theorem unit_ok (n:Nat):unitT n=⟨#[]⟩ ∨ LowB (unitT n):=by
 unfold unitT
 have low:∀ b:UInt8,97≤b.toNat∧b.toNat≤122→LowB ⟨#[b]⟩:=fun b hb=>⟨by show 0 < 1; omega,by show 1≤32; omega,fun c hc=>by
  simp at hc
  subst hc
  exact hb⟩
 split
 ·exact .inr (low 97 (by decide))
 ·split
  ·exact .inr (low 98 (by decide))
  ·split
   ·exact .inr (low 99 (by decide))
   ·split
    ·exact .inr (low 100 (by decide))
    ·split
     ·exact .inr (low 101 (by decide))
     ·exact .inl rfl
set_option maxRecDepth 100000 in
set_option maxHeartbeats 8000000 in
theorem units_any (n:Nat) (hn:n < 256) (w:World):Ret Tryz.prog w 38 #[.int .u8 n] (.string (unitT n)):=by
 intro W hW
 have B:=Lib.hid (Below.refl W.heap.size W)
 have hm:((n:Int) % 6)=((n % 6:Nat):Int):=by omega
 have hwr:IntKind.u8.wrap ((n % 6:Nat):Int)=((n % 6:Nat):Int):=(show ∀ m:Nat,m < 6→IntKind.u8.wrap (m:Int)=(m:Int) by decide) _ (Nat.mod_lt _ (by omega))
 have h6:n % 6 < 6:=Nat.mod_lt _ (by omega)
 have HU:Hid (unitT n=if n % 6=0 then ⟨#[97]⟩ else if n % 6=1 then ⟨#[98]⟩ else if n % 6=2 then ⟨#[99]⟩ else if n % 6=3 then ⟨#[100]⟩ else if n % 6=4 then ⟨#[101]⟩ else ⟨#[]⟩):=Lib.hid rfl
 have HB:=Lib.hid (below_new W (.cells #[.string ⟨#[97]⟩,.string ⟨#[98]⟩,.string ⟨#[99]⟩,.string ⟨#[100]⟩,.string ⟨#[101]⟩,.string ⟨#[]⟩] 9))
 have kb:=Blk.fresh W #[.string ⟨#[97]⟩,.string ⟨#[98]⟩,.string ⟨#[99]⟩,.string ⟨#[100]⟩,.string ⟨#[101]⟩,.string ⟨#[]⟩] 9
 have c0:=kb.at_ 0 _ rfl
 have c1:=kb.at_ 1 _ rfl
 have c2:=kb.at_ 2 _ rfl
 have c3:=kb.at_ 3 _ rfl
 have c4:=kb.at_ 4 _ rfl
 have c5:=kb.at_ 5 _ rfl
 clear kb
 generalize unitT n=u at *
 generalize n % 6=m at *
 rcases (show m=0 ∨ m=1 ∨ m=2 ∨ m=3 ∨ m=4 ∨ m=5 by omega) with rfl | rfl | rfl | rfl | rfl | rfl
 ·have hu:=HU.out
  simp at hu
  subst hu
  go_enter Tryz.func38, Tryz.ntmps38
  go_wp2
  go_ret
  exact ⟨rfl,HB.out⟩
 ·have hu:=HU.out
  simp at hu
  subst hu
  go_enter Tryz.func38, Tryz.ntmps38
  go_wp2
  go_ret
  exact ⟨rfl,HB.out⟩
 ·have hu:=HU.out
  simp at hu
  subst hu
  go_enter Tryz.func38, Tryz.ntmps38
  go_wp2
  go_ret
  exact ⟨rfl,HB.out⟩
 ·have hu:=HU.out
  simp at hu
  subst hu
  go_enter Tryz.func38, Tryz.ntmps38
  go_wp2
  go_ret
  exact ⟨rfl,HB.out⟩
 ·have hu:=HU.out
  simp at hu
  subst hu
  go_enter Tryz.func38, Tryz.ntmps38
  go_wp2
  go_ret
  exact ⟨rfl,HB.out⟩
 ·have hu:=HU.out
  simp at hu
  subst hu
  go_enter Tryz.func38, Tryz.ntmps38
  go_wp2
  go_ret
  exact ⟨rfl,HB.out⟩
structure Bt where
 g:Nat
 t:Nat
 u:Nat
def Bt.cells (b:Bt):List Value:=[.int .u8 b.g,.int .u8 b.t,.int .u8 b.u]
def Bt.ok (b:Bt):Prop:=b.g < 256∧b.t < 256∧b.u < 256
def atF:List Bt→Nat
 | []=>0
 | b :: l=>b.g % 3 + 1 + b.t % 6 + atF l
theorem atF_app (l m:List Bt):atF (l ++ m)=atF l + atF m:=by
 induction l with
 | nil=>simp [atF]
 | cons b l ih=>simp only [List.cons_append,atF,ih]; omega
theorem atF_bd (l:List Bt):atF l≤8 * l.length:=by
 induction l with
 | nil=>simp [atF]
 | cons b l ih=>simp only [List.length_cons,atF]; omega
def mkI (l:List Bt) (k:Nat):IV:=match l[k]? with
 | some b=>⟨unitT b.u,((atF (l.take k) + b.g % 3:Nat):Int),((atF (l.take (k + 1)):Nat):Int)⟩
 | none=>⟨⟨#[]⟩,0,0⟩
def mkL (l:List Bt) (n:Nat):List IV:=(List.range n).map (mkI l)
theorem mkL_len (l:List Bt) (n:Nat):(mkL l n).length=n:=by simp [mkL]
theorem mkL_snoc (l:List Bt) (n:Nat):mkL l (n + 1)=mkL l n ++ [mkI l n]:=by simp [mkL,List.range_succ]
theorem mkL_at (l:List Bt) (n k:Nat) (h:k < n):(mkL l n)[k]?=some (mkI l k):=by
 unfold mkL
 rw [List.getElem?_map,List.getElem?_range h]
 rfl
theorem atF_take (l:List Bt) (k:Nat) (h:k < l.length):atF (l.take (k + 1))=atF (l.take k) + (l[k].g % 3 + 1 + l[k].t % 6):=by
 rw [List.take_succ_eq_append_getElem h,atF_app]
 simp [atF]
theorem endI_mk (l:List Bt) (n k:Nat) (hn:n≤l.length) (hk:k≤n):endI (mkL l n) k=(atF (l.take k):Nat):=by
 cases k with
 | zero=>rfl
 | succ k =>
  show (match (mkL l n)[k]? with | some x=>x.t | none=>0)=_
  rw [mkL_at l n k (by omega)]
  show (mkI l k).t=_
  unfold mkI
  rw [List.getElem?_eq_getElem (show k < l.length by omega)]
theorem mkL_ok (l:List Bt) (n:Nat) (hn:n≤l.length) (h8:n≤8):OkLog (mkL l n):=by
 intro k hk
 rw [mkL_len] at hk
 have e:(mkL l n)[k]'(by rw [mkL_len]; exact hk)=mkI l k:=by
  have:=mkL_at l n k hk
  rw [List.getElem?_eq_getElem (by rw [mkL_len]; exact hk)] at this
  injection this
 rw [e,endI_mk l n k hn (by omega)]
 have hl:k < l.length:=by omega
 have h1:=atF_take l k hl
 have h2:=atF_bd (l.take (k + 1))
 have h3:(l.take (k + 1)).length≤8:=by rw [List.length_take]; omega
 unfold mkI
 rw [List.getElem?_eq_getElem hl]
 dsimp only
 refine ⟨unit_ok _,by omega,by omega,by omega,by omega,by omega⟩
set_option maxRecDepth 100000 in
set_option maxHeartbeats 8000000 in
theorem lmake_any (l:List Bt) (hl:l.length≤8) (hok:∀ b ∈ l,b.ok) (v:Value) (w:World) (he:Env w) (hv:SAt Bt.cells 3 w v l) :
  Calls Tryz.prog 47 #[v] w fun e w'=>∃ v',e=.returned v'∧SRow IV.cells 3 86 w' w.heap.size v' (mkL l l.length)∧Below w.heap.size w w':=by
 have HE:=Lib.hid he
 have HV:=Lib.hid hv
 have HOK:=Lib.hid hok
 have B:=Lib.hid (Below.refl w.heap.size w)
 obtain ⟨A,c,rfl,_⟩:=hv
 clear he hok
 go_enter Tryz.func47, Tryz.ntmps47
 go_wp2
 go_loopw [3,4,5] (fun v3 v4 v5 wr=>∃ k:Nat,k≤l.length∧v4=.int .i64 ((atF (l.take k):Nat):Int)∧v5=.int .i64 k∧SRow IV.cells 3 86 wr w.heap.size v3 (mkL l k)∧Below w.heap.size w wr) (fun _ _ v5 _=>l.length - (intOf v5).toNat)
 case atStart=>exact ⟨0,Nat.zero_le _,rfl,rfl,SRow.nil _ _,B.out⟩
 case round =>
  clear B
  obtain ⟨k,hk,rfl,rfl,row,b⟩:=hrel
  have ROW:=Lib.hid row
  have B:=Lib.hid b
  obtain ⟨rA,rc,hre⟩:=row.len_eval
  by_cases hlt:k < l.length
  ·have hi:(k:Int) < (l.length:Int):=by omega
   have hk8:k < 8:=by omega
   have h8:(k:Int) < 8:=by omega
   obtain ⟨d,o,c1,e1,hd,q1⟩:=(HV.out.below b).cell k hlt
   injection e1 with e1 _ e1c
   subst e1 e1c
   have x0:wr.cell? ⟨d,o + k * 3,none⟩=_:=q1 0 _ rfl
   have x1:wr.cell? ⟨d,o + k * 3 + 1,none⟩=_:=q1 1 _ rfl
   have x2:wr.cell? ⟨d,o + k * 3 + 2,none⟩=_:=q1 2 _ rfl
   have hb:=HOK.out l[k] (List.getElem_mem hlt)
   obtain ⟨b1,b2,b3⟩:=hb
   have hat:=atF_bd (l.take k)
   have htl:(l.take k).length≤8:=by rw [List.length_take]; omega
   have hat2:=atF_take l k hlt
   have hmk:mkI l k=⟨unitT l[k].u,((atF (l.take k) + l[k].g % 3:Nat):Int),((atF (l.take (k + 1)):Nat):Int)⟩:=by
    unfold mkI
    rw [List.getElem?_eq_getElem hlt]
   have m1:((l[k].g:Int) % 3)=((l[k].g % 3:Nat):Int):=by omega
   have m2:((l[k].t:Int) % 6)=((l[k].t % 6:Nat):Int):=by omega
   have g3:l[k].g % 3 < 3:=Nat.mod_lt _ (by omega)
   have t6:l[k].t % 6 < 6:=Nat.mod_lt _ (by omega)
   have HU:=Lib.hid (units_any l[k].u b3 w)
   have HN:Hid (mkL l k ++ [mkI l k]=mkL l (k + 1)):=Lib.hid (mkL_snoc l k).symm
   have HL5:(mkL l k).length≤5000:=by rw [mkL_len]; omega
   generalize unitT l[k].u=un at *
   generalize l[k].u=uu at *
   generalize l[k].g=gg at *
   generalize l[k].t=tt at *
   generalize gg % 3=g at *
   generalize tt % 6=t at *
   obtain ⟨a,ha⟩:∃ a,atF (l.take k)=a:=⟨_,rfl⟩
   obtain ⟨a2,ha2⟩:∃ a,atF (l.take (k + 1))=a:=⟨_,rfl⟩
   rw [ha,ha2] at hat2
   rw [ha] at hat hmk
   rw [ha2] at hmk
   have HA2:=Lib.hid ha2
   obtain ⟨f,hf⟩:∃ f:Int,(a:Int) + (g:Int)=f:=⟨_,rfl⟩
   obtain ⟨t1,ht1⟩:∃ f:Int,1 + (t:Int)=f:=⟨_,rfl⟩
   obtain ⟨e,he⟩:∃ e:Int,f + t1=e:=⟨_,rfl⟩
   have HMK:=Lib.hid (hmk.trans (show _=(⟨un,f,e⟩:IV) by rw [show ((a + g:Nat):Int)=f by omega,show ((a2:Nat):Int)=e by omega]))
   have HO1:=Lib.hid (rOfQ f (by omega) w HE.out)
   have HO2:=Lib.hid (rOfQ e (by omega) w HE.out)
   have HEE:Hid (e=((a2:Nat):Int)):=Lib.hid (by omega)
   have w1:IntKind.u8.wrap (g:Int)=(g:Int):=(show ∀ m:Nat,m < 3→IntKind.u8.wrap (m:Int)=(m:Int) by decide) _ g3
   have w2:IntKind.u8.wrap (t:Int)=(t:Int):=(show ∀ m:Nat,m < 6→IntKind.u8.wrap (m:Int)=(m:Int) by decide) _ t6
   have w3:IntKind.i64.wrap (g:Int)=(g:Int):=IntWalk.i64_in _ (by omega)
   have w4:IntKind.i64.wrap (t:Int)=(t:Int):=IntWalk.i64_in _ (by omega)
   have w5:IntKind.i64.wrap f=f:=IntWalk.i64_in _ (by omega)
   have w6:IntKind.i64.wrap t1=t1:=IntWalk.i64_in _ (by omega)
   have w7:IntKind.i64.wrap e=e:=IntWalk.i64_in _ (by omega)
   clear hat htl hat2 hmk q1 row b hre HV ha2 g3 t6
   go_upto_region 10 with (first
    | (go_at_call 37; with_reducible refine (HO1.out _ B.out).mono ?_; rintro e9 wx ⟨rfl,q⟩; have ROW2:=Lib.hid (ROW.out.below q); replace ROW:=ROW2; clear ROW2; have B2:=Lib.hid (B.out.trans (q.mono B.out.size)); replace B:=B2; clear B2; have x3:=(q.cell (p:=⟨d,o + k * 3 + 1,none⟩) hd).trans x1; have x4:=(q.cell (p:=⟨d,o + k * 3 + 2,none⟩) hd).trans x2; have hdd:=Nat.lt_of_lt_of_le hd q.size; clear x1 x2 q; have x1:=x3; have x2:=x4; clear x3 x4 hd; have hd:=hdd; clear hdd)
    | (go_at_call 37; with_reducible refine (HO2.out _ B.out).mono ?_; rintro e9 wx ⟨rfl,q⟩; have ROW2:=Lib.hid (ROW.out.below q); replace ROW:=ROW2; clear ROW2; have B2:=Lib.hid (B.out.trans (q.mono B.out.size)); replace B:=B2; clear B2; have x3:=(q.cell (p:=⟨d,o + k * 3 + 1,none⟩) hd).trans x1; have x4:=(q.cell (p:=⟨d,o + k * 3 + 2,none⟩) hd).trans x2; have hdd:=Nat.lt_of_lt_of_le hd q.size; clear x1 x2 q; have x1:=x3; have x2:=x4; clear x3 x4 hd; have hd:=hdd; clear hdd)
    | fail "arm")
   have hbs:=B.out.size
   have HOP:=Lib.hid (ROW.out)
   go_wp2_with (first
    | (go_at_call 38; with_reducible refine (HU.out _ B.out).mono ?_; rintro e9 wx ⟨rfl,q⟩; replace ROW:=Lib.hid (ROW.out.below q); replace B:=Lib.hid (B.out.trans (q.mono B.out.size)); have hb2:=B.out.size)
    | (at_builtin; refine app_row ElI (fun _=>rfl) IV.one rfl (.tmp 49) (.tmp 59) rfl _ w.heap.size hb2 _ _ ROW.out rfl HL5 (⟨un,f,e⟩:IV) rfl ?_; intro v' w9 r1 r2 r3)
    | fail "arm")
   have B9:=B.out.trans r3
   rw [← HMK.out,HN.out] at r1
   exact ⟨⟨k + 1,by omega,by rw [HA2.out,HEE.out],by go_num,r1,B9⟩,by simp [intOf]; omega⟩
  ·have hkl:k=l.length:=by omega
   subst hkl
   have hi:¬ (l.length:Int) < (l.length:Int):=by omega
   have hi2:decide ((l.length:Int) < (l.length:Int))=false:=decide_eq_false hi
   clear hre row b
   go_wp2
   go_ret
   exact ⟨_,rfl,ROW.out,B.out⟩

end Go.Proofs.YthhkmihjnnfpgaaGreatDoor

/- Best: the least best alignment. -/
namespace Go.Proofs.YthhkmihjnnfpgaaGreatDoor
set_option linter.all false
open Go.RowKit

attribute [local go_sem] Oper.semAt_some

def stC (x:Nat × Nat × Nat):List Value:=[.int .i64 x.1,.int .i64 x.2.1,.int .i64 x.2.2]
theorem stC_len (x:Nat × Nat × Nat):(stC x).length=3:=rfl
theorem stC_one (x:Nat × Nat × Nat):∀ u ∈ stC x,u.oneCell'=true:=by
 intro u hu
 unfold stC at hu
 simp only [List.mem_cons,List.not_mem_nil,or_false] at hu
 rcases hu with rfl | rfl | rfl <;> rfl
theorem ElT:StrElem Tryz.prog 34 56 3 24:=⟨Tryz.underlying34, by kernel_rfl,by omega,by omega⟩

section
variable {α:Type} {f:α→List Value} {sz:Nat} {T:TypeId} {W W':World} {base:Nat} {v:Value} {us:List α}
theorem SRow.keptC {S:Nat→TypeId→Prop} (h:SRow f sz T W base v us) (k:KeptC S W W') (hs:∀ g,v.ownBlock=some g→S g T):SRow f sz T W' base v us:=by
 rcases h with h | ⟨d,c,r,h1,h2,h3,h4,h5⟩
 ·exact .inl h
 ·refine .inr ⟨d,c,r,h1,h2,h3,h4.keptC k (hs d (by rw [h1]; rfl)),h5⟩
theorem SRow.own (h:SRow f sz T W base v us) (g:Nat) (hg:v.ownBlock=some g):base≤g∧g < W.heap.size∧∃ cs,Blk W g cs T:=by
 rcases h with ⟨_,rfl⟩ | ⟨d,c,r,rfl,h2,h3,h4,h5⟩
 ·cases hg
 ·injection hg with hg
  have hg:d=g:=hg
  subst hg
  exact ⟨h2,h4.lt,_,h4⟩
theorem Blk.type_eq {b:Nat} {cs cs':Array Value} {T':TypeId} (h:Blk W b cs T) (k:Blk W b cs' T'):T=T':=by
 have:=(show W.heap[b]?=_ from h).symm.trans k
 injection this with this
 injection this
theorem SRow.set_ty {b:Nat} {cs:Array Value} {T':TypeId} (h:SRow f sz T W base v us) (hb:Blk W b cs T') (hT:T ≠ T') (j:Nat) (u:Value):SRow f sz T (W.setCell ⟨b,j,none⟩ u) base v us :=
 h.keptC (S:=fun g _=>g ≠ b) (keptC_set _ (fun _ h=>h rfl) u) (fun g hg e=>by
  obtain ⟨_,_,cs',h'⟩:=h.own g hg
  subst e
  exact hT (h'.type_eq hb))
theorem app_row2 {P:Program} {t:TypeId} {bytes:Nat} (E:StrElem P t T sz bytes) (hf:∀ u,(f u).length=sz) (hone:∀ u,∀ x ∈ f u,x.oneCell'=true) {ops:Array Oper} {rest:List Oper} {o:Oper} {a:Act} {Q:Exit→Act→World→Prop} (hgd:o.guard=none) (s x:Operand) (ho:o.op=.call { callee:=.builtin .append,args:=#[s,x],argTypes:=#[t,t] })
  (W:World) (base:Nat) (hbase:base≤W.heap.size) (v:Value) (us:List α) (row:SRow f sz T W base v us) (hs:a.eval s=v) (hlen:us.length≤5000) (u:α) (hx:a.eval x=.slice (some ⟨W.heap.size,0,none⟩) 1 1)
  (h:∀ v' w',SRow f sz T w' base v' (us ++ [u])→Below base W w'→KeptC (fun g _=>v.ownBlock ≠ some g) W w'→KeepsFrom 0 W w'→wpList P ops Q rest (a.put o.dst v') w') :
  wpList P ops Q (o :: rest) a (W.alloc (.cells (f u).toArray T)):=by
 have snoc:∀ us:List α,(us ++ [u]).flatMap f=us.flatMap f ++ f u:=fun us=>by simp
 rcases row with ⟨rfl,rfl⟩ | ⟨d,c,r,rfl,h2,h3,h4,h5⟩
 ·refine wpList_app0 E hgd s x ho W hs (f u) (hf u) hx (hone u) ?_
  intro g c r w' kk lg mm qq
  have e:(([]:List α) ++ [u]).flatMap f=f u:=by rw [snoc]; rfl
  have same:∀ (k:Nat) (o:Obj),W.heap[k]?=some o→w'.heap[k]?=some o:=fun k o hk=>(qq.block k (Array.getElem?_eq_some_iff.1 hk).1 (fun h=>by cases h)).trans hk
  refine h _ w' (.inr ⟨g,c,r,rfl,by omega,by simp,?_,?_⟩) (below_app0 (Below.refl _ _) qq hbase) (fun k cs t fz _ e=>same k _ e) ⟨qq.size,fun k o _ e _=>same k o e⟩
  ·rw [e]; exact kk
  ·rw [e]; exact mm
 ·refine wpList_appN E hgd s x ho W d us.length c hs (us.flatMap f) r h4 h5 (by omega) (f u) (hf u) hx (hone u) ?_
  intro g c' r' w' kk lg mm qq
  have hd:=h4.lt
  have same:∀ (k:Nat) (o:Obj),k ≠ d→W.heap[k]?=some o→w'.heap[k]?=some o:=fun k o hk e=>(qq.block k (Array.getElem?_eq_some_iff.1 e).1 (fun h=>hk (Option.some.inj h))).trans e
  refine h _ w' (.inr ⟨g,c',r',by rw [List.length_append]; rfl,by omega,by simp,?_,?_⟩) (below_appN (Below.refl _ _) qq hbase h2) (fun k cs t fz hk e=>same k _ (fun e2=>hk (by subst e2; rfl)) e) ⟨qq.size,fun k o _ e ho=>same k o (fun e2=>by
   subst e2
   rw [show W.heap[k]?=_ from h4] at e
   injection e with e
   subst e
   cases ho) e⟩
  ·rw [snoc]; exact kk
  ·rw [snoc,List.length_append]; exact mm
end

theorem listIn_of {F:Fence} (hF:Fair F) {n:Nat} {P:Program} {ops:Array Oper} {Q:Exit→Act→World→Prop} {o:Oper} {rest:List Oper} {a:Act} {w:World} (hg:o.guard=none) (hnd:∀ c,o.op ≠ .defer c)
  (h:wpList P ops (fun e a w=>e=.normal∧wpListIn F n P ops Q rest a w) [o] a w):wpListIn F n P ops Q (o :: rest) a w:=by
 have hw:Region.wanted o (yielded ops a.tmps)=true:=by unfold Region.wanted; rw [hg]
 unfold wpList at h
 (try dsimp only at h)
 rw [if_pos hw] at h
 unfold wpListIn
 (try dsimp only)
 rw [if_pos hw]
 rcases h with h | h
 ·exact opIn_of_op2 hF hnd (fun a w hh=>hh.2) (fun c a w hh=>by cases hh.1) (fun ⟨_,_,hh⟩=>by cases hh.1) h
 ·obtain ⟨_,_,_,hh⟩:=h
  cases hh.1

theorem filterMap_k (q:CQ) (i j:Nat):∀ (l:List Nat),(∀ k ∈ l,k ∈ kinds)→((l.filterMap (mkSK q i j)).filter (fun x=>decide (goodS q i j x.k))).map SK.k=l.filter (fun k=>decide (goodS q i j k))
 | [],_=>rfl
 | k :: l,h=>by
  have hk:=of_kinds (h k List.mem_cons_self)
  have ih:=filterMap_k q i j l (fun k' hk'=>h k' (List.mem_cons_of_mem _ hk'))
  by_cases ho:okS q k i j
  ·have e:mkSK q i j k=some ⟨k,hk,ho⟩:=dif_pos ⟨hk,ho⟩
   rw [List.filterMap_cons_some e]
   by_cases hg:goodS q i j k
   ·rw [List.filter_cons_of_pos (by simpa using hg),List.filter_cons_of_pos (by simpa using hg),List.map_cons,ih]
   ·rw [List.filter_cons_of_neg (by simpa using hg),List.filter_cons_of_neg (by simpa using hg),ih]
  ·have e:mkSK q i j k=none:=dif_neg (fun h=>ho h.2)
   rw [List.filterMap_cons_none e,List.filter_cons_of_neg (by simpa using fun hg=>ho hg.1),ih]
theorem gdS_k (q:CQ) (i j:Nat):(gdS q i j).map SK.k=kinds.filter (fun k=>decide (goodS q i j k)):=filterMap_k q i j kinds (fun _ h=>h)
theorem gdS_first (q:CQ) (i j:Nat) (x:SK q i j) (h:[x] <+: gdS q i j):x.k=firstK q i j:=by
 have hk:=gdS_k q i j
 obtain ⟨r,hr⟩:=h
 rw [← hr] at hk
 unfold firstK
 rw [← List.head?_filter,← hk]
 rfl
theorem gdS_ne (q:CQ) (i j:Nat) (hi:i≤q.L.length) (hj:j≤q.R.length) (hne:i < q.L.length ∨ j < q.R.length):gdS q i j ≠ []:=by
 intro h
 have hk:=gdS_k q i j
 rw [h] at hk
 obtain ⟨k,h1,h2⟩:=good_some q i j hi hj hne
 have:k ∈ kinds.filter (fun k=>decide (goodS q i j k)):=List.mem_filter.2 ⟨h1,decide_eq_true h2⟩
 rw [← hk] at this
 cases this

structure StB (w0:World) (bq bR bO bi bj ob:Nat) (rb:List Nat) (q:CQ) (sl sr:Value) (tot:ByteArray) (pre:List (Nat × Nat × Nat)) (i j:Nat) (v:Value) (ds:List Deferred) (W:World):Prop where
 bb:Below w0.heap.size w0 W
 kq:Blk W bq #[sl,sr,.string (qT (2 * q.ch)),.string (qT (2 * q.mi)),.string (qT (2 * q.ga)),.string (qT (2 * q.re))] 32
 kR:Blk W bR #[.slice none 0 0,.string ⟨#[]⟩] 36
 kO:Blk W bO #[v,.string tot] 36
 row:SRow stC 3 56 W (bO + 1) v pre
 ki:Blk W bi #[.int .i64 i] 3
 kj:Blk W bj #[.int .i64 j] 3
 tab:TabT W ob rb (q.R.length + 1) (rstT q) 71 28
 mrk:Marks w0.heap.size W ds
 s1:w0.heap.size≤bq∧bq < bR∧bR < ob∧ob < bO
 s3:∀ g ∈ rb,bR < g∧g < bO
 s4:bO < bi∧bO < bj∧bi ≠ bj
section
variable {w0 W W':World} {bq bR bO bi bj ob:Nat} {rb:List Nat} {q:CQ} {sl sr:Value} {tot:ByteArray} {pre:List (Nat × Nat × Nat)} {i j:Nat} {v:Value} {ds:List Deferred}
theorem StB.below (h:StB w0 bq bR bO bi bj ob rb q sl sr tot pre i j v ds W) (k:Below W.heap.size W W'):StB w0 bq bR bO bi bj ob rb q sl sr tot pre i j v ds W' :=
 ⟨h.bb.trans (k.mono h.bb.size),h.kq.below k,h.kR.below k,h.kO.below k,h.row.below k,h.ki.below k,h.kj.below k,h.tab.below k,h.mrk.kept (keepsFrom_below k),h.s1,h.s3,h.s4⟩
theorem StB.marks {ds':List Deferred} (h:StB w0 bq bR bO bi bj ob rb q sl sr tot pre i j v ds W) (m:Marks w0.heap.size W ds'):StB w0 bq bR bO bi bj ob rb q sl sr tot pre i j v ds' W:=⟨h.bb,h.kq,h.kR,h.kO,h.row,h.ki,h.kj,h.tab,m,h.s1,h.s3,h.s4⟩
theorem StB.newIJ {bi' bj':Nat} (h:StB w0 bq bR bO bi bj ob rb q sl sr tot pre i j v ds W) (ki:Blk W bi' #[.int .i64 i] 3) (kj:Blk W bj' #[.int .i64 j] 3) (s4:bO < bi'∧bO < bj'∧bi' ≠ bj'):StB w0 bq bR bO bi' bj' ob rb q sl sr tot pre i j v ds W:=⟨h.bb,h.kq,h.kR,h.kO,h.row,ki,kj,h.tab,h.mrk,h.s1,h.s3,s4⟩
theorem StB.own {β:Type} {B:Nat} {WB:World} (hB:WB.heap.size=B) (hw:w0.heap.size≤B) (hm:Marks w0.heap.size WB ds):OwnFrom B (fun (_:β) V=>StB w0 bq bR bO bi bj ob rb q sl sr tot pre i j v ds V∧KeepsLow B WB V):=fun s V V' row h hg hr=>by
 have hk:=KeepsLow.own (β:=β) B WB s V V' row h.2 hg hr
 have hb:=ownFrom_bb (β:=β) hw s V V' row ⟨h.1.bb.size,h.1.bb⟩ hg hr
 have hc:=ownFrom_cells (I:=fun (_:Unit) X=>(Blk X bq #[sl,sr,.string (qT (2 * q.ch)),.string (qT (2 * q.mi)),.string (qT (2 * q.ga)),.string (qT (2 * q.re))] 32 ∧ Blk X bR #[.slice none 0 0,.string ⟨#[]⟩] 36 ∧ Blk X bO #[v,.string tot] 36)∧SRow stC 3 56 X (bO + 1) v pre∧Blk X bi #[.int .i64 i] 3 ∧ Blk X bj #[.int .i64 j] 3 ∧ TabT X ob rb (q.R.length + 1) (rstT q) 71 28)
  (fun _ X X' h k _=>⟨⟨h.1.1.keptC k trivial,h.1.2.1.keptC k trivial,h.1.2.2.keptC k trivial⟩,h.2.1.keptC k (fun _ _=>trivial),h.2.2.1.keptC k trivial,h.2.2.2.1.keptC k trivial,h.2.2.2.2.keptC k trivial (fun _ _=>trivial)⟩) B () V V' row ⟨⟨h.1.kq,h.1.kR,h.1.kO⟩,h.1.row,h.1.ki,h.1.kj,h.1.tab⟩ hg hr
 exact ⟨⟨hb.2,hc.1.1,hc.1.2.1,hc.1.2.2,hc.2.1,hc.2.2.1,hc.2.2.2.1,hc.2.2.2.2,Marks.low (Nat.le_of_eq hB) hk hm,h.1.s1,h.1.s3,h.1.s4⟩,hk⟩
theorem StB.ownNe (h:StB w0 bq bR bO bi bj ob rb q sl sr tot pre i j v ds W) (g:Nat) (hg:v.ownBlock=some g):bO + 1≤g∧g ≠ bi∧g ≠ bj:=by
 obtain ⟨h1,_,cs,h2⟩:=h.row.own g hg
 refine ⟨h1,fun e=>?_,fun e=>?_⟩
 ·subst e; exact absurd (h2.type_eq h.ki) (by decide)
 ·subst e; exact absurd (h2.type_eq h.kj) (by decide)
theorem StB.step {X1 X2:World} {v':Value} {x:Nat × Nat × Nat} {i' j':Nat} (h:StB w0 bq bR bO bi bj ob rb q sl sr tot pre i j v ds W) (r1:SRow stC 3 56 X1 (bO + 1) v' (pre ++ [x])) (r2:Below (bO + 1) W X1) (r3:KeptC (fun g _=>v.ownBlock ≠ some g) W X1) (r4:KeepsFrom 0 W X1)
  (q2:Below (X1.setCell ⟨bO,0,none⟩ v').heap.size (X1.setCell ⟨bO,0,none⟩ v') X2):StB w0 bq bR bO bi bj ob rb q sl sr tot (pre ++ [x]) i' j' v' ds ((X2.setCell ⟨bi,0,none⟩ (.int .i64 i')).setCell ⟨bj,0,none⟩ (.int .i64 j')) ∧
   KeepsFrom 0 W ((X2.setCell ⟨bi,0,none⟩ (.int .i64 i')).setCell ⟨bj,0,none⟩ (.int .i64 j')):=by
 obtain ⟨a1,a2,a3,a4⟩:=h.s1
 obtain ⟨b1,b2,b3⟩:=h.s4
 have ow:∀ g,v.ownBlock=some g→bO + 1≤g∧g ≠ bi∧g ≠ bj:=fun g hg=>by
  obtain ⟨h1,_,cs,h2⟩:=h.row.own g hg
  refine ⟨h1,fun e=>?_,fun e=>?_⟩
  ·subst e; exact absurd (h2.type_eq h.ki) (by decide)
  ·subst e; exact absurd (h2.type_eq h.kj) (by decide)
 have lo:∀ {b:Nat} {cs:Array Value} {T:TypeId},Blk W b cs T→b≤bO→Blk X1 b cs T:=fun {b cs T} hb hle=>hb.keptC r3 (fun e=>by have:=(ow b e).1; omega)
 have kO1:=lo h.kO (Nat.le_refl _)
 have ki1:Blk X1 bi _ _:=h.ki.keptC r3 (fun e=>(ow bi e).2.1 rfl)
 have kj1:Blk X1 bj _ _:=h.kj.keptC r3 (fun e=>(ow bj e).2.2 rfl)
 have w1:=Wrote.set kO1 0 v'
 have kO2:=(kO1.set 0 v').below q2
 have ki2:=(ki1.keptC w1.kept (by omega)).below q2
 have kj2:=(kj1.keptC w1.kept (by omega)).below q2
 have w2:=Wrote.set ki2 0 (.int .i64 i')
 have kj3:=kj2.keptC w2.kept (Ne.symm b3)
 have w3:=Wrote.set kj3 0 (.int .i64 j')
 have up:∀ {b:Nat} {cs:Array Value} {T:TypeId},Blk W b cs T→b < bO→Blk ((X2.setCell ⟨bi,0,none⟩ (.int .i64 i')).setCell ⟨bj,0,none⟩ (.int .i64 j')) b cs T:=fun {b cs T} hb hlt =>
  ((((lo hb (by omega)).keptC w1.kept (by omega)).below q2).keptC w2.kept (by omega)).keptC w3.kept (by omega)
 have hsz:w0.heap.size≤W.heap.size:=h.bb.size
 have keeps:KeepsFrom 0 W ((X2.setCell ⟨bi,0,none⟩ (.int .i64 i')).setCell ⟨bj,0,none⟩ (.int .i64 j')):=(((r4.trans w1.keeps).trans (keepsFrom_below q2)).trans w2.keeps).trans w3.keeps
 have bb:Below w0.heap.size W ((X2.setCell ⟨bi,0,none⟩ (.int .i64 i')).setCell ⟨bj,0,none⟩ (.int .i64 j')) :=
  ((((r2.mono (by omega)).trans (w1.below.mono (by omega))).trans (q2.mono (by have:=kO1.lt; simp; omega))).trans (w2.below.mono (by omega))).trans (w3.below.mono (by omega))
 have row2:=(r1.set ⟨bO,0,none⟩ (Nat.lt_succ_self _) v').below q2
 have row3:=row2.set_ty ki2 (by decide) 0 (.int .i64 i')
 have row4:=row3.set_ty kj3 (by decide) 0 (.int .i64 j')
 refine ⟨⟨h.bb.trans bb,up h.kq (by omega),up h.kR (by omega),?_,row4,?_,kj3.set 0 _,?_,h.mrk.kept (KeepsFrom.mono keeps (Nat.zero_le _)),h.s1,h.s3,h.s4⟩,keeps⟩
 ·exact (kO2.keptC w2.kept (by omega)).keptC w3.kept (by omega)
 ·exact (ki2.set 0 _).keptC w3.kept b3
 ·exact ⟨up h.tab.out (by omega),fun a ha=>up (h.tab.row a ha) (by have:=h.s3 _ (List.getElem_mem ha); omega),h.tab.far,h.tab.nd⟩
end

end Go.Proofs.YthhkmihjnnfpgaaGreatDoor
