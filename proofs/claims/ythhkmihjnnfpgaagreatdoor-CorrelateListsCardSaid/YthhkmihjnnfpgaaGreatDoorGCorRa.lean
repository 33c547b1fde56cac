/- The tables of the law's rests of chapter 44. -/
import Derived.Test.YthhkmihjnnfpgaaGreatDoorGCorTa
import Derived.Test.YthhkmihjnnfpgaaGreatDoorGCorTc
/- The state of the law's rests: two tables whose rows are made from the last one on. -/
namespace Go.Proofs.YthhkmihjnnfpgaaGreatDoor
set_option linter.all false
open Go.RowKit

def tabE (A:Nat→Nat→Value) (z:Value) (i m p r:Nat):Value:=if i < p ∨ (p=i∧m≤r) then A p r else z
def entE (A:Nat→Nat→Value) (z:Value) (i j:Nat) (x:Value) (p r:Nat):Value:=if p=i∧r=j then x else tabE A z i (j + 1) p r
section
variable (A:Nat→Nat→Value) (z:Value) (i j:Nat)
theorem entE_upd (x y:Value) (p r:Nat):updV (entE A z i j x) i j y p r=entE A z i j y p r:=by
 unfold updV entE
 by_cases h:p=i∧r=j
 ·rw [if_pos h,if_pos h]
 ·rw [if_neg h,if_neg h,if_neg h]
theorem entE_z (p r:Nat):entE A z i j z p r=tabE A z i (j + 1) p r:=by
 unfold entE tabE
 by_cases h:p=i∧r=j
 ·rw [if_pos h,if_neg (by omega)]
 ·rw [if_neg h]
theorem entE_done (p r:Nat):entE A z i j (A i j) p r=tabE A z i j p r:=by
 unfold entE tabE
 by_cases h:p=i∧r=j
 ·obtain ⟨rfl,rfl⟩:=h
  rw [if_pos ⟨rfl,rfl⟩,if_pos (.inr ⟨rfl,Nat.le_refl _⟩)]
 ·rw [if_neg h]
  by_cases h2:i < p ∨ (p=i∧j + 1≤r)
  ·rw [if_pos h2,if_pos (by omega)]
  ·rw [if_neg h2,if_neg (by omega)]
theorem tabE_row (M p r:Nat) (h:r < M):(if p=i then z else tabE A z (i + 1) 0 p r)=tabE A z i M p r:=by
 unfold tabE
 by_cases hp:p=i
 ·subst hp
  rw [if_pos rfl,if_neg (by omega)]
 ·rw [if_neg hp]
  by_cases h2:i + 1 < p ∨ (p=i + 1∧0≤r)
  ·rw [if_pos h2,if_pos (by omega)]
  ·rw [if_neg h2,if_neg (by omega)]
theorem entE_at (x:Value) (p r:Nat) (h:i < p ∨ (p=i∧j < r)):entE A z i j x p r=A p r:=by
 unfold entE tabE
 rw [if_neg (by omega),if_pos (by omega)]
theorem entE_self (x:Value):entE A z i j x i j=x:=if_pos ⟨rfl,rfl⟩
end

structure LR (w0:World) (b1 lb wb kl kw:Nat) (rl rw_:Nat→Nat) (q:CQ) (sl sr:Value) (cl cw:Nat→Nat→Value) (W:World):Prop where
 bb:Below w0.heap.size w0 W
 kq:Blk W b1 #[sl,sr,.string (qT (2 * q.ch)),.string (qT (2 * q.mi)),.string (qT (2 * q.ga)),.string (qT (2 * q.re))] 32
 tl:TabS W lb (q.L.length + 1) (q.R.length + 1) kl rl cl 71 28
 tw:TabS W wb (q.L.length + 1) (q.R.length + 1) kw rw_ cw 50 3
 s1:w0.heap.size≤b1∧b1 < lb∧lb < wb
 s2:∀ p,kl≤p→p < q.L.length + 1→wb < rl p
 s4:∀ p,kw≤p→p < q.L.length + 1→wb < rw_ p
 s3:∀ p r,kl≤p→p < q.L.length + 1→kw≤r→r < q.L.length + 1→rl p ≠ rw_ r
section
variable {w0 W W':World} {b1 lb wb kl kw k:Nat} {rl rw_:Nat→Nat} {q:CQ} {sl sr:Value} {cl cw:Nat→Nat→Value}
theorem LR.below (h:LR w0 b1 lb wb kl kw rl rw_ q sl sr cl cw W) (d:Below W.heap.size W W'):LR w0 b1 lb wb kl kw rl rw_ q sl sr cl cw W' :=
 ⟨h.bb.trans (d.mono h.bb.size),h.kq.below d,h.tl.below d,h.tw.below d,h.s1,h.s2,h.s4,h.s3⟩
theorem LR.congr {cl' cw':Nat→Nat→Value} (h:LR w0 b1 lb wb kl kw rl rw_ q sl sr cl cw W) (e1:∀ p r,kl≤p→p < q.L.length + 1→r < q.R.length + 1→cl p r=cl' p r) (e2:∀ p r,kw≤p→p < q.L.length + 1→r < q.R.length + 1→cw p r=cw' p r):LR w0 b1 lb wb kl kw rl rw_ q sl sr cl' cw' W :=
 ⟨h.bb,h.kq,h.tl.congr e1,h.tw.congr e2,h.s1,h.s2,h.s4,h.s3⟩
theorem LR.setL (h:LR w0 b1 lb wb kl kw rl rw_ q sl sr cl cw W) (p r:Nat) (h1:kl≤p) (h2:p < q.L.length + 1) (v:Value):LR w0 b1 lb wb kl kw rl rw_ q sl sr (updV cl p r v) cw (W.setCell ⟨rl p,r,none⟩ v):=by
 obtain ⟨t,x⟩:=h.tl.set p r h1 h2 v
 have hs1:=h.s1
 have hs2:=h.s2 p h1 h2
 exact ⟨h.bb.trans (x.below.mono (by omega)),h.kq.keptC x.kept (show b1 ≠ rl p by omega),t,h.tw.other x (by omega) (fun a ha hb e=>h.s3 p a h1 h2 ha hb e.symm),h.s1,h.s2,h.s4,h.s3⟩
theorem LR.setW (h:LR w0 b1 lb wb kl kw rl rw_ q sl sr cl cw W) (p r:Nat) (h1:kw≤p) (h2:p < q.L.length + 1) (v:Value):LR w0 b1 lb wb kl kw rl rw_ q sl sr cl (updV cw p r v) (W.setCell ⟨rw_ p,r,none⟩ v):=by
 obtain ⟨t,x⟩:=h.tw.set p r h1 h2 v
 have hs1:=h.s1
 have hs2:=h.s4 p h1 h2
 exact ⟨h.bb.trans (x.below.mono (by omega)),h.kq.keptC x.kept (show b1 ≠ rw_ p by omega),h.tl.other x (by omega) (fun a ha hb e=>h.s3 a p ha hb h1 h2 e),t,h.s1,h.s2,h.s4,h.s3⟩
theorem LR.nextL {gl:Nat} {zl:Value} (h:LR w0 b1 lb wb (k + 1) kw rl rw_ q sl sr cl cw W) (hk:k < q.L.length + 1)
  (bl:Blk W gl ((List.range (q.R.length + 1)).map (fun _=>zl)).toArray 28)
  (h1:wb < gl) (h2:∀ p,k + 1≤p→p < q.L.length + 1→rl p ≠ gl) (h3:∀ p,kw≤p→p < q.L.length + 1→rw_ p ≠ gl) :
  LR w0 b1 lb wb k kw (fun p=>if p=k then gl else rl p) rw_ q sl sr (fun p r=>if p=k then zl else cl p r) cw (W.setCell ⟨lb,k,none⟩ (.slice (some ⟨gl,0,none⟩) (q.R.length + 1) (q.R.length + 1))) ∧
  Wrote lb W (W.setCell ⟨lb,k,none⟩ (.slice (some ⟨gl,0,none⟩) (q.R.length + 1) (q.R.length + 1))):=by
 have hs1:=h.s1
 obtain ⟨t1,x1⟩:=h.tl.next hk bl (by omega) (fun p a b=>h2 p a b)
 refine ⟨⟨h.bb.trans (x1.below.mono (by omega)),h.kq.keptC x1.kept (show b1 ≠ lb by omega),t1,h.tw.other x1 (by omega) (fun p a b=>by have:=h.s4 p a b; omega),h.s1,fun p a b=>?_,h.s4,fun p r a b c d=>?_⟩,x1⟩
 ·by_cases e:p=k
  ·rw [if_pos e]; exact h1
  ·rw [if_neg e]; exact h.s2 p (by omega) b
 ·by_cases e:p=k
  ·rw [if_pos e]; exact Ne.symm (h3 r c d)
  ·rw [if_neg e]; exact h.s3 p r (by omega) b c d
theorem LR.nextW {gw:Nat} {zw:Value} (h:LR w0 b1 lb wb kl (k + 1) rl rw_ q sl sr cl cw W) (hk:k < q.L.length + 1)
  (bw:Blk W gw ((List.range (q.R.length + 1)).map (fun _=>zw)).toArray 3)
  (h1:wb < gw) (h2:∀ p,k + 1≤p→p < q.L.length + 1→rw_ p ≠ gw) (h3:∀ p,kl≤p→p < q.L.length + 1→rl p ≠ gw) :
  LR w0 b1 lb wb kl k rl (fun p=>if p=k then gw else rw_ p) q sl sr cl (fun p r=>if p=k then zw else cw p r) (W.setCell ⟨wb,k,none⟩ (.slice (some ⟨gw,0,none⟩) (q.R.length + 1) (q.R.length + 1))) ∧
  Wrote wb W (W.setCell ⟨wb,k,none⟩ (.slice (some ⟨gw,0,none⟩) (q.R.length + 1) (q.R.length + 1))):=by
 have hs1:=h.s1
 obtain ⟨t1,x1⟩:=h.tw.next hk bw (by omega) (fun p a b=>h2 p a b)
 refine ⟨⟨h.bb.trans (x1.below.mono (by omega)),h.kq.keptC x1.kept (show b1 ≠ wb by omega),h.tl.other x1 (by omega) (fun p a b=>by have:=h.s2 p a b; omega),t1,h.s1,h.s2,fun p a b=>?_,fun p r a b c d=>?_⟩,x1⟩
 ·by_cases e:p=k
  ·rw [if_pos e]; exact h1
  ·rw [if_neg e]; exact h.s4 p (by omega) b
 ·by_cases e:r=k
  ·rw [if_pos e]; exact h3 p a b
  ·rw [if_neg e]; exact h.s3 p r a b (by omega) d
end

end Go.Proofs.YthhkmihjnnfpgaaGreatDoor

/- The region of the law's rests that makes a row of each table and stores both: its invariant. -/
namespace Go.Proofs.YthhkmihjnnfpgaaGreatDoor
set_option linter.all false
open Go.RowKit

theorem vals_apart {ds:List (Option Nat)} {vs:List Value} {L:Nat→Prop} {σ:Nat→Value} (V:Vals ds vs L σ) (i s:Nat) (v:Value) (hd:ds[i]?=some none) (h:lone ds i s=true) :
  Vals ds vs (fun k=>L k ∨ k=i) (updS σ (some s) v):=fun k s' v' e1 e2 hL=>by
 have hk:k ≠ i:=fun e=>by rw [e,hd] at e1; cases e1
 have hs:s' ≠ s:=fun e=>lone.ne h hk (e ▸ e1)
 unfold updS
 simp [hs]
 exact V k s' v' e1 e2 (hL.resolve_right hk)
theorem onlyAt_slot {slots:List Nat} {a a':Act} (h:OnlyAt slots a a') (s:Nat) (hs:slots.contains s=false):a'.tmps[s]?.getD undef=a.tmps[s]?.getD undef:=by
 rw [h.far s (by simpa using hs)]
structure R7 (w0 W:World) (b1 lb wb i:Nat) (rl rw_:Nat→Nat) (q:CQ) (sl sr:Value) (cl cw:Nat→Nat→Value) (L:Nat→Prop) (σ:Nat→Value) (U:World):Prop where
 sz:W.heap.size≤U.heap.size
 a:L 6→∃ g,σ 39=.slice (some ⟨g,0,none⟩) (q.R.length + 1) (q.R.length + 1)∧W.heap.size≤g∧Blk U g ((List.range (q.R.length + 1)).map (fun _=>Value.string ⟨#[]⟩)).toArray 28
 b:L 9→∃ g,σ 42=.slice (some ⟨g,0,none⟩) (q.R.length + 1) (q.R.length + 1)∧W.heap.size≤g∧Blk U g ((List.range (q.R.length + 1)).map (fun _=>Value.int .i64 0)).toArray 3
 ne:L 6→L 9→∀ g h,σ 39=.slice (some ⟨g,0,none⟩) (q.R.length + 1) (q.R.length + 1)→σ 42=.slice (some ⟨h,0,none⟩) (q.R.length + 1) (q.R.length + 1)→g ≠ h
 dep:(L 11→L 6)∧(L 13→L 9∧L 11)
 st:(¬ L 11∧¬ L 13∧LR w0 b1 lb wb (i + 1) (i + 1) rl rw_ q sl sr cl cw U) ∨
  (L 11∧¬ L 13∧∃ g,σ 39=.slice (some ⟨g,0,none⟩) (q.R.length + 1) (q.R.length + 1)∧LR w0 b1 lb wb i (i + 1) (fun p=>if p=i then g else rl p) rw_ q sl sr (fun p r=>if p=i then .string ⟨#[]⟩ else cl p r) cw U) ∨
  (L 11∧L 13∧∃ g h,LR w0 b1 lb wb i i (fun p=>if p=i then g else rl p) (fun p=>if p=i then h else rw_ p) q sl sr (fun p r=>if p=i then .string ⟨#[]⟩ else cl p r) (fun p r=>if p=i then .int .i64 0 else cw p r) U)
section
variable {w0 W U U':World} {b1 lb wb i:Nat} {rl rw_:Nat→Nat} {q:CQ} {sl sr:Value} {cl cw:Nat→Nat→Value} {L:Nat→Prop} {σ:Nat→Value}
theorem R7.below (h:R7 w0 W b1 lb wb i rl rw_ q sl sr cl cw L σ U) (d:Below U.heap.size U U'):R7 w0 W b1 lb wb i rl rw_ q sl sr cl cw L σ U':=by
 refine ⟨Nat.le_trans h.sz d.size,fun x=>?_,fun x=>?_,h.ne,h.dep,?_⟩
 ·obtain ⟨g,h1,h2,h3⟩:=h.a x
  exact ⟨g,h1,h2,h3.below d⟩
 ·obtain ⟨g,h1,h2,h3⟩:=h.b x
  exact ⟨g,h1,h2,h3.below d⟩
 ·rcases h.st with ⟨h1,h2,h3⟩ | ⟨h1,h2,g,h3,h4⟩ | ⟨h1,h2,g,h',h3⟩
  ·exact .inl ⟨h1,h2,h3.below d⟩
  ·exact .inr (.inl ⟨h1,h2,g,h3,h4.below d⟩)
  ·exact .inr (.inr ⟨h1,h2,g,h',h3.below d⟩)
theorem R7.pure (h:R7 w0 W b1 lb wb i rl rw_ q sl sr cl cw L σ U) (k s:Nat) (v:Value) (hk:k ≠ 6∧k ≠ 9∧k ≠ 11∧k ≠ 13) (hs:s ≠ 39∧s ≠ 42):R7 w0 W b1 lb wb i rl rw_ q sl sr cl cw (fun j=>L j ∨ j=k) (updS σ (some s) v) U:=by
 have e39:updS σ (some s) v 39=σ 39:=by unfold updS; exact if_neg (Ne.symm hs.1)
 have e42:updS σ (some s) v 42=σ 42:=by unfold updS; exact if_neg (Ne.symm hs.2)
 have l:∀ m,m ≠ k→((L m ∨ m=k) ↔ L m):=fun m hm=>⟨fun x=>x.resolve_right hm,.inl⟩
 have l6:=l 6 (Ne.symm hk.1)
 have l9:=l 9 (Ne.symm hk.2.1)
 have l11:=l 11 (Ne.symm hk.2.2.1)
 have l13:=l 13 (Ne.symm hk.2.2.2)
 refine ⟨h.sz,?_,?_,?_,?_,?_⟩
 ·rw [e39]; exact fun x=>h.a (l6.1 x)
 ·rw [e42]; exact fun x=>h.b (l9.1 x)
 ·rw [e39,e42]; exact fun x y=>h.ne (l6.1 x) (l9.1 y)
 ·exact ⟨fun x=>l6.2 (h.dep.1 (l11.1 x)),fun x=>⟨l9.2 (h.dep.2 (l13.1 x)).1,l11.2 (h.dep.2 (l13.1 x)).2⟩⟩
 ·rw [e39]
  rcases h.st with ⟨h1,h2,h3⟩ | ⟨h1,h2,g,h3,h4⟩ | ⟨h1,h2,g,h',h3⟩
  ·exact .inl ⟨fun x=>h1 (l11.1 x),fun x=>h2 (l13.1 x),h3⟩
  ·exact .inr (.inl ⟨l11.2 h1,fun x=>h2 (l13.1 x),g,h3,h4⟩)
  ·exact .inr (.inr ⟨l11.2 h1,l13.2 h2,g,h',h3⟩)
theorem slice_inj {g h:Nat} {m:Nat} (e:Value.slice (some ⟨g,0,none⟩) m m=Value.slice (some ⟨h,0,none⟩) m m):g=h:=by
 injection e with e1
 injection e1 with e2
 injection e2
theorem R7.mkA (h:R7 w0 W b1 lb wb i rl rw_ q sl sr cl cw L σ U) (hn:¬ L 6):R7 w0 W b1 lb wb i rl rw_ q sl sr cl cw (fun j=>L j ∨ j=6) (updS σ (some 39) (.slice (some ⟨U.heap.size,0,none⟩) (q.R.length + 1) (q.R.length + 1))) (U.alloc (.cells ((List.range (q.R.length + 1)).map (fun _=>Value.string ⟨#[]⟩)).toArray 28)):=by
 have d:=below_new U (.cells ((List.range (q.R.length + 1)).map (fun _=>Value.string ⟨#[]⟩)).toArray 28)
 have n11:¬ L 11:=fun x=>hn (h.dep.1 x)
 have n13:¬ L 13:=fun x=>n11 (h.dep.2 x).2
 have e39:updS σ (some 39) (.slice (some ⟨U.heap.size,0,none⟩) (q.R.length + 1) (q.R.length + 1)) 39=.slice (some ⟨U.heap.size,0,none⟩) (q.R.length + 1) (q.R.length + 1):=by unfold updS; exact if_pos rfl
 have e42:updS σ (some 39) (.slice (some ⟨U.heap.size,0,none⟩) (q.R.length + 1) (q.R.length + 1)) 42=σ 42:=by unfold updS; exact if_neg (by decide)
 have l:∀ m,m ≠ 6→((L m ∨ m=6) ↔ L m):=fun m hm=>⟨fun x=>x.resolve_right hm,.inl⟩
 refine ⟨Nat.le_trans h.sz d.size,fun _=>?_,fun x=>?_,fun _ y=>?_,⟨fun x=>absurd ((l 11 (by decide)).1 x) n11,fun x=>absurd ((l 13 (by decide)).1 x) n13⟩,?_⟩
 ·rw [e39]
  exact ⟨_,rfl,h.sz,Blk.fresh U _ _⟩
 ·rw [e42]
  obtain ⟨g,h1,h2,h3⟩:=h.b ((l 9 (by decide)).1 x)
  exact ⟨g,h1,h2,h3.below d⟩
 ·rw [e39,e42]
  obtain ⟨g,h1,h2,h3⟩:=h.b ((l 9 (by decide)).1 y)
  intro g' h' e1 e2 e3
  have x1:=slice_inj e1
  have x2:=slice_inj (h1.symm.trans e2)
  have:=h3.lt
  omega
 ·rcases h.st with ⟨h1,h2,h3⟩ | ⟨h1,_⟩ | ⟨h1,_⟩
  ·exact .inl ⟨fun x=>n11 ((l 11 (by decide)).1 x),fun x=>n13 ((l 13 (by decide)).1 x),h3.below d⟩
  ·exact absurd h1 n11
  ·exact absurd h1 n11
theorem R7.mkB (h:R7 w0 W b1 lb wb i rl rw_ q sl sr cl cw L σ U) (hn:¬ L 9):R7 w0 W b1 lb wb i rl rw_ q sl sr cl cw (fun j=>L j ∨ j=9) (updS σ (some 42) (.slice (some ⟨U.heap.size,0,none⟩) (q.R.length + 1) (q.R.length + 1))) (U.alloc (.cells ((List.range (q.R.length + 1)).map (fun _=>Value.int .i64 0)).toArray 3)):=by
 have d:=below_new U (.cells ((List.range (q.R.length + 1)).map (fun _=>Value.int .i64 0)).toArray 3)
 have n13:¬ L 13:=fun x=>hn (h.dep.2 x).1
 have e39:updS σ (some 42) (.slice (some ⟨U.heap.size,0,none⟩) (q.R.length + 1) (q.R.length + 1)) 39=σ 39:=by unfold updS; exact if_neg (by decide)
 have e42:updS σ (some 42) (.slice (some ⟨U.heap.size,0,none⟩) (q.R.length + 1) (q.R.length + 1)) 42=.slice (some ⟨U.heap.size,0,none⟩) (q.R.length + 1) (q.R.length + 1):=by unfold updS; exact if_pos rfl
 have l:∀ m,m ≠ 9→((L m ∨ m=9) ↔ L m):=fun m hm=>⟨fun x=>x.resolve_right hm,.inl⟩
 refine ⟨Nat.le_trans h.sz d.size,fun x=>?_,fun _=>?_,fun x _=>?_,⟨fun x=>.inl (h.dep.1 ((l 11 (by decide)).1 x)),fun x=>absurd ((l 13 (by decide)).1 x) n13⟩,?_⟩
 ·rw [e39]
  obtain ⟨g,h1,h2,h3⟩:=h.a ((l 6 (by decide)).1 x)
  exact ⟨g,h1,h2,h3.below d⟩
 ·rw [e42]
  exact ⟨_,rfl,h.sz,Blk.fresh U _ _⟩
 ·rw [e39,e42]
  obtain ⟨g,h1,h2,h3⟩:=h.a ((l 6 (by decide)).1 x)
  intro g' h' e1 e2 e3
  have x1:=slice_inj (h1.symm.trans e1)
  have x2:=slice_inj e2
  have:=h3.lt
  omega
 ·rw [e39]
  rcases h.st with ⟨h1,h2,h3⟩ | ⟨h1,h2,g,h3,h4⟩ | ⟨_,h2,_⟩
  ·exact .inl ⟨fun x=>h1 ((l 11 (by decide)).1 x),fun x=>n13 ((l 13 (by decide)).1 x),h3.below d⟩
  ·exact .inr (.inl ⟨.inl h1,fun x=>n13 ((l 13 (by decide)).1 x),g,h3,h4.below d⟩)
  ·exact absurd h2 n13
theorem R7.stA {g:Nat} (h:R7 w0 W b1 lb wb i rl rw_ q sl sr cl cw L σ U) (hn:¬ L 11) (h6:L 6) (hi:i < q.L.length + 1) (hg:σ 39=.slice (some ⟨g,0,none⟩) (q.R.length + 1) (q.R.length + 1)) (hW:lb < W.heap.size∧wb < W.heap.size) (hR:∀ p,i + 1≤p→p < q.L.length + 1→rl p < W.heap.size∧rw_ p < W.heap.size) (v:Value) :
  R7 w0 W b1 lb wb i rl rw_ q sl sr cl cw (fun j=>L j ∨ j=11) (updS σ none v) (U.setCell ⟨lb,i,none⟩ (.slice (some ⟨g,0,none⟩) (q.R.length + 1) (q.R.length + 1))):=by
 have n13:¬ L 13:=fun x=>hn (h.dep.2 x).2
 obtain ⟨g',a1,a2,a3⟩:=h.a h6
 obtain rfl:g=g':=slice_inj (hg.symm.trans a1)
 have l:∀ m,m ≠ 11→((L m ∨ m=11) ↔ L m):=fun m hm=>⟨fun x=>x.resolve_right hm,.inl⟩
 rcases h.st with ⟨h1,h2,h3⟩ | ⟨h1,_⟩ | ⟨h1,_⟩
 ·obtain ⟨t,x⟩:=h3.nextL hi a3 (by omega) (fun p a b=>by have:=hR p a b; omega) (fun p a b=>by have:=hR p a b; omega)
  refine ⟨Nat.le_trans h.sz x.below.size,fun _=>⟨g,a1,a2,a3.keptC x.kept (show g ≠ lb by omega)⟩,fun y=>?_,fun y z=>h.ne ((l 6 (by decide)).1 y) ((l 9 (by decide)).1 z),⟨fun _=>.inl h6,fun y=>absurd ((l 13 (by decide)).1 y) n13⟩,.inr (.inl ⟨.inr rfl,fun y=>n13 ((l 13 (by decide)).1 y),g,a1,t⟩)⟩
  obtain ⟨k,b1',b2,b3⟩:=h.b ((l 9 (by decide)).1 y)
  exact ⟨k,b1',b2,b3.keptC x.kept (show k ≠ lb by omega)⟩
 ·exact absurd h1 hn
 ·exact absurd h1 hn
theorem R7.stB {g:Nat} (h:R7 w0 W b1 lb wb i rl rw_ q sl sr cl cw L σ U) (hn:¬ L 13) (h9:L 9) (h11:L 11) (hi:i < q.L.length + 1) (hg:σ 42=.slice (some ⟨g,0,none⟩) (q.R.length + 1) (q.R.length + 1)) (hW:lb < W.heap.size∧wb < W.heap.size) (hR:∀ p,i + 1≤p→p < q.L.length + 1→rl p < W.heap.size∧rw_ p < W.heap.size) (v:Value) :
  R7 w0 W b1 lb wb i rl rw_ q sl sr cl cw (fun j=>L j ∨ j=13) (updS σ none v) (U.setCell ⟨wb,i,none⟩ (.slice (some ⟨g,0,none⟩) (q.R.length + 1) (q.R.length + 1))):=by
 have h6:=h.dep.1 h11
 obtain ⟨g',a1,a2,a3⟩:=h.b h9
 obtain rfl:g=g':=slice_inj (hg.symm.trans a1)
 have l:∀ m,m ≠ 13→((L m ∨ m=13) ↔ L m):=fun m hm=>⟨fun x=>x.resolve_right hm,.inl⟩
 rcases h.st with ⟨h1,_⟩ | ⟨h1,h2,k,h3,h4⟩ | ⟨_,h2,_⟩
 ·exact absurd h11 h1
 ·have hkg:=h.ne h6 h9 k g h3 hg
  obtain ⟨t,x⟩:=h4.nextW hi a3 (by omega) (fun p a b=>by have:=hR p a b; omega) (fun p a b=>by
   by_cases e:p=i
   ·rw [if_pos e]; exact hkg
   ·rw [if_neg e]; have:=hR p (by omega) b; omega)
  refine ⟨Nat.le_trans h.sz x.below.size,fun y=>?_,fun _=>⟨g,a1,a2,a3.keptC x.kept (show g ≠ wb by omega)⟩,fun y z=>h.ne ((l 6 (by decide)).1 y) ((l 9 (by decide)).1 z),⟨fun _=>.inl h6,fun _=>⟨.inl h9,.inl h11⟩⟩,.inr (.inr ⟨.inl h11,.inr rfl,k,g,t⟩)⟩
  obtain ⟨k',b1',b2,b3⟩:=h.a ((l 6 (by decide)).1 y)
  exact ⟨k',b1',b2,b3.keptC x.kept (show k' ≠ wb by omega)⟩
 ·exact absurd h2 hn
end

end Go.Proofs.YthhkmihjnnfpgaaGreatDoor

/- Two stores of one region, the one behind the other: what holds on the way. -/
namespace Go.Proofs.YthhkmihjnnfpgaaGreatDoor
set_option linter.all false
open Go.RowKit

structure ST2 (A B C:World→Prop) (m n:Nat) (L:Nat→Prop) (U:World):Prop where
 dep:L n→L m
 st:(¬ L m∧¬ L n∧A U) ∨ (L m∧¬ L n∧B U) ∨ (L m∧L n∧C U)
section
variable {A B C:World→Prop} {m n:Nat} {L:Nat→Prop} {U U':World}
theorem ST2.start (h:A U):ST2 A B C m n (fun _=>False) U:=⟨fun h=>h,.inl ⟨fun h=>h,fun h=>h,h⟩⟩
theorem ST2.pure (h:ST2 A B C m n L U) (k:Nat) (hk:k ≠ m∧k ≠ n):ST2 A B C m n (fun j=>L j ∨ j=k) U:=by
 have l:∀ x,x ≠ k→((L x ∨ x=k) ↔ L x):=fun x hx=>⟨fun y=>y.resolve_right hx,.inl⟩
 have lm:=l m (Ne.symm hk.1)
 have ln:=l n (Ne.symm hk.2)
 refine ⟨fun x=>lm.2 (h.dep (ln.1 x)),?_⟩
 rcases h.st with ⟨h1,h2,h3⟩ | ⟨h1,h2,h3⟩ | ⟨h1,h2,h3⟩
 ·exact .inl ⟨fun x=>h1 (lm.1 x),fun x=>h2 (ln.1 x),h3⟩
 ·exact .inr (.inl ⟨lm.2 h1,fun x=>h2 (ln.1 x),h3⟩)
 ·exact .inr (.inr ⟨lm.2 h1,ln.2 h2,h3⟩)
theorem ST2.read {X:World→Prop} (h:ST2 A B C m n L U) (hn:¬ L n) (ha:∀ U,A U→X U) (hb:∀ U,B U→X U):X U:=by
 rcases h.st with ⟨_,_,h3⟩ | ⟨_,_,h3⟩ | ⟨_,h2,_⟩
 ·exact ha _ h3
 ·exact hb _ h3
 ·exact absurd h2 hn
theorem ST2.read3 {X:World→Prop} (h:ST2 A B C m n L U) (ha:∀ U,A U→X U) (hb:∀ U,B U→X U) (hc:∀ U,C U→X U):X U:=by
 rcases h.st with ⟨_,_,h3⟩ | ⟨_,_,h3⟩ | ⟨_,_,h3⟩
 ·exact ha _ h3
 ·exact hb _ h3
 ·exact hc _ h3
theorem ST2.first (h:ST2 A B C m n L U) (hn:¬ L m) (hmn:n ≠ m) (hs:A U→B U'):ST2 A B C m n (fun j=>L j ∨ j=m) U':=by
 have n2:¬ L n:=fun x=>hn (h.dep x)
 refine ⟨fun _=>.inr rfl,?_⟩
 rcases h.st with ⟨_,_,h3⟩ | ⟨h1,_⟩ | ⟨h1,_⟩
 ·exact .inr (.inl ⟨.inr rfl,fun x=>n2 (x.resolve_right hmn),hs h3⟩)
 ·exact absurd h1 hn
 ·exact absurd h1 hn
theorem ST2.second (h:ST2 A B C m n L U) (hn:¬ L n) (hm:L m) (hs:B U→C U'):ST2 A B C m n (fun j=>L j ∨ j=n) U':=by
 refine ⟨fun _=>.inl hm,?_⟩
 rcases h.st with ⟨h1,_⟩ | ⟨_,_,h3⟩ | ⟨_,h2,_⟩
 ·exact absurd hm h1
 ·exact .inr (.inr ⟨.inl hm,.inr rfl,hs h3⟩)
 ·exact absurd h2 hn
theorem ST2.atA (h:ST2 A B C m n L U) (hn:¬ L m):A U:=by
 rcases h.st with ⟨_,_,h3⟩ | ⟨h1,_⟩ | ⟨h1,_⟩
 ·exact h3
 ·exact absurd h1 hn
 ·exact absurd h1 hn
theorem ST2.atB (h:ST2 A B C m n L U) (hn:¬ L n) (hm:L m):B U:=by
 rcases h.st with ⟨h1,_⟩ | ⟨_,_,h3⟩ | ⟨_,h2,_⟩
 ·exact absurd hm h1
 ·exact h3
 ·exact absurd h2 hn
theorem ST2.atC (h:ST2 A B C m n L U) (hn:L n):C U:=by
 rcases h.st with ⟨_,h1,_⟩ | ⟨_,h1,_⟩ | ⟨_,_,h3⟩
 ·exact absurd hn h1
 ·exact absurd hn h1
 ·exact h3
end
theorem cnt_endR (q:CQ):cnt q q.L.length q.R.length=1:=by
 rw [cnt_eq,if_pos ⟨rfl,rfl⟩,List.filter_eq_nil_iff.2 (fun k hk h=>by
  have h2:goodS q q.L.length q.R.length k:=by simpa using h
  exact ok_end hk h2.1)]
 rfl
theorem updE (A:Nat→Nat→Value) (z x:Value) (i j:Nat) (hx:x=A i j) (p r:Nat):updV (tabE A z i (j + 1)) i j x p r=tabE A z i j p r:=by
 subst hx
 exact entE_done A z i j p r

end Go.Proofs.YthhkmihjnnfpgaaGreatDoor

/- What the law's rests hold while kinds are tried: bounds. -/
namespace Go.Proofs.YthhkmihjnnfpgaaGreatDoor
set_option linter.all false
open Go.RowKit

theorem cntP_bd (q:CQ) (ok:OkQ q) (i j:Nat):∀ (k:Nat),k≤5→(∀ y,(cntP q i j k).1=some y→0≤y∧y≤780000)∧(cntP q i j k).2≤k * 244140625
 | 0,_=>⟨fun y h=>(by cases h),Nat.zero_le _⟩
 | k + 1, hk => by
  obtain ⟨h1,h2⟩:=cntP_bd q ok i j k (by omega)
  rw [cntP_next q i j k (by omega)]
  generalize cntP q i j k=P at *
  obtain ⟨a,n⟩:=P
  unfold tryC
  split
  ·rename_i ho
   have hb:=rst_bdQ q ok _ _ ho.1 ho.2.1
   have hc:=cst_bd q ok (k + 1) i j
   have hn:=cnt_bdQ q ok _ _ ho.1 ho.2.1
   dsimp only at h1 h2 ⊢
   cases a with
   | none=>exact ⟨fun y h=>by injection h with h; omega,by show cnt q _ _≤_; omega⟩
   | some y =>
    have h3:=h1 y rfl
    dsimp only
    split
    ·exact ⟨fun y h=>by injection h with h; omega,by show cnt q _ _≤_; omega⟩
    ·split
     ·exact ⟨fun y h=>by injection h with h; omega,by show n + cnt q _ _≤_; omega⟩
     ·exact ⟨fun y h=>by injection h with h; omega,Nat.le_trans h2 (Nat.mul_le_mul_right _ (Nat.le_succ k))⟩
  ·exact ⟨h1,Nat.le_trans h2 (Nat.mul_le_mul_right _ (Nat.le_succ k))⟩
theorem tryC_no {q:CQ} {i j k:Nat} (h:¬ okS q k i j) (P:Option Int × Nat):tryC q i j P k=P:=if_neg h
theorem tryC_none {q:CQ} {i j k:Nat} (h:okS q k i j) (n:Nat):tryC q i j (none,n) k=(some (rst q (nxI k i) (nxJ k j) + cst q k i j),cnt q (nxI k i) (nxJ k j)):=by unfold tryC; rw [if_pos h]
theorem tryC_lt {q:CQ} {i j k:Nat} (h:okS q k i j) (y:Int) (n:Nat) (h2:rst q (nxI k i) (nxJ k j) + cst q k i j < y):tryC q i j (some y,n) k=(some (rst q (nxI k i) (nxJ k j) + cst q k i j),cnt q (nxI k i) (nxJ k j)):=by unfold tryC; rw [if_pos h]; dsimp only; rw [if_pos h2]
theorem tryC_eq {q:CQ} {i j k:Nat} (h:okS q k i j) (y:Int) (n:Nat) (h2:rst q (nxI k i) (nxJ k j) + cst q k i j=y):tryC q i j (some y,n) k=(some y,n + cnt q (nxI k i) (nxJ k j)):=by unfold tryC; rw [if_pos h]; dsimp only; rw [if_neg (by omega),if_pos h2]
theorem tryC_gt {q:CQ} {i j k:Nat} (h:okS q k i j) (y:Int) (n:Nat) (h2:y < rst q (nxI k i) (nxJ k j) + cst q k i j):tryC q i j (some y,n) k=(some y,n):=by unfold tryC; rw [if_pos h]; dsimp only; rw [if_neg (by omega),if_neg (by omega)]
theorem costV_ok {q:CQ} {k i j:Nat} (hk:1≤k∧k≤5) (hi:i≤q.L.length) (hj:j≤q.R.length) (h:okS q k i j):costV q k i j=.tuple #[.string (qT (cst q k i j)),.int .i64 0]:=by
 unfold costV
 rw [errI_S q k i j hk hi hj,(errS_ok q k i j).2 h]; rfl
theorem costV_no {q:CQ} {k i j:Nat} (hk:1≤k∧k≤5) (hi:i≤q.L.length) (hj:j≤q.R.length) (h:¬ okS q k i j):∃ er,er ≠ 0∧costV q k i j=.tuple #[.string ⟨#[]⟩,.int .i64 er]:=by
 have h1:errS q k i j ≠ 0:=fun e=>h ((errS_ok q k i j).1 e)
 refine ⟨errS q k i j,h1,?_⟩
 unfold costV
 rw [errI_S q k i j hk hi hj,if_neg h1]
def Deps (ds:List (Nat × Nat)) (L:Nat→Prop):Prop:=∀ p ∈ ds,L p.1→L p.2
theorem Deps.start (ds:List (Nat × Nat)):Deps ds (fun _=>False):=fun _ _ h=>h.elim
theorem Deps.step {ds:List (Nat × Nat)} {L:Nat→Prop} (h:Deps ds L) (k:Nat) (hk:∀ p ∈ ds,p.1=k→L p.2):Deps ds (fun j=>L j ∨ j=k):=fun p hp h1=>.inl (h1.elim (h p hp) (hk p hp))
structure ST1 (A B:World→Prop) (m:Nat) (L:Nat→Prop) (U:World):Prop where
 st:(¬ L m∧A U) ∨ (L m∧B U)
section
variable {A B:World→Prop} {m:Nat} {L:Nat→Prop} {U U':World}
theorem ST1.start (h:A U):ST1 A B m (fun _=>False) U:=⟨.inl ⟨fun h=>h,h⟩⟩
theorem ST1.pure (h:ST1 A B m L U) (k:Nat) (hk:k ≠ m):ST1 A B m (fun j=>L j ∨ j=k) U:=by
 have lm:(L m ∨ m=k) ↔ L m:=⟨fun y=>y.resolve_right (Ne.symm hk),.inl⟩
 rcases h.st with ⟨h1,h2⟩ | ⟨h1,h2⟩
 ·exact ⟨.inl ⟨fun x=>h1 (lm.1 x),h2⟩⟩
 ·exact ⟨.inr ⟨.inl h1,h2⟩⟩
theorem ST1.read {X:World→Prop} (h:ST1 A B m L U) (ha:∀ U,A U→X U) (hb:∀ U,B U→X U):X U:=by
 rcases h.st with ⟨_,h2⟩ | ⟨_,h2⟩
 ·exact ha _ h2
 ·exact hb _ h2
theorem ST1.atA (h:ST1 A B m L U) (hn:¬ L m):A U:=by
 rcases h.st with ⟨_,h2⟩ | ⟨h1,_⟩
 ·exact h2
 ·exact absurd h1 hn
theorem ST1.first (h:ST1 A B m L U) (hn:¬ L m) (hs:A U→B U'):ST1 A B m (fun j=>L j ∨ j=m) U':=⟨.inr ⟨.inr rfl,hs (h.atA hn)⟩⟩
theorem ST1.atB (h:ST1 A B m L U) (hn:L m):B U:=by
 rcases h.st with ⟨h1,_⟩ | ⟨_,h2⟩
 ·exact absurd hn h1
 ·exact h2
end
theorem cntP_st (q:CQ) (i j k:Nat) (h1:1≤k) (h2:k≤5):cntP q i j k=tryC q i j (cntP q i j (k - 1)) k:=by
 have h:=cntP_next q i j (k - 1) (by omega)
 rw [show k - 1 + 1=k by omega] at h
 exact h

end Go.Proofs.YthhkmihjnnfpgaaGreatDoor
