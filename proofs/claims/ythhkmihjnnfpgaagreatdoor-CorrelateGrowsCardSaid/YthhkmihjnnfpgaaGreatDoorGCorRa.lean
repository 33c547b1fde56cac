/- The tables of the law's rests of chapter 44. -/
import Derived.Test.YthhkmihjnnfpgaaGreatDoorGCorTa
import Derived.BigQuiet
/- The state of the law's rests: two tables whose rows are made from the last one on. -/
namespace Go.Proofs.YthhkmihjnnfpgaaGreatDoor
set_option linter.all false
open Go.RowKit

section
variable (A:Nat→Nat→Value) (z:Value) (i j:Nat)
end

structure LR (w0:World) (b1 lb wb kl kw:Nat) (rl rw_:Nat→Nat) (q:CQ) (sl sr:Value) (cl cw:Nat→Nat→Value) (W:World):Prop where
 bb:Below w0.heap.size w0 W
 kq:Blk W b1 #[sl,sr,.string (qT (2 * q.ch)),.string (qT (2 * q.mi)),.string (qT (2 * q.ga)),.string (qT (2 * q.re))] 32
 tl:TabS W lb (q.L.length + 1) (q.R.length + 1) kl rl cl 71 28
 tw:TabS W wb (q.L.length + 1) (q.R.length + 1) kw rw_ cw 50 3
 s1:w0.heap.size≤b1∧b1 < lb∧lb < wb
 s2:∀ p,kl≤p→p < q.L.length + 1→wb < rl p
 s4:∀ p,kw≤p→p < q.L.length + 1→wb < rw_ p
 s3:∀ p r,kl≤p→p < q.L.length + 1→kw≤r→r < q.L.length + 1→rl p ≠ rw_ r
section
variable {w0 W W':World} {b1 lb wb kl kw k:Nat} {rl rw_:Nat→Nat} {q:CQ} {sl sr:Value} {cl cw:Nat→Nat→Value}
theorem LR.below (h:LR w0 b1 lb wb kl kw rl rw_ q sl sr cl cw W) (d:Below W.heap.size W W'):LR w0 b1 lb wb kl kw rl rw_ q sl sr cl cw W' :=
 ⟨h.bb.trans (d.mono h.bb.size),h.kq.below d,h.tl.below d,h.tw.below d,h.s1,h.s2,h.s4,h.s3⟩
end

end Go.Proofs.YthhkmihjnnfpgaaGreatDoor

/- The region of the law's rests that makes a row of each table and stores both: its invariant. -/
namespace Go.Proofs.YthhkmihjnnfpgaaGreatDoor
set_option linter.all false
open Go.RowKit

theorem vals_apart {ds:List (Option Nat)} {vs:List Value} {L:Nat→Prop} {σ:Nat→Value} (V:Vals ds vs L σ) (i s:Nat) (v:Value) (hd:ds[i]?=some none) (h:lone ds i s=true) :
  Vals ds vs (fun k=>L k ∨ k=i) (updS σ (some s) v):=fun k s' v' e1 e2 hL=>by
 have hk:k ≠ i:=fun e=>by rw [e,hd] at e1; cases e1
 have hs:s' ≠ s:=fun e=>lone.ne h hk (e ▸ e1)
 unfold updS
 simp [hs]
 exact V k s' v' e1 e2 (hL.resolve_right hk)
theorem onlyAt_slot {slots:List Nat} {a a':Act} (h:OnlyAt slots a a') (s:Nat) (hs:slots.contains s=false):a'.tmps[s]?.getD undef=a.tmps[s]?.getD undef:=by
 rw [h.far s (by simpa using hs)]
structure R7 (w0 W:World) (b1 lb wb i:Nat) (rl rw_:Nat→Nat) (q:CQ) (sl sr:Value) (cl cw:Nat→Nat→Value) (L:Nat→Prop) (σ:Nat→Value) (U:World):Prop where
 sz:W.heap.size≤U.heap.size
 a:L 6→∃ g,σ 39=.slice (some ⟨g,0,none⟩) (q.R.length + 1) (q.R.length + 1)∧W.heap.size≤g∧Blk U g ((List.range (q.R.length + 1)).map (fun _=>Value.string ⟨#[]⟩)).toArray 28
 b:L 9→∃ g,σ 42=.slice (some ⟨g,0,none⟩) (q.R.length + 1) (q.R.length + 1)∧W.heap.size≤g∧Blk U g ((List.range (q.R.length + 1)).map (fun _=>Value.int .i64 0)).toArray 3
 ne:L 6→L 9→∀ g h,σ 39=.slice (some ⟨g,0,none⟩) (q.R.length + 1) (q.R.length + 1)→σ 42=.slice (some ⟨h,0,none⟩) (q.R.length + 1) (q.R.length + 1)→g ≠ h
 dep:(L 11→L 6)∧(L 13→L 9∧L 11)
 st:(¬ L 11∧¬ L 13∧LR w0 b1 lb wb (i + 1) (i + 1) rl rw_ q sl sr cl cw U) ∨
  (L 11∧¬ L 13∧∃ g,σ 39=.slice (some ⟨g,0,none⟩) (q.R.length + 1) (q.R.length + 1)∧LR w0 b1 lb wb i (i + 1) (fun p=>if p=i then g else rl p) rw_ q sl sr (fun p r=>if p=i then .string ⟨#[]⟩ else cl p r) cw U) ∨
  (L 11∧L 13∧∃ g h,LR w0 b1 lb wb i i (fun p=>if p=i then g else rl p) (fun p=>if p=i then h else rw_ p) q sl sr (fun p r=>if p=i then .string ⟨#[]⟩ else cl p r) (fun p r=>if p=i then .int .i64 0 else cw p r) U)
section
variable {w0 W U U':World} {b1 lb wb i:Nat} {rl rw_:Nat→Nat} {q:CQ} {sl sr:Value} {cl cw:Nat→Nat→Value} {L:Nat→Prop} {σ:Nat→Value}
theorem R7.below (h:R7 w0 W b1 lb wb i rl rw_ q sl sr cl cw L σ U) (d:Below U.heap.size U U'):R7 w0 W b1 lb wb i rl rw_ q sl sr cl cw L σ U':=by
 refine ⟨Nat.le_trans h.sz d.size,fun x=>?_,fun x=>?_,h.ne,h.dep,?_⟩
 ·obtain ⟨g,h1,h2,h3⟩:=h.a x
  exact ⟨g,h1,h2,h3.below d⟩
 ·obtain ⟨g,h1,h2,h3⟩:=h.b x
  exact ⟨g,h1,h2,h3.below d⟩
 ·rcases h.st with ⟨h1,h2,h3⟩ | ⟨h1,h2,g,h3,h4⟩ | ⟨h1,h2,g,h',h3⟩
  ·exact .inl ⟨h1,h2,h3.below d⟩
  ·exact .inr (.inl ⟨h1,h2,g,h3,h4.below d⟩)
  ·exact .inr (.inr ⟨h1,h2,g,h',h3.below d⟩)
theorem R7.pure (h:R7 w0 W b1 lb wb i rl rw_ q sl sr cl cw L σ U) (k s:Nat) (v:Value) (hk:k ≠ 6∧k ≠ 9∧k ≠ 11∧k ≠ 13) (hs:s ≠ 39∧s ≠ 42):R7 w0 W b1 lb wb i rl rw_ q sl sr cl cw (fun j=>L j ∨ j=k) (updS σ (some s) v) U:=by
 have e39:updS σ (some s) v 39=σ 39:=by unfold updS; exact if_neg (Ne.symm hs.1)
 have e42:updS σ (some s) v 42=σ 42:=by unfold updS; exact if_neg (Ne.symm hs.2)
 have l:∀ m,m ≠ k→((L m ∨ m=k) ↔ L m):=fun m hm=>⟨fun x=>x.resolve_right hm,.inl⟩
 have l6:=l 6 (Ne.symm hk.1)
 have l9:=l 9 (Ne.symm hk.2.1)
 have l11:=l 11 (Ne.symm hk.2.2.1)
 have l13:=l 13 (Ne.symm hk.2.2.2)
 refine ⟨h.sz,?_,?_,?_,?_,?_⟩
 ·rw [e39]; exact fun x=>h.a (l6.1 x)
 ·rw [e42]; exact fun x=>h.b (l9.1 x)
 ·rw [e39,e42]; exact fun x y=>h.ne (l6.1 x) (l9.1 y)
 ·exact ⟨fun x=>l6.2 (h.dep.1 (l11.1 x)),fun x=>⟨l9.2 (h.dep.2 (l13.1 x)).1,l11.2 (h.dep.2 (l13.1 x)).2⟩⟩
 ·rw [e39]
  rcases h.st with ⟨h1,h2,h3⟩ | ⟨h1,h2,g,h3,h4⟩ | ⟨h1,h2,g,h',h3⟩
  ·exact .inl ⟨fun x=>h1 (l11.1 x),fun x=>h2 (l13.1 x),h3⟩
  ·exact .inr (.inl ⟨l11.2 h1,fun x=>h2 (l13.1 x),g,h3,h4⟩)
  ·exact .inr (.inr ⟨l11.2 h1,l13.2 h2,g,h',h3⟩)
end

end Go.Proofs.YthhkmihjnnfpgaaGreatDoor

/- Two stores of one region, the one behind the other: what holds on the way. -/
namespace Go.Proofs.YthhkmihjnnfpgaaGreatDoor
set_option linter.all false
open Go.RowKit

structure ST2 (A B C:World→Prop) (m n:Nat) (L:Nat→Prop) (U:World):Prop where
 dep:L n→L m
 st:(¬ L m∧¬ L n∧A U) ∨ (L m∧¬ L n∧B U) ∨ (L m∧L n∧C U)
section
variable {A B C:World→Prop} {m n:Nat} {L:Nat→Prop} {U U':World}
theorem ST2.start (h:A U):ST2 A B C m n (fun _=>False) U:=⟨fun h=>h,.inl ⟨fun h=>h,fun h=>h,h⟩⟩
theorem ST2.pure (h:ST2 A B C m n L U) (k:Nat) (hk:k ≠ m∧k ≠ n):ST2 A B C m n (fun j=>L j ∨ j=k) U:=by
 have l:∀ x,x ≠ k→((L x ∨ x=k) ↔ L x):=fun x hx=>⟨fun y=>y.resolve_right hx,.inl⟩
 have lm:=l m (Ne.symm hk.1)
 have ln:=l n (Ne.symm hk.2)
 refine ⟨fun x=>lm.2 (h.dep (ln.1 x)),?_⟩
 rcases h.st with ⟨h1,h2,h3⟩ | ⟨h1,h2,h3⟩ | ⟨h1,h2,h3⟩
 ·exact .inl ⟨fun x=>h1 (lm.1 x),fun x=>h2 (ln.1 x),h3⟩
 ·exact .inr (.inl ⟨lm.2 h1,fun x=>h2 (ln.1 x),h3⟩)
 ·exact .inr (.inr ⟨lm.2 h1,ln.2 h2,h3⟩)
theorem ST2.read {X:World→Prop} (h:ST2 A B C m n L U) (hn:¬ L n) (ha:∀ U,A U→X U) (hb:∀ U,B U→X U):X U:=by
 rcases h.st with ⟨_,_,h3⟩ | ⟨_,_,h3⟩ | ⟨_,h2,_⟩
 ·exact ha _ h3
 ·exact hb _ h3
 ·exact absurd h2 hn
end

end Go.Proofs.YthhkmihjnnfpgaaGreatDoor

/- What the law's rests hold while kinds are tried: bounds. -/
namespace Go.Proofs.YthhkmihjnnfpgaaGreatDoor
set_option linter.all false
open Go.RowKit

def Deps (ds:List (Nat × Nat)) (L:Nat→Prop):Prop:=∀ p ∈ ds,L p.1→L p.2
theorem Deps.start (ds:List (Nat × Nat)):Deps ds (fun _=>False):=fun _ _ h=>h.elim
structure ST1 (A B:World→Prop) (m:Nat) (L:Nat→Prop) (U:World):Prop where
 st:(¬ L m∧A U) ∨ (L m∧B U)
section
variable {A B:World→Prop} {m:Nat} {L:Nat→Prop} {U U':World}
theorem ST1.start (h:A U):ST1 A B m (fun _=>False) U:=⟨.inl ⟨fun h=>h,h⟩⟩
theorem ST1.pure (h:ST1 A B m L U) (k:Nat) (hk:k ≠ m):ST1 A B m (fun j=>L j ∨ j=k) U:=by
 have lm:(L m ∨ m=k) ↔ L m:=⟨fun y=>y.resolve_right (Ne.symm hk),.inl⟩
 rcases h.st with ⟨h1,h2⟩ | ⟨h1,h2⟩
 ·exact ⟨.inl ⟨fun x=>h1 (lm.1 x),h2⟩⟩
 ·exact ⟨.inr ⟨.inl h1,h2⟩⟩
theorem ST1.read {X:World→Prop} (h:ST1 A B m L U) (ha:∀ U,A U→X U) (hb:∀ U,B U→X U):X U:=by
 rcases h.st with ⟨_,h2⟩ | ⟨_,h2⟩
 ·exact ha _ h2
 ·exact hb _ h2
end

end Go.Proofs.YthhkmihjnnfpgaaGreatDoor
