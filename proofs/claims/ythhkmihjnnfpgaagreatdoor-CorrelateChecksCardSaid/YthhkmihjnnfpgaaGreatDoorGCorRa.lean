/- The tables of the law's rests of chapter 44. -/
import Derived.Test.YthhkmihjnnfpgaaGreatDoorGCorY
/- The state of the law's rests: two tables whose rows are made from the last one on. -/
namespace Go.Proofs.YthhkmihjnnfpgaaGreatDoor
set_option linter.all false
open Go.RowKit

section
variable (A:Nat→Nat→Value) (z:Value) (i j:Nat)
end

structure LR (w0:World) (b1 lb wb kl kw:Nat) (rl rw_:Nat→Nat) (q:CQ) (sl sr:Value) (cl cw:Nat→Nat→Value) (W:World):Prop where
 bb:Below w0.heap.size w0 W
 kq:Blk W b1 #[sl,sr,.string (qT (2 * q.ch)),.string (qT (2 * q.mi)),.string (qT (2 * q.ga)),.string (qT (2 * q.re))] 32
 tl:TabS W lb (q.L.length + 1) (q.R.length + 1) kl rl cl 71 28
 tw:TabS W wb (q.L.length + 1) (q.R.length + 1) kw rw_ cw 50 3
 s1:w0.heap.size≤b1∧b1 < lb∧lb < wb
 s2:∀ p,kl≤p→p < q.L.length + 1→wb < rl p
 s4:∀ p,kw≤p→p < q.L.length + 1→wb < rw_ p
 s3:∀ p r,kl≤p→p < q.L.length + 1→kw≤r→r < q.L.length + 1→rl p ≠ rw_ r
section
variable {w0 W W':World} {b1 lb wb kl kw k:Nat} {rl rw_:Nat→Nat} {q:CQ} {sl sr:Value} {cl cw:Nat→Nat→Value}
theorem LR.below (h:LR w0 b1 lb wb kl kw rl rw_ q sl sr cl cw W) (d:Below W.heap.size W W'):LR w0 b1 lb wb kl kw rl rw_ q sl sr cl cw W' :=
 ⟨h.bb.trans (d.mono h.bb.size),h.kq.below d,h.tl.below d,h.tw.below d,h.s1,h.s2,h.s4,h.s3⟩
end

end Go.Proofs.YthhkmihjnnfpgaaGreatDoor

/- The region of the law's rests that makes a row of each table and stores both: its invariant. -/
namespace Go.Proofs.YthhkmihjnnfpgaaGreatDoor
set_option linter.all false
open Go.RowKit

structure R7 (w0 W:World) (b1 lb wb i:Nat) (rl rw_:Nat→Nat) (q:CQ) (sl sr:Value) (cl cw:Nat→Nat→Value) (L:Nat→Prop) (σ:Nat→Value) (U:World):Prop where
 sz:W.heap.size≤U.heap.size
 a:L 6→∃ g,σ 39=.slice (some ⟨g,0,none⟩) (q.R.length + 1) (q.R.length + 1)∧W.heap.size≤g∧Blk U g ((List.range (q.R.length + 1)).map (fun _=>Value.string ⟨#[]⟩)).toArray 28
 b:L 9→∃ g,σ 42=.slice (some ⟨g,0,none⟩) (q.R.length + 1) (q.R.length + 1)∧W.heap.size≤g∧Blk U g ((List.range (q.R.length + 1)).map (fun _=>Value.int .i64 0)).toArray 3
 ne:L 6→L 9→∀ g h,σ 39=.slice (some ⟨g,0,none⟩) (q.R.length + 1) (q.R.length + 1)→σ 42=.slice (some ⟨h,0,none⟩) (q.R.length + 1) (q.R.length + 1)→g ≠ h
 dep:(L 11→L 6)∧(L 13→L 9∧L 11)
 st:(¬ L 11∧¬ L 13∧LR w0 b1 lb wb (i + 1) (i + 1) rl rw_ q sl sr cl cw U) ∨
  (L 11∧¬ L 13∧∃ g,σ 39=.slice (some ⟨g,0,none⟩) (q.R.length + 1) (q.R.length + 1)∧LR w0 b1 lb wb i (i + 1) (fun p=>if p=i then g else rl p) rw_ q sl sr (fun p r=>if p=i then .string ⟨#[]⟩ else cl p r) cw U) ∨
  (L 11∧L 13∧∃ g h,LR w0 b1 lb wb i i (fun p=>if p=i then g else rl p) (fun p=>if p=i then h else rw_ p) q sl sr (fun p r=>if p=i then .string ⟨#[]⟩ else cl p r) (fun p r=>if p=i then .int .i64 0 else cw p r) U)
section
variable {w0 W U U':World} {b1 lb wb i:Nat} {rl rw_:Nat→Nat} {q:CQ} {sl sr:Value} {cl cw:Nat→Nat→Value} {L:Nat→Prop} {σ:Nat→Value}
theorem R7.below (h:R7 w0 W b1 lb wb i rl rw_ q sl sr cl cw L σ U) (d:Below U.heap.size U U'):R7 w0 W b1 lb wb i rl rw_ q sl sr cl cw L σ U':=by
 refine ⟨Nat.le_trans h.sz d.size,fun x=>?_,fun x=>?_,h.ne,h.dep,?_⟩
 ·obtain ⟨g,h1,h2,h3⟩:=h.a x
  exact ⟨g,h1,h2,h3.below d⟩
 ·obtain ⟨g,h1,h2,h3⟩:=h.b x
  exact ⟨g,h1,h2,h3.below d⟩
 ·rcases h.st with ⟨h1,h2,h3⟩ | ⟨h1,h2,g,h3,h4⟩ | ⟨h1,h2,g,h',h3⟩
  ·exact .inl ⟨h1,h2,h3.below d⟩
  ·exact .inr (.inl ⟨h1,h2,g,h3,h4.below d⟩)
  ·exact .inr (.inr ⟨h1,h2,g,h',h3.below d⟩)
end

end Go.Proofs.YthhkmihjnnfpgaaGreatDoor
