/- Correlate: potentials. -/
import Derived.Test.YthhkmihjnnfpgaaGreatDoorCorR
/- Potentials over lists of steps. -/
namespace Go.Proofs.YthhkmihjnnfpgaaGreatDoor
set_option linter.all false
open Go.RowKit

structure StP (w0:World) (bq bo ob:Nat) (rb:List Nat) (q:CQ) (sl sr:Value) (c:Nat→Nat→ByteArray) (ds:List Deferred) (W:World):Prop where
 bb:Below w0.heap.size w0 W
 kq:Blk W bq #[sl,sr,.string (qT (2 * q.ch)),.string (qT (2 * q.mi)),.string (qT (2 * q.ga)),.string (qT (2 * q.re))] 32
 ko:Blk W bo #[.slice (some ⟨ob,0,none⟩) rb.length rb.length] 99
 tab:TabT W ob rb (q.R.length + 1) c 71 28
 mrk:Marks w0.heap.size W ds
 s1:w0.heap.size≤bq
 s2:bq < ob∧ob < bo
 s3:∀ g ∈ rb,bq < g∧g < bo
section
variable {w0 W W':World} {bq bo ob:Nat} {rb:List Nat} {q:CQ} {sl sr:Value} {c:Nat→Nat→ByteArray} {ds:List Deferred}
theorem StP.below (h:StP w0 bq bo ob rb q sl sr c ds W) (k:Below W.heap.size W W'):StP w0 bq bo ob rb q sl sr c ds W' :=
 ⟨h.bb.trans (k.mono h.bb.size),h.kq.below k,h.ko.below k,h.tab.below k,h.mrk.kept (keepsFrom_below k),h.s1,h.s2,h.s3⟩
theorem StP.size (h:StP w0 bq bo ob rb q sl sr c ds W):w0.heap.size≤W.heap.size:=h.bb.size
theorem StP.own {β:Type} {B:Nat} {WB:World} (hB:WB.heap.size=B) (hw:w0.heap.size≤B) (hm:Marks w0.heap.size WB ds) (f:β→Nat→Nat→ByteArray):OwnFrom B (fun (s:β) V=>StP w0 bq bo ob rb q sl sr (f s) ds V∧KeepsLow B WB V):=fun s V V' row h hg hr=>by
 have hk:=KeepsLow.own (β:=β) B WB s V V' row h.2 hg hr
 have hb:=ownFrom_bb (β:=β) hw s V V' row ⟨h.1.bb.size,h.1.bb⟩ hg hr
 have hc:=ownFrom_cells (I:=fun (_:Unit) X=>Blk X bq #[sl,sr,.string (qT (2 * q.ch)),.string (qT (2 * q.mi)),.string (qT (2 * q.ga)),.string (qT (2 * q.re))] 32 ∧ Blk X bo #[.slice (some ⟨ob,0,none⟩) rb.length rb.length] 99 ∧ TabT X ob rb (q.R.length + 1) (f s) 71 28)
  (fun _ X X' h k _=>⟨h.1.keptC k trivial,h.2.1.keptC k trivial,h.2.2.keptC k trivial (fun _ _=>trivial)⟩) B () V V' row ⟨h.1.kq,h.1.ko,h.1.tab⟩ hg hr
 exact ⟨⟨hb.2,hc.1,hc.2.1,hc.2.2,Marks.low (Nat.le_of_eq hB) hk hm,h.1.s1,h.1.s2,h.1.s3⟩,hk⟩
end

end Go.Proofs.YthhkmihjnnfpgaaGreatDoor
