/- Walks: the document's file. -/
import Derived.Test.YtckoobkjpndgnaaGreatDoorW20
set_option linter.unusedVariables false
set_option linter.unusedSimpArgs false
set_option linter.unusedSectionVars false
set_option maxHeartbeats 8000000
set_option maxRecDepth 100000
namespace Go.Proofs.YtckoobkjpndgnaaGreatDoor
open Go.RowKit
open Lib(hid)
open Go.Proofs.Tryz
theorem RefF.dirLow{w:World}{r n:Nat}{S:Pz.Fil}{F:Nat→Prop}(h:RefF r S w F)(hn:n<S.N.length):
 ∃b c,w.cell? ⟨r,0,none⟩=some (.slice (some ⟨b,0,none⟩) S.N.length c)∧w.cell? ⟨b,n*3,none⟩=some (.bool (Pz.isDir S.N n))∧w.cell? ⟨b,n*3+1,none⟩=some (.string ⟨(Pz.nodeD S.N n).data.toArray⟩)∧w.cell? ⟨b,n*3+2,none⟩=some (.int .i64 (Pz.nodeD S.N n).links)∧r<w.heap.size∧b<w.heap.size:=by
 obtain⟨x,hx⟩:∃x,S.N[n]? =some x:=⟨_,List.getElem?_eq_getElem hn⟩;obtain⟨b,c,h1,h8,_,_,h9,h2,h3,h4,_⟩:=h.node hx;refine⟨b,c,h1,?_,?_,?_,h8,h9⟩
 ·unfold Pz.isDir;rw[hx];exact h2
 ·unfold Pz.nodeD;rw[hx];exact h3
 ·unfold Pz.nodeD;rw[hx];exact h4

end Go.Proofs.YtckoobkjpndgnaaGreatDoor
