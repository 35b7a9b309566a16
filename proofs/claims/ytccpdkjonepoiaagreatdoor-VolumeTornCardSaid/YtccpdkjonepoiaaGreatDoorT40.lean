/- Arguments of commonslaw17's laws opened: a deed by itself. -/
import Derived.Test.YtccpdkjonepoiaaGreatDoorT38
set_option linter.unusedVariables false
set_option linter.unusedSimpArgs false
set_option linter.unusedSectionVars false
set_option maxHeartbeats 8000000
set_option maxRecDepth 100000
namespace Go.Proofs.YtccpdkjonepoiaaGreatDoor
open Go.RowKit
open Lib(hid)
open Go.Proofs.Tryz
open Go.ChangeShapes Go.WideShapes
theorem open_deed1{H:Type}{enc:TypeId×Value→H}{W:World}{base:Nat}{v:Value}{d:DataW H}{p:List MemPlace}(hv:Value.okWide prog W .any base 60 v)(hd:DataW.Trod enc prog W 0 (fun _=>true) true 60 v d p)(hlt:∀x∈p,x.block<W.heap.size):
 ∃k:Dd,v= .agg (ddC k)∧Y4 W k:=by
 obtain⟨cs,rfl,_⟩:=okWide_struct underlying60 hv;obtain⟨fuel,hf⟩:=hd;obtain⟨l⟩:=cs;obtain⟨k,hk,⟨w1,w2,w3⟩,w0⟩:=Xd hf;have hl:l=(ddC k).toList:=hk;refine⟨k,by rw[hl],w1,w2,w3,(w0 hlt).fewer (Nat.min_le_left _ _)⟩
end Go.Proofs.YtccpdkjonepoiaaGreatDoor
