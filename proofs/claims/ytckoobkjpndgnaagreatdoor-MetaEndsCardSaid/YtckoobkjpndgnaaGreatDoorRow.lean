/- The row of a law out of its walk: what the arguments read as stays, as nothing below the heap's old size has turned. Structs of five fields opened. -/
import Derived.WalkKit
import Derived.ProofKit
import Derived.OpenShut
import Derived.Lib.SmallJoins
set_option linter.unusedVariables false
set_option linter.unusedSimpArgs false
set_option linter.unusedSectionVars false
namespace Go.Proofs.YtckoobkjpndgnaaGreatDoor
open Go.ChangeShapes Go.WideShapes Go.ChangeAt Go.RowKit
theorem trodAll_below{H:Type}{enc:TypeId×Value→H}{P:Program}(hl:laidOutB P=true){W W':World}(hb:Below W.heap.size W W'):
 ∀{ts:List TypeId} {vs:List Value} {ds:List (DataW H)} {ps:List MemPlace},(∀t∈ts,P.readableRec t=true∧t<P.types.size)→
 DataW.TrodAll enc P W 0 (fun _=>true) true ts vs ds ps→(∀x∈ps,x.block<W.heap.size)→DataW.TrodAll enc P W' 0 (fun b=>decide (b<W.heap.size)) true ts vs ds ps
 |[],_,_,_,_,h,_=>by
  obtain⟨rfl,rfl,rfl⟩:=trodAll_nil h
  exact trodAll_mk0
 |t::ts,_,_,_,ht,h,hlt=>by
  obtain⟨v,vs',d,ds',p,q,rfl,rfl,rfl,h0,r0⟩:=trodAll_cons h
  exact trodAll_cons_mk (Below.trod hl (ht t (by simp)).1 (ht t (by simp)).2 h0 hb (fun x hx=>hlt x (by simp[hx])))
   (trodAll_below hl hb (fun u hu=>ht u (by simp[hu])) r0 (fun x hx=>hlt x (by simp[hx])))
theorem law_post{H:Type}{enc:TypeId×Value→H}{P:Program}{f:Func}{s:ChangeSpec}{W W':World}{args:Array Value}{ds gs:List (DataW H)}{before:List MemPlace}{tb:TypeId}
 (hl:laidOutB P=true)(hts:f.params.toList.all (fun t=>P.readableRec t&&decide (t<P.types.size))=true)(hres:f.resultTypes=#[tb])(hbool:P.underlying tb=some .bool)
 (hvars:s.vars=[])(hs:s.fn H (ds++gs)={results:=[.lit (.bool true)],args:=ds})
 (hW:DataW.Whole enc P f.params.toList s.vars false W args.toList ds gs before)(hb:Below W.heap.size W W'):
 s.post enc P f false true false false W args (.bool true) W':=by
 have hW':=hW
 obtain⟨p,q,hA,hV,rfl,_,_⟩:=hW
 rw[hvars]at hV
 obtain⟨rfl,rfl⟩:=trodVars_none hV
 have hlt:∀x∈p,x.block<W.heap.size:=fun x hx=>by simpa using hW'.lt x (by simp[hx])
 have hts':∀t∈f.params.toList,P.readableRec t=true∧t<P.types.size:=fun t ht=>by
  have:=List.all_eq_true.1 hts t ht
  simpa using this
 refine⟨ds,[],p++[],[],p,[],hW',?_,?_,?_,hb.frame _,fun h=>by cases h⟩
 ·rw[hs,hres]
  exact trodAll_mk1 (shut_bool hbool true)
 ·rw[hs]
  exact trodAll_below hl hb hts' hA hlt
 ·rw[hs,hvars]
  rfl
theorem open_agg5{H:Type}{enc:TypeId×Value→H}{P:Program}{w:World}{base:Nat}{spare:Nat→Bool}{held:Bool}{r:Reach}{b0:Nat}{t:TypeId}{f0 f1 f2 f3 f4:Field}{v:Value}{d:DataW H}{p:List MemPlace}(hs:P.underlying t=some (.struct #[f0,f1,f2,f3,f4]))(hone:Go.Deep.oneCellFields P #[f0,f1,f2,f3,f4]=true)(hC:P.cellsOf t=5)
 (hv:Value.okWide P w r b0 t v)(h:DataW.Trod enc P w base spare held t v d p):
 ∃(v0 v1 v2 v3 v4:Value) (y0 y1 y2 y3 y4:DataW H×List MemPlace) (n:Nat),v= .agg #[v0,v1,v2,v3,v4]∧d= .agg [y0.1,y1.1,y2.1,y3.1,y4.1]∧p=y0.2++(y1.2++(y2.2++(y3.2++y4.2)))∧
  DataW.trod enc P w base spare held n f0.type [v0]=some y0∧DataW.trod enc P w base spare held n f1.type [v1]=some y1∧DataW.trod enc P w base spare held n f2.type [v2]=some y2∧DataW.trod enc P w base spare held n f3.type [v3]=some y3∧DataW.trod enc P w base spare held n f4.type [v4]=some y4:=by
 obtain⟨cs,rfl,hsz⟩:=okWide_struct hs hv
 obtain⟨l⟩:=cs
 match l,hsz.trans hC with
 |[c0,c1,c2,c3,c4],_=>
  obtain⟨fuel,hf⟩:=h
  obtain⟨xs,n,_,hx,_,hlen,hg⟩:=DataW.trod_struct hs hf
  obtain⟨o0,k0⟩:=Go.Deep.hone_of hone 0 f0 rfl
  obtain⟨o1,k1⟩:=Go.Deep.hone_of hone 1 f1 rfl
  obtain⟨o2,k2⟩:=Go.Deep.hone_of hone 2 f2 rfl
  obtain⟨o3,k3⟩:=Go.Deep.hone_of hone 3 f3 rfl
  obtain⟨o4,k4⟩:=Go.Deep.hone_of hone 4 f4 rfl
  match xs,hlen with
  |[y0,y1,y2,y3,y4],_=>
   simp only[Prod.mk.injEq]at hx
   exact⟨c0,c1,c2,c3,c4,y0,y1,y2,y3,y4,n,rfl,by simpa using hx.1,by simpa using hx.2,by simpa [Value.cells,o0,k0]using hg 0 f0 rfl,by simpa [Value.cells,o1,k1]using hg 1 f1 rfl,by simpa [Value.cells,o2,k2]using hg 2 f2 rfl,by simpa [Value.cells,o3,k3]using hg 3 f3 rfl,by simpa [Value.cells,o4,k4]using hg 4 f4 rfl⟩
end Go.Proofs.YtckoobkjpndgnaaGreatDoor
