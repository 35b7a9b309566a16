/- VolumeTakes: for every list of deeds and every client the law answers true. The tied card; no condition but the tied variables. -/
import Derived.Test.YtccpdkjonepoiaaGreatDoorCards
import Derived.Test.YtccpdkjonepoiaaGreatDoorTie
import Derived.Test.YtccpdkjonepoiaaGreatDoorS38
import Derived.Test.YtccpdkjonepoiaaGreatDoorS37
import Derived.Test.YtccpdkjonepoiaaGreatDoorVolLaid2
set_option linter.unusedVariables false
set_option linter.unusedSimpArgs false
set_option linter.unusedSectionVars false
namespace Go.Proofs.YtccpdkjonepoiaaGreatDoor.lawVolumeTakes
open Go.ChangeShapes Go.WideShapes Go.ChangeAt Go.RowKit
open Go.ChangeMaps (open_string)
set_option maxRecDepth 100000 in
theorem contract(H:Type)(enc:TypeId×Value→H)(W:World)(base:Nat)(args:Array Value)(ds gs:List (DataW H))(before:List MemPlace)
 (hval0:∀(j:Nat) t v,Tryz.f7.params[j]? =some t→args[j]? =some v→Value.okWide Tryz.prog W .any base t v)
 (hW:DataW.Whole enc Tryz.prog Tryz.f7.params.toList Rows.volumeTakesSpec.vars false W args.toList ds gs before)(hM:Mx W):
 Calls Tryz.prog 7 args W fun e W'=>∃v,e= .returned v∧Rows.volumeTakesSpec.post enc Tryz.prog Tryz.f7 false true false false W args v W':=by
 have hW':=hW
 obtain⟨p,q,hA0,hV,rfl,_,_⟩:=hW
 obtain⟨rfl,rfl⟩:=trodVars_none hV
 have hA:DataW.TrodAll enc Tryz.prog W 0 (fun _=>true) true [55,3] args.toList ds p:=hA0
 have hval:∀(j:Nat) t v,([55,3]:List TypeId)[j]? =some t→args[j]? =some v→Value.okWide Tryz.prog W .any base t v:=fun j t v h1 h2=>hval0 j t v (by rw[Tryz.params7];simpa using h1) h2
 clear hA0 hval0
 obtain⟨v0,vs0,d0,ds0,p0,q0,hargs,rfl,rfl,h0,hr0⟩:=trodAll_cons hA
 obtain⟨v1,vs1,d1,ds1,p1,q1,rfl,rfl,rfl,h1,hr1⟩:=trodAll_cons hr0
 obtain⟨rfl,rfl,rfl⟩:=trodAll_nil hr1
 obtain rfl:args=#[v0,v1]:=by
  cases args
  simp_all
 obtain⟨A0,L0,c0,rfl,hl0,hA0,hD0⟩:=open_deeds (hval 0 _ v0 rfl rfl) h0 (fun x hx=>by simpa using hW'.lt x (by simp[hx]))
 obtain⟨n1,rfl,rfl,rfl,_⟩:=open_int Tryz.underlying3 (hval 1 _ v1 rfl rfl) h1
 refine(law_vtakes A0 L0 c0 n1 W hl0 hA0 hD0 hM).mono fun e W' ⟨he,hb⟩=>⟨_,he,?_⟩
 exact law_post laidOut (by kernel_rfl) (by kernel_rfl) Tryz.underlying4 rfl rfl hW' hb
set_option maxRecDepth 100000 in
theorem reads(os:Os){H:Type}(enc:TypeId×Value→H):DataW.whole enc Tryz.prog ((World.laidAll Tryz.prog os laidHere).forCall (fun _ _=>0) ⟨#[],#[.slice none 0 0,.int .i64 0],[]⟩).memory Tryz.f7.params.toList Rows.volumeTakesSpec.vars false (#[.slice none 0 0,.int .i64 0]:Array Value).toList 8=some ([.nil,.lit (.int .i64 0)],[],[]):=by kernel_rfl
set_option maxRecDepth 100000 in
theorem lifted(os:Os)(started:os.Started)(H:Type)(enc:TypeId×Value→H)(F:Stop.Interp):
 ReturnsInHanded {} Tryz.checked os 7 .any ((OpenSpec.ofChange Rows.volumeTakesSpec).preRow enc Tryz.prog Tryz.f7 Rows.volumeTakesRow.domain false Rows.volumeTakesRow.laid) (((OpenSpec.ofChange Rows.volumeTakesSpec).at F).post enc Tryz.prog Tryz.f7 false true false false):=by
 refine returnsInHanded_of_row (C:=Tryz.checked) (s:=OpenSpec.ofChange Rows.volumeTakesSpec) own started (by kernel_rfl) Tryz.func7
  (witness_laid (enc:=enc) (C:=Tryz.checked) (World.laidAll Tryz.prog os laidHere) #[.slice none 0 0,.int .i64 0] (World.laidAll_os _ _ _) (shapedHere os _) (by kernel_rfl)
    (OpenSpec.preRow_of_cond 8 (reads os enc) (by kernel_rfl) (fun k hk=>by cases hk) (by kernel_rfl) (metHere os _))) ?_
 intro W base args ds gs before hval hW _ _ _ _ hsh _
 exact contract H enc W base args ds gs before hval hW (mx_of_shaped hsh)
theorem said:Rows.VolumeTakesSaid:=
 OpenClaim.holds_of_cond 7 Tryz.f7 rfl rfl rfl rfl rfl rfl rfl ⟨rfl,rfl,rfl,rfl,rfl⟩ rfl rfl rfl rfl rfl (by kernel_rfl) Tryz.func7 (by kernel_rfl)
  (of_decide_eq_true (by kernel_rfl)) (by unfold Func.isWrapper;first|(rw[if_pos (by decide+kernel)];kernel_rfl)|(rw[if_neg (by decide+kernel)];exact⟨rfl,rfl⟩))
  (fun os started H enc _ F=>by rw[OpenClaim.pre_eq_preRow];exact lifted os started H enc F)
theorem plain(f:FuncId)(fn:Func)(hf:Tryz.pinned.checked.prog.funcNamed Rows.volumeTakesRow.func=some f)(hfn:Tryz.pinned.checked.prog.funcs[f]? =some fn):
 false=Tryz.pinned.checked.prog.looks []∧∀(j:Nat) t,fn.params[j]? =some t→Tryz.pinned.checked.prog.wantsStandIn t=false:=by
 obtain rfl:f=7:=Option.some.inj ((show Tryz.prog.funcNamed Rows.volumeTakesRow.func=some 7 by kernel_rfl).symm.trans hf) |>.symm
 obtain rfl:fn=Tryz.f7:=(Option.some.inj (Tryz.func7.symm.trans hfn)).symm
 refine⟨by kernel_rfl,fun j t ht=> ?_⟩
 rw[Tryz.params7]at ht
 have hm:t∈([55,3]:List TypeId):=by simpa using Array.mem_of_getElem? ht
 have hall:(([55,3]:List TypeId).all fun u=> !Tryz.prog.wantsStandIn u)=true:=by kernel_rfl
 exact(show Tryz.prog.wantsStandIn t=false by simpa using List.all_eq_true.1 hall t hm)
theorem card:Rows.VolumeTakesCardSaid:=
 Claim7.holds_tied_plain_at .later [] _ _ _ _ said (fun _ h=>by cases h) (by kernel_rfl) (fun _ h=>by cases h) volumeTakes_row_tie rfl ⟨rfl,rfl⟩ (by kernel_rfl) rfl plain (by kernel_rfl)
#print axioms card
end Go.Proofs.YtccpdkjonepoiaaGreatDoor.lawVolumeTakes
