/- MetaEnds: for every two lists of asks, all bytes and every number the law answers true. The tied card; no condition but the tied variables. -/
import Derived.Test.YtckoobkjpndgnaaGreatDoorCards
import Derived.Test.YtckoobkjpndgnaaGreatDoorTie
import Derived.Test.YtckoobkjpndgnaaGreatDoorW37
import Derived.Test.YtckoobkjpndgnaaGreatDoorMetLaidE
set_option linter.unusedVariables false
set_option linter.unusedSimpArgs false
set_option linter.unusedSectionVars false
namespace Go.Proofs.YtckoobkjpndgnaaGreatDoor.lawMetaEnds
open Go.ChangeShapes Go.WideShapes Go.ChangeAt Go.RowKit
open Go.ChangeMaps (open_string)
set_option maxRecDepth 100000 in
theorem contract(H:Type)(enc:TypeId×Value→H)(W:World)(base:Nat)(args:Array Value)(ds gs:List (DataW H))(before:List MemPlace)
 (hval0:∀(j:Nat) t v,Tryz.f3.params[j]? =some t→args[j]? =some v→Value.okWide Tryz.prog W .any base t v)
 (hW:DataW.Whole enc Tryz.prog Tryz.f3.params.toList Rows.metaEndsSpec.vars false W args.toList ds gs before)(hM:Mx W):
 Calls Tryz.prog 3 args W fun e W'=>∃v,e= .returned v∧Rows.metaEndsSpec.post enc Tryz.prog Tryz.f3 false true false false W args v W':=by
 have hW':=hW
 obtain⟨p,q,hA0,hV,rfl,_,_⟩:=hW
 obtain⟨rfl,rfl⟩:=trodVars_none hV
 have hA:DataW.TrodAll enc Tryz.prog W 0 (fun _=>true) true [22,23,3,22] args.toList ds p:=hA0
 have hval:∀(j:Nat) t v,([22,23,3,22]:List TypeId)[j]? =some t→args[j]? =some v→Value.okWide Tryz.prog W .any base t v:=fun j t v h1 h2=>hval0 j t v (by rw[Tryz.params3];simpa using h1) h2
 clear hA0 hval0
 obtain⟨v0,vs0,d0,ds0,p0,q0,hargs,rfl,rfl,h0,hr0⟩:=trodAll_cons hA
 obtain⟨v1,vs1,d1,ds1,p1,q1,rfl,rfl,rfl,h1,hr1⟩:=trodAll_cons hr0
 obtain⟨v2,vs2,d2,ds2,p2,q2,rfl,rfl,rfl,h2,hr2⟩:=trodAll_cons hr1
 obtain⟨v3,vs3,d3,ds3,p3,q3,rfl,rfl,rfl,h3,hr3⟩:=trodAll_cons hr2
 obtain⟨rfl,rfl,rfl⟩:=trodAll_nil hr3
 obtain rfl:args=#[v0,v1,v2,v3]:=by
  cases args
  simp_all
 obtain⟨A0,L0,c0,rfl,hl0,hR0⟩:=open_aks (hval 0 _ v0 rfl rfl) h0 (fun x hx=>by simpa using hW'.lt x (by simp[hx]))
 obtain⟨A1,L1,c1,rfl,hl1,hm1,hR1⟩:=open_bytesR (hval 1 _ v1 rfl rfl) h1 (fun x hx=>by simpa using hW'.lt x (by simp[hx]))
 obtain⟨n2,rfl,rfl,rfl,wf2⟩:=open_int Tryz.underlying3 (hval 2 _ v2 rfl rfl) h2
 obtain⟨A3,L3,c3,rfl,hl3,hR3⟩:=open_aks (hval 3 _ v3 rfl rfl) h3 (fun x hx=>by simpa using hW'.lt x (by simp[hx]))
 refine(law_mends A0 L0 c0 A1 L1 c1 n2 A3 L3 c3 W hl0 hR0 ⟨hl1,hm1⟩ hR1 wf2 hl3 hR3 hM).mono fun e W' ⟨he,hb⟩=>⟨_,he,?_⟩
 exact law_post laidOut (by kernel_rfl) (by kernel_rfl) Tryz.underlying4 rfl rfl hW' hb
set_option maxRecDepth 100000 in
theorem reads(os:Os){H:Type}(enc:TypeId×Value→H):DataW.whole enc Tryz.prog ((World.laidAll Tryz.prog os laidHere).forCall (fun _ _=>0) ⟨#[],#[.slice none 0 0,.slice none 0 0,.int .i64 0,.slice none 0 0],[]⟩).memory Tryz.f3.params.toList Rows.metaEndsSpec.vars false (#[.slice none 0 0,.slice none 0 0,.int .i64 0,.slice none 0 0]:Array Value).toList 8=some ([.nil,.nil,.lit (.int .i64 0),.nil],[],[]):=by kernel_rfl
set_option maxRecDepth 100000 in
theorem lifted(os:Os)(started:os.Started)(H:Type)(enc:TypeId×Value→H)(F:Stop.Interp):
 ReturnsInHanded {} Tryz.checked os 3 .any ((OpenSpec.ofChange Rows.metaEndsSpec).preRow enc Tryz.prog Tryz.f3 Rows.metaEndsRow.domain false Rows.metaEndsRow.laid) (((OpenSpec.ofChange Rows.metaEndsSpec).at F).post enc Tryz.prog Tryz.f3 false true false false):=by
 refine returnsInHanded_of_row (C:=Tryz.checked) (s:=OpenSpec.ofChange Rows.metaEndsSpec) own started (by kernel_rfl) Tryz.func3
  (witness_laid (enc:=enc) (C:=Tryz.checked) (World.laidAll Tryz.prog os laidHere) #[.slice none 0 0,.slice none 0 0,.int .i64 0,.slice none 0 0] (World.laidAll_os _ _ _) (shapedHere os _) (by kernel_rfl)
    (OpenSpec.preRow_of_cond 8 (reads os enc) (by kernel_rfl) (fun k hk=>by cases hk) (by kernel_rfl) (metHere os _))) ?_
 intro W base args ds gs before hval hW _ _ _ _ hsh _
 exact contract H enc W base args ds gs before hval hW (mx_of_shaped hsh)
theorem said:Rows.MetaEndsSaid:=
 OpenClaim.holds_of_cond 3 Tryz.f3 rfl rfl rfl rfl rfl rfl rfl ⟨rfl,rfl,rfl,rfl,rfl⟩ rfl rfl rfl rfl rfl (by kernel_rfl) Tryz.func3 (by kernel_rfl)
  (of_decide_eq_true (by kernel_rfl)) (by unfold Func.isWrapper;first|(rw[if_pos (by decide+kernel)];kernel_rfl)|(rw[if_neg (by decide+kernel)];exact⟨rfl,rfl⟩))
  (fun os started H enc _ F=>by rw[OpenClaim.pre_eq_preRow];exact lifted os started H enc F)
theorem plain(f:FuncId)(fn:Func)(hf:Tryz.pinned.checked.prog.funcNamed Rows.metaEndsRow.func=some f)(hfn:Tryz.pinned.checked.prog.funcs[f]? =some fn):
 false=Tryz.pinned.checked.prog.looks []∧∀(j:Nat) t,fn.params[j]? =some t→Tryz.pinned.checked.prog.wantsStandIn t=false:=by
 obtain rfl:f=3:=Option.some.inj ((show Tryz.prog.funcNamed Rows.metaEndsRow.func=some 3 by kernel_rfl).symm.trans hf) |>.symm
 obtain rfl:fn=Tryz.f3:=(Option.some.inj (Tryz.func3.symm.trans hfn)).symm
 refine⟨by kernel_rfl,fun j t ht=> ?_⟩
 rw[Tryz.params3]at ht
 have hm:t∈([22,23,3,22]:List TypeId):=by simpa using Array.mem_of_getElem? ht
 have hall:(([22,23,3,22]:List TypeId).all fun u=> !Tryz.prog.wantsStandIn u)=true:=by kernel_rfl
 exact(show Tryz.prog.wantsStandIn t=false by simpa using List.all_eq_true.1 hall t hm)
theorem card:Rows.MetaEndsCardSaid:=
 Claim7.holds_tied_plain_at .later [] _ _ _ _ said (fun _ h=>by cases h) (by kernel_rfl) (fun _ h=>by cases h) metaEnds_row_tie rfl ⟨rfl,rfl⟩ (by kernel_rfl) rfl plain (by kernel_rfl)
#print axioms card
end Go.Proofs.YtckoobkjpndgnaaGreatDoor.lawMetaEnds
