/- Does over any bytes: Drop; no call of the layer; no client. -/
import Derived.Test.YtckoobkjpndgnaaGreatDoorW33
set_option linter.unusedVariables false
set_option linter.unusedSimpArgs false
set_option linter.unusedSectionVars false
set_option maxHeartbeats 8000000
set_option maxRecDepth 100000
namespace Go.Proofs.YtckoobkjpndgnaaGreatDoor
open Go.RowKit
open Lib(hid)
open Go.Proofs.Tryz
open Go.Shelf
attribute [local go_sem] Oper.semAt_some
def KeptE[MemNo](x t r p K g:Nat)(w b:World):Prop:=∃D' Z',Le x t r Z' K w b [(p,oPair t x r D')]∧Pz.Good g Z'∧Pz.Few Z'
def DoesE[MemNo](x t r p K g:Nat)(w:World)(e:Ending)(b:World):Prop:=∃bl:Bool,e= .returned (.bool bl)∧KeptE x t r p K g w b
theorem sizeFds:(prog.info? 36).map (·.size)=some 8:=by kernel_rfl
theorem eight_one:(#[.int .i64 0,.int .i64 0,.int .i64 0,.int .i64 0,.int .i64 0,.int .i64 0,.int .i64 0,.int .i64 0]:Array Value).all (·.oneCell')=true:=by
 refine all_oneCell_toArray fun v hv=> ?_;simp only[List.mem_cons,List.mem_nil_iff,or_false,or_self]at hv;subst hv;rfl
theorem doesT_drop[MemNo]{x t r K g p:Nat}{Z:Pz.Fil}{D:Nat→Nat→Nat}{w:World}(k:Nat)(hk:k<8)(kind fl fd off n spare:Int)(s0 s20 data:ByteArray)(w0:World)(h:Le x t r Z K w w0 [(p,oPair t x r D)])(hM:Mx w)(hG:Pz.Good g Z)(hg:g≤900)(hF:Pz.Few Z)(hK:K<500000000000):
 Calls prog 5 #[.pointer (some ⟨p,0,none⟩),akV ⟨(k:Int)+1,kind,s0,s20,fl,fd,off,n,data,spare,true⟩] w0 (DoesE x t r p (K+2000000) (g+3) w):=by
 obtain⟨s,hs⟩:=nm (cutL s0 60);obtain⟨s2,hs2⟩:=nm (cutL s20 60);have hsl:s.size≤100000:=by rw[hs];exact Nat.le_trans (cutL_size _ _) (by omega)
 have hsl2:s2.size≤100000:=by rw[hs2];exact Nat.le_trans (cutL_size _ _) (by omega)
 have HCut:=hid fun W=>pcut_any kind fl fd off n s0 s20 data W;rw[←hs,←hs2]at HCut;unfold callV at HCut;have HP1:=hid (h.alloc #[.int .i64 ((k:Int)+1),.int .i64 kind,.string s0,.string s20,.int .i64 fl,.int .i64 fd,.int .i64 off,.int .i64 n,.string data,.int .i64 spare,.bool true] 30);obtain⟨b3,hb3⟩:=nm w0.heap.size;have hk0:¬((k:Int)+1<1):=by omega
 have hk8:¬(8<(k:Int)+1):=by omega
 have hkk0:(0:Int)≤k:=by omega
 have hkk8:(k:Int)<8:=by omega
 have hwk:IntKind.i64.wrap ((k:Int)+1-1)=(k:Int):=by rw[IntKind.wrap_i64];omega
 have hwk2:IntKind.i64.wrap (k:Int)=(k:Int):=by rw[IntKind.wrap_i64];omega
 have HDx:=hid fun W (h3:Le x t r Z K w W [(b3,.cells #[.int .i64 ((k:Int)+1),.int .i64 kind,.string s,.string s2,.int .i64 fl,.int .i64 fd,.int .i64 off,.int .i64 n,.string data,.int .i64 spare,.bool true] 30 (0,0)),(p,oPair t x r D)])=>(h3.below (Below.refl _ _).drew).xdrop k hk;have HNe:Hid (p≠b3):=hid (by rw[hb3];have:=lt_get (h.get (k:=p) (o:=oPair t x r D) (by simp));omega);have HG:=hid hG;have HFw:=hid hF;have HKk:=hid (And.intro hK hg);have Hk8:=hid hk;have Hsl:=hid (And.intro hsl hsl2);have Hb3:=hid hb3;clear h hM hG hg hF hK hs hs2 hk hsl hsl2;unfold akV akC;try dsimp only
 go_enter func5,ntmps5;go_upto_region 1 with fail
 rw[←hb3]at HP1⊢;clear hb3;have hrow:(w0.alloc (.cells #[.int .i64 ((k:Int)+1),.int .i64 kind,.string s0,.string s20,.int .i64 fl,.int .i64 fd,.int .i64 off,.int .i64 n,.string data,.int .i64 spare,.bool true] 30)).heap[b3]? =some (.cells #[.int .i64 ((k:Int)+1),.int .i64 kind,.string s0,.string s20,.int .i64 fl,.int .i64 fd,.int .i64 off,.int .i64 n,.string data,.int .i64 spare,.bool true] 30 (0,0)):=HP1.o.get (k:=b3) (by simp);have HRw:=hid hrow;obtain⟨r0,r1,r2,r3,r4,r5,r6,r7,r8,r9,r10⟩:=ak_cells hrow;clear hrow
 go_upto_region 2 with(first|(go_at_call 7;refine(HCut.o _).mono ?_;rintro e w2 ⟨rfl,hb2⟩;have HP2:=hid (HP1.o.below hb2);have HR2:=HRw.r hb2;clear hb2)|(refine wpList_store_mid rfl 28 _ _ rfl b3 1 #[.int .i64 kind,.string s,.string s2,.int .i64 fl,.int .i64 fd,.int .i64 off,.int .i64 n,.string data] rfl rfl (there_cells HR2.o (show 9≤11 by decide)) sizeCall14 (call_one _ _ _ _ _ _ _ _) ?_;have hp3:=ak_put HR2.o (.int .i64 kind) (.string s) (.string s2) (.int .i64 fl) (.int .i64 fd) (.int .i64 off) (.int .i64 n) (.string data);have HP3:=hid (HP2.o.turn (k:=b3) (List.mem_cons_self ..) (grown_only (F:=fun q=>q=b3) (setCells_grownM b3 [.int .i64 kind,.string s,.string s2,.int .i64 fl,.int .i64 fd,.int .i64 off,.int .i64 n,.string data] 1 w2) fun q e=>(Option.some.inj e).symm) hp3 [(b3,.cells #[.int .i64 ((k:Int)+1),.int .i64 kind,.string s,.string s2,.int .i64 fl,.int .i64 fd,.int .i64 off,.int .i64 n,.string data,.int .i64 spare,.bool true] 30 (0,0)),(p,oPair t x r D)] (two_turn HNe.o));generalize (World.setCells _ _ _ _)=w3 at hp3 HP3⊢;have HR3:=hid hp3;clear hp3))
 clear r0 r1 r2 r3 r4 r5 r6 r7 r8 r9 r10;have HFa:Hid (∀Z2 D2 W,Le x t r Z2 K w W [(b3,.cells #[.int .i64 ((k:Int)+1),.int .i64 kind,.string s,.string s2,.int .i64 fl,.int .i64 fd,.int .i64 off,.int .i64 n,.string data,.int .i64 spare,.bool true] 30 (0,0)),(p,oPair t x r D2)]→W.cell? ⟨p,2,none⟩=some (.pointer (some ⟨x,0,none⟩))∧W.cell? ⟨p,3,none⟩=some (.pointer (some ⟨r,0,none⟩))∧W.cell? ⟨b3,0,none⟩=some (.int .i64 ((k:Int)+1))):=hid fun Z2 D2 W h4=>by
  obtain⟨r0,r1,r2,r3,r4,r5,r6,r7,r8,r9,r10⟩:=ak_cells (h4.get (List.mem_cons_self ..));have h5:=pair_cells (h4.get (k:=p) (o:=oPair t x r D2) (by simp));exact⟨h5.2.2.1,h5.2.2.2.1,r0⟩
 have c0:w3.cell? ⟨b3,0,none⟩=some (.int .i64 ((k:Int)+1)):=cell_of_row w3 _ 0 _ _ _ HR3.o;have c10:w3.cell? ⟨b3,10,none⟩=some (.bool true):=cell_of_row w3 _ 10 _ _ _ HR3.o;have HXd:=hid (HDx.o w3 HP3.o);go_upto_region 5 with fail
 clear c0 c10;have hs0:=(HFa.o _ _ w3 HP3.o);refine wp_region_held_drew (S:=(fun W=>W.cell? ⟨p,2,none⟩=some (.pointer (some ⟨x,0,none⟩))∧W.cell? ⟨p,3,none⟩=some (.pointer (some ⟨r,0,none⟩))∧W.cell? ⟨b3,0,none⟩=some (.int .i64 ((k:Int)+1)))) (by kernel_rfl) ?_ (fun hHeld=> ?_)
 ·exact hs0
 refine tk 0 ?_;refine tk 1 ?_;refine tk 2 ?_;refine tk 3 ?_;refine tk 4 ?_;refine tk 5 ?_;refine rd 6 (fun K hK=> ?_);go_simp
 refine HXd.o.mono ?_;rintro e w4 ⟨E,rfl,hP4⟩;have HP4:=hid hP4;have hs4:=(HFa.o _ _ w4 hP4);clear hP4;try dsimp only
 refine hK.o _ _ hs4 (fun hHeld=> ?_);clear hK K;try simp only[put]
 refine tk 7 ?_;refine dn ?_
 (try simp only[Exit.then])
 clear hs0 hs4;have HRd:=hid ((HP4.o.below (Below.refl _ _).drew).rdrop ((k:Int)+1) (by have:=HG.o.o;have:=HKk.o.2;show Z.O.length≤1000000;omega));go_upto_region 6 with fail
 have hs0:=(HFa.o _ _ w4 HP4.o);refine wp_region_held_drew (S:=(fun W=>W.cell? ⟨p,2,none⟩=some (.pointer (some ⟨x,0,none⟩))∧W.cell? ⟨p,3,none⟩=some (.pointer (some ⟨r,0,none⟩))∧W.cell? ⟨b3,0,none⟩=some (.int .i64 ((k:Int)+1)))) (by kernel_rfl) ?_ (fun hHeld=> ?_)
 ·exact hs0
 refine tk 0 ?_;refine tk 1 ?_;refine tk 2 ?_;refine tk 3 ?_;refine tk 4 ?_;refine tk 5 ?_;refine rd 6 (fun K hK=> ?_);go_simp
 refine HRd.o.mono ?_;rintro e w5 ⟨rfl,hP5⟩;have HP5:=hid hP5;have hs5:=(HFa.o _ _ w5 hP5);clear hP5;try dsimp only
 refine hK.o _ _ hs5 (fun hHeld=> ?_);clear hK K;try simp only[put]
 refine dn ?_
 (try simp only[Exit.then])
 clear hs0 hs5;have HQ5:=hid (HP5.o.below (Below.refl _ _).drew);go_upto_region 7 with fail
 have hs0:=(HFa.o _ _ w5 HP5.o);refine wp_region_held_drew (S:=(fun W=>W.cell? ⟨p,2,none⟩=some (.pointer (some ⟨x,0,none⟩))∧W.cell? ⟨p,3,none⟩=some (.pointer (some ⟨r,0,none⟩))∧W.cell? ⟨b3,0,none⟩=some (.int .i64 ((k:Int)+1)))) (by kernel_rfl) ?_ (fun hHeld=> ?_)
 ·exact hs0
 refine tk 0 ?_;refine tk 1 ?_;refine tk 2 ?_;refine tk 3 ?_;refine tk 4 ?_;refine tk 5 ?_;refine tk 6 ?_;refine tk 7 ?_;refine rd 8 (fun K hK=> ?_);refine wp_store_mid 36 _ _ rfl p (4+k*8) #[.int .i64 0,.int .i64 0,.int .i64 0,.int .i64 0,.int .i64 0,.int .i64 0,.int .i64 0,.int .i64 0] rfl rfl (there_cells (HQ5.o.get (k:=p) (o:=oPair t x r D) (by simp)) (by have:=Hk8.o;rw[pairC_size];show 4+k*8+8≤68;omega)) sizeFds eight_one ?_
 have hP6:=HQ5.o.turn (k:=p) (o:=oPair t x r D) (by simp) (grown_only (F:=fun q=>q=p) (setCells_grownM p [.int .i64 0,.int .i64 0,.int .i64 0,.int .i64 0,.int .i64 0,.int .i64 0,.int .i64 0,.int .i64 0] (4+k*8) w5.drew) fun q e=>(Option.some.inj e).symm) (fd_zeros Hk8.o (HQ5.o.get (k:=p) (o:=oPair t x r D) (by simp))) [(b3,.cells #[.int .i64 ((k:Int)+1),.int .i64 kind,.string s,.string s2,.int .i64 fl,.int .i64 fd,.int .i64 off,.int .i64 n,.string data,.int .i64 spare,.bool true] 30 (0,0)),(p,oPair t x r (Gd.dropE D k))] (fun q hq=>(List.mem_cons.1 hq).elim (fun e=>Or.inr ⟨by simp[e],by rw[e];exact HNe.o.symm⟩) fun e=>Or.inl (List.mem_singleton.1 e));generalize (World.setCells _ _ _ _)=w6 at hP6⊢;have HP6:=hid hP6;have hs6:=(HFa.o _ _ w6 hP6);clear hP6;try dsimp only
 refine hK.o _ _ hs6 (fun hHeld=> ?_);clear hK K;try simp only[put]
 refine dn ?_
 (try simp only[Exit.then])
 have p1:=(pair_cells (HP6.o.get (k:=p) (o:=oPair t x r (Gd.dropE D k)) (by simp))).2.1;have HCm:=hid (HP6.o.tcommit (by have:=HKk.o.1;omega));clear hs0 hs6;by_cases hE:E=0
 ·subst hE;go_wp2_with(go_at_call 17;refine HCm.o.mono ?_;rintro e w7 ⟨E2,rfl,hP7⟩)
  go_ret
  exact⟨_,rfl,Gd.dropE D k,_,(hP7.less fun q hq=>by rw[List.mem_singleton.1 hq];simp).more (by omega),(Pz.drop_good HG.o HFw.o _).1.mono (by omega),(Pz.drop_good HG.o HFw.o _).2⟩
 ·have hE3:(E==0)=false:=by rw[beq_eq_false_iff_ne];exact hE
  clear hE;go_wp2_with fail
  go_ret
  exact⟨_,rfl,Gd.dropE D k,_,(HP6.o.less fun q hq=>by rw[List.mem_singleton.1 hq];simp).more (by omega),(Pz.drop_good HG.o HFw.o _).1.mono (by omega),(Pz.drop_good HG.o HFw.o _).2⟩
theorem doesT_none[MemNo]{x t r K g p:Nat}{Z:Pz.Fil}{D:Nat→Nat→Nat}{w:World}(k:Nat)(hk:k<8)(kind fl fd off n spare:Int)(s0 s20 data:ByteArray)(w0:World)(h:Le x t r Z K w w0 [(p,oPair t x r D)])(hM:Mx w)(hG:Pz.Good g Z)(hg:g≤900)(hF:Pz.Few Z)(hK:K<500000000000)(hl:¬layerE kind):
 Calls prog 5 #[.pointer (some ⟨p,0,none⟩),akV ⟨(k:Int)+1,kind,s0,s20,fl,fd,off,n,data,spare,false⟩] w0 (DoesE x t r p (K+2000000) (g+3) w):=by
 obtain⟨s,hs⟩:=nm (cutL s0 60);obtain⟨s2,hs2⟩:=nm (cutL s20 60);have hsl:s.size≤100000:=by rw[hs];exact Nat.le_trans (cutL_size _ _) (by omega)
 have hsl2:s2.size≤100000:=by rw[hs2];exact Nat.le_trans (cutL_size _ _) (by omega)
 have HCut:=hid fun W=>pcut_any kind fl fd off n s0 s20 data W;rw[←hs,←hs2]at HCut;unfold callV at HCut;have HP1:=hid (h.alloc #[.int .i64 ((k:Int)+1),.int .i64 kind,.string s0,.string s20,.int .i64 fl,.int .i64 fd,.int .i64 off,.int .i64 n,.string data,.int .i64 spare,.bool false] 30);obtain⟨b3,hb3⟩:=nm w0.heap.size;have hk0:¬((k:Int)+1<1):=by omega
 have hk8:¬(8<(k:Int)+1):=by omega
 have hkk0:(0:Int)≤k:=by omega
 have hkk8:(k:Int)<8:=by omega
 have hwk:IntKind.i64.wrap ((k:Int)+1-1)=(k:Int):=by rw[IntKind.wrap_i64];omega
 have hwk2:IntKind.i64.wrap (k:Int)=(k:Int):=by rw[IntKind.wrap_i64];omega
 have HAn:Hid (∀W,_):=hid fun W=>asked_none (p:=p) ((k:Int)+1) kind fl fd off n spare s s2 data false W (fun e=>hl (by unfold layerE;omega)) (fun e=>hl (by unfold layerE;omega)) (fun e=>hl (by unfold layerE;omega)) (fun e=>hl (by unfold layerE;omega)) (fun e=>hl (by unfold layerE;omega)) (fun e=>hl (by unfold layerE;omega)) (fun e=>hl (by unfold layerE;omega)) (fun e=>hl (by unfold layerE;omega)) (fun e=>hl (by unfold layerE;omega));unfold akV akC repV at HAn;try dsimp only at HAn
 have HNe:Hid (p≠b3):=hid (by rw[hb3];have:=lt_get (h.get (k:=p) (o:=oPair t x r D) (by simp));omega);clear hl;have HG:=hid hG;have HFw:=hid hF;have HKk:=hid (And.intro hK hg);have Hk8:=hid hk;have Hsl:=hid (And.intro hsl hsl2);have Hb3:=hid hb3;clear h hM hG hg hF hK hs hs2 hk hsl hsl2;unfold akV akC;try dsimp only
 go_enter func5,ntmps5;go_upto_region 1 with fail
 rw[←hb3]at HP1⊢;clear hb3;have hrow:(w0.alloc (.cells #[.int .i64 ((k:Int)+1),.int .i64 kind,.string s0,.string s20,.int .i64 fl,.int .i64 fd,.int .i64 off,.int .i64 n,.string data,.int .i64 spare,.bool false] 30)).heap[b3]? =some (.cells #[.int .i64 ((k:Int)+1),.int .i64 kind,.string s0,.string s20,.int .i64 fl,.int .i64 fd,.int .i64 off,.int .i64 n,.string data,.int .i64 spare,.bool false] 30 (0,0)):=HP1.o.get (k:=b3) (by simp);have HRw:=hid hrow;obtain⟨r0,r1,r2,r3,r4,r5,r6,r7,r8,r9,r10⟩:=ak_cells hrow;clear hrow
 go_upto_region 2 with(first|(go_at_call 7;refine(HCut.o _).mono ?_;rintro e w2 ⟨rfl,hb2⟩;have HP2:=hid (HP1.o.below hb2);have HR2:=HRw.r hb2;clear hb2)|(refine wpList_store_mid rfl 28 _ _ rfl b3 1 #[.int .i64 kind,.string s,.string s2,.int .i64 fl,.int .i64 fd,.int .i64 off,.int .i64 n,.string data] rfl rfl (there_cells HR2.o (show 9≤11 by decide)) sizeCall14 (call_one _ _ _ _ _ _ _ _) ?_;have hp3:=ak_put HR2.o (.int .i64 kind) (.string s) (.string s2) (.int .i64 fl) (.int .i64 fd) (.int .i64 off) (.int .i64 n) (.string data);have HP3:=hid (HP2.o.turn (k:=b3) (List.mem_cons_self ..) (grown_only (F:=fun q=>q=b3) (setCells_grownM b3 [.int .i64 kind,.string s,.string s2,.int .i64 fl,.int .i64 fd,.int .i64 off,.int .i64 n,.string data] 1 w2) fun q e=>(Option.some.inj e).symm) hp3 [(b3,.cells #[.int .i64 ((k:Int)+1),.int .i64 kind,.string s,.string s2,.int .i64 fl,.int .i64 fd,.int .i64 off,.int .i64 n,.string data,.int .i64 spare,.bool false] 30 (0,0)),(p,oPair t x r D)] (two_turn HNe.o));generalize (World.setCells _ _ _ _)=w3 at hp3 HP3⊢;have HR3:=hid hp3;clear hp3))
 clear r0 r1 r2 r3 r4 r5 r6 r7 r8 r9 r10;have c0:w3.cell? ⟨b3,0,none⟩=some (.int .i64 ((k:Int)+1)):=cell_of_row w3 _ 0 _ _ _ HR3.o;have c10:w3.cell? ⟨b3,10,none⟩=some (.bool false):=cell_of_row w3 _ 10 _ _ _ HR3.o;go_wp2_with(first|(refine wpList_load_row rfl 30 _ rfl b3 rfl 30 #[.int .i64 ((k:Int)+1),.int .i64 kind,.string s,.string s2,.int .i64 fl,.int .i64 fd,.int .i64 off,.int .i64 n,.string data,.int .i64 spare,.bool false] (0,0) _ HR3.o underlying30 rfl infoAsk ?_)|(go_at_call 9;go_loud (refine(HAn.o _).mono ?_);rintro e w4 ⟨rfl,hb4⟩;have HP4:=hid (HP3.o.below hb4);clear hb4))
 go_ret
 exact⟨_,rfl,D,Z,((HP4.o.alloc _ _).less fun q hq=>by rw[List.mem_singleton.1 hq];simp).more (by omega),HG.o.mono (by omega),HFw.o⟩
theorem doesT_out[MemNo]{x t r K g p:Nat}{Z:Pz.Fil}{D:Nat→Nat→Nat}{w:World}(cl:Int)(hc:cl<1∨8<cl)(kind fl fd off n spare:Int)(s0 s20 data:ByteArray)(dr:Bool)(w0:World)(h:Le x t r Z K w w0 [(p,oPair t x r D)])(hM:Mx w)(hG:Pz.Good g Z)(hg:g≤900)(hF:Pz.Few Z)(hK:K<500000000000):
 Calls prog 5 #[.pointer (some ⟨p,0,none⟩),akV ⟨cl,kind,s0,s20,fl,fd,off,n,data,spare,dr⟩] w0 (DoesE x t r p (K+2000000) (g+3) w):=by
 obtain⟨s,hs⟩:=nm (cutL s0 60);obtain⟨s2,hs2⟩:=nm (cutL s20 60);have hsl:s.size≤100000:=by rw[hs];exact Nat.le_trans (cutL_size _ _) (by omega)
 have hsl2:s2.size≤100000:=by rw[hs2];exact Nat.le_trans (cutL_size _ _) (by omega)
 have HCut:=hid fun W=>pcut_any kind fl fd off n s0 s20 data W;rw[←hs,←hs2]at HCut;unfold callV at HCut;have HP1:=hid (h.alloc #[.int .i64 cl,.int .i64 kind,.string s0,.string s20,.int .i64 fl,.int .i64 fd,.int .i64 off,.int .i64 n,.string data,.int .i64 spare,.bool dr] 30);obtain⟨b3,hb3⟩:=nm w0.heap.size;have HNe:Hid (p≠b3):=hid (by rw[hb3];have:=lt_get (h.get (k:=p) (o:=oPair t x r D) (by simp));omega);have HG:=hid hG;have HFw:=hid hF;have HKk:=hid (And.intro hK hg);have Hc:=hid hc;have Hsl:=hid (And.intro hsl hsl2);have Hb3:=hid hb3;clear h hM hG hg hF hK hs hs2 hc hsl hsl2;unfold akV akC;try dsimp only
 go_enter func5,ntmps5;go_upto_region 1 with fail
 rw[←hb3]at HP1⊢;clear hb3;have hrow:(w0.alloc (.cells #[.int .i64 cl,.int .i64 kind,.string s0,.string s20,.int .i64 fl,.int .i64 fd,.int .i64 off,.int .i64 n,.string data,.int .i64 spare,.bool dr] 30)).heap[b3]? =some (.cells #[.int .i64 cl,.int .i64 kind,.string s0,.string s20,.int .i64 fl,.int .i64 fd,.int .i64 off,.int .i64 n,.string data,.int .i64 spare,.bool dr] 30 (0,0)):=HP1.o.get (k:=b3) (by simp);have HRw:=hid hrow;obtain⟨r0,r1,r2,r3,r4,r5,r6,r7,r8,r9,r10⟩:=ak_cells hrow;clear hrow
 go_upto_region 2 with(first|(go_at_call 7;refine(HCut.o _).mono ?_;rintro e w2 ⟨rfl,hb2⟩;have HP2:=hid (HP1.o.below hb2);have HR2:=HRw.r hb2;clear hb2)|(refine wpList_store_mid rfl 28 _ _ rfl b3 1 #[.int .i64 kind,.string s,.string s2,.int .i64 fl,.int .i64 fd,.int .i64 off,.int .i64 n,.string data] rfl rfl (there_cells HR2.o (show 9≤11 by decide)) sizeCall14 (call_one _ _ _ _ _ _ _ _) ?_;have hp3:=ak_put HR2.o (.int .i64 kind) (.string s) (.string s2) (.int .i64 fl) (.int .i64 fd) (.int .i64 off) (.int .i64 n) (.string data);have HP3:=hid (HP2.o.turn (k:=b3) (List.mem_cons_self ..) (grown_only (F:=fun q=>q=b3) (setCells_grownM b3 [.int .i64 kind,.string s,.string s2,.int .i64 fl,.int .i64 fd,.int .i64 off,.int .i64 n,.string data] 1 w2) fun q e=>(Option.some.inj e).symm) hp3 [(b3,.cells #[.int .i64 cl,.int .i64 kind,.string s,.string s2,.int .i64 fl,.int .i64 fd,.int .i64 off,.int .i64 n,.string data,.int .i64 spare,.bool dr] 30 (0,0)),(p,oPair t x r D)] (two_turn HNe.o));generalize (World.setCells _ _ _ _)=w3 at hp3 HP3⊢;have HR3:=hid hp3;clear hp3))
 clear r0 r1 r2 r3 r4 r5 r6 r7 r8 r9 r10;have c0:w3.cell? ⟨b3,0,none⟩=some (.int .i64 cl):=cell_of_row w3 _ 0 _ _ _ HR3.o;by_cases hlo:cl<1
 ·go_wp2_with fail
  go_ret
  exact⟨_,rfl,D,Z,(HP3.o.less fun q hq=>by rw[List.mem_singleton.1 hq];simp).more (by omega),HG.o.mono (by omega),HFw.o⟩
 ·have hhi:8<cl:=by have:=Hc.o;omega
  go_wp2_with fail
  go_ret
  exact⟨_,rfl,D,Z,(HP3.o.less fun q hq=>by rw[List.mem_singleton.1 hq];simp).more (by omega),HG.o.mono (by omega),HFw.o⟩
end Go.Proofs.YtckoobkjpndgnaaGreatDoor
