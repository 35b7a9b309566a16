/- Walks: commonslaw14: does, at descriptors that are given back. -/
import Derived.Test.YtjlpkbhgphjpeaaGreatDoorV32
set_option linter.unusedVariables false
set_option linter.unusedSimpArgs false
set_option linter.unusedSectionVars false
set_option maxHeartbeats 8000000
set_option maxRecDepth 100000
namespace Go.Proofs.YtjlpkbhgphjpeaaGreatDoor
open Go.RowKit
open Lib(hid)
open Go.Proofs.Tryz
section
open Go.Shelf
attribute [local go_sem] Oper.semAt_some
theorem sizeFds:(prog.info? 40).map (·.size)=some 8:=by kernel_rfl
theorem X7:(#[.int .i64 0,.int .i64 0,.int .i64 0,.int .i64 0,.int .i64 0,.int .i64 0,.int .i64 0,.int .i64 0]:Array Value).all (·.oneCell')=true:=by
 refine all_oneCell_toArray fun v hv=> ?_;simp only[List.mem_cons,List.mem_nil_iff,or_false,or_self]at hv;subst hv;rfl
theorem JS[zg]{x t r K g p:Nat}{S:List UInt8}{M:Gd.Vol}{T:Nat→Gd.Tab}{Z:Pz.Fil}{φ:Nat→Nat}{D:Nat→Nat→Nat}{w:World}(k:Nat)(hk:k<8)(kind fl fd off n spare:Int)(s0 s20 data:ByteArray)(w0:World)(h:PSt x t r S M Z 0 K w w0 [(p,zL t x r D)])(hM:Mx w)(hSim:Gd.Sim M T D Z φ)(hG:Pz.Good g Z)(hg:g≤900)(hF:Pz.Few Z)(hK:K<500000000000):
 Calls prog 10 #[.pointer (some ⟨p,0,none⟩),akV ⟨(k:Int)+1,kind,s0,s20,fl,fd,off,n,data,spare,true⟩] w0 fun e b=>e= .returned (.bool true)∧yy x t r p (K+2000000) (g+3) w b:=by
 obtain⟨s,hs⟩:=nm (yN s0 60);obtain⟨s2,hs2⟩:=nm (yN s20 60);have hsl:s.size≤100000:=by rw[hs];exact Nat.le_trans (jX _ _) (by omega)
 have hsl2:s2.size≤100000:=by rw[hs2];exact Nat.le_trans (jX _ _) (by omega)
 have HCut:=hid fun W=>yg kind fl fd off n s0 s20 data W;rw[←hs,←hs2]at HCut;unfold zN at HCut;have HP1:=hid (h.alloc #[.int .i64 ((k:Int)+1),.int .i64 kind,.string s0,.string s20,.int .i64 fl,.int .i64 fd,.int .i64 off,.int .i64 n,.string data,.int .i64 spare,.bool true] 29);obtain⟨b3,hb3⟩:=nm w0.heap.size;have hk0:¬((k:Int)+1<1):=by omega
 have hk8:¬(8<(k:Int)+1):=by omega
 have hkk0:(0:Int)≤k:=by omega
 have hkk8:(k:Int)<8:=by omega
 have hwk:IntKind.i64.wrap ((k:Int)+1-1)=(k:Int):=by rw[IntKind.wrap_i64];omega
 have hwk2:IntKind.i64.wrap (k:Int)=(k:Int):=by rw[IntKind.wrap_i64];omega
 have HDx:=hid fun W (h3:PSt x t r S M Z 0 K w W [(b3,.cells #[.int .i64 ((k:Int)+1),.int .i64 kind,.string s,.string s2,.int .i64 fl,.int .i64 fd,.int .i64 off,.int .i64 n,.string data,.int .i64 spare,.bool true] 29 (0,0)),(p,zL t x r D)])=>(h3.below (Below.refl _ _).drew).xdrop k hk hSim;have HNe:Hid (p≠b3):=hid (by rw[hb3];have:=za (h.get (k:=p) (o:=zL t x r D) (by simp));omega);have HSim:=hid hSim;have HG:=hid hG;have HFw:=hid hF;have HKk:=hid (And.intro hK hg);have Hk8:=hid hk;have HGd:=hid h.good;have Hsl:=hid (And.intro hsl hsl2);have Hb3:=hid hb3;clear h hM hSim hG hg hF hK hs hs2 hk hsl hsl2;unfold akV akC;try dsimp only
 go_enter func10,ntmps10;go_upto_region 1 with fail
 rw[←hb3]at HP1⊢;clear hb3;have hrow:(w0.alloc (.cells #[.int .i64 ((k:Int)+1),.int .i64 kind,.string s0,.string s20,.int .i64 fl,.int .i64 fd,.int .i64 off,.int .i64 n,.string data,.int .i64 spare,.bool true] 29)).heap[b3]? =some (.cells #[.int .i64 ((k:Int)+1),.int .i64 kind,.string s0,.string s20,.int .i64 fl,.int .i64 fd,.int .i64 off,.int .i64 n,.string data,.int .i64 spare,.bool true] 29 (0,0)):=HP1.o.get (k:=b3) (by simp);have HRw:=hid hrow;obtain⟨r0,r1,r2,r3,r4,r5,r6,r7,r8,r9,r10⟩:=qS hrow;clear hrow
 go_upto_region 2 with(first|(go_at_call 13;refine(HCut.o _).mono ?_;rintro e w2 ⟨rfl,hb2⟩;have HP2:=hid (HP1.o.below hb2);have HR2:=HRw.r hb2;clear hb2)|(refine wpList_store_mid rfl 27 _ _ rfl b3 1 #[.int .i64 kind,.string s,.string s2,.int .i64 fl,.int .i64 fd,.int .i64 off,.int .i64 n,.string data] rfl rfl (jC HR2.o (show 9≤11 by decide)) sizeCall14 (yu _ _ _ _ _ _ _ _) ?_;have hp3:=Zt HR2.o (.int .i64 kind) (.string s) (.string s2) (.int .i64 fl) (.int .i64 fd) (.int .i64 off) (.int .i64 n) (.string data);have HP3:=hid (HP2.o.turn (k:=b3) (List.mem_cons_self ..) (zw (F:=fun q=>q=b3) (zo b3 [.int .i64 kind,.string s,.string s2,.int .i64 fl,.int .i64 fd,.int .i64 off,.int .i64 n,.string data] 1 w2) fun q e=>(Option.some.inj e).symm) hp3 [(b3,.cells #[.int .i64 ((k:Int)+1),.int .i64 kind,.string s,.string s2,.int .i64 fl,.int .i64 fd,.int .i64 off,.int .i64 n,.string data,.int .i64 spare,.bool true] 29 (0,0)),(p,zL t x r D)] (ya HNe.o));generalize (World.setCells _ _ _ _)=w3 at hp3 HP3⊢;have HR3:=hid hp3;clear hp3))
 clear r0 r1 r2 r3 r4 r5 r6 r7 r8 r9 r10;have HFa:Hid (∀N Z2 cc D2 W,PSt x t r S N Z2 cc K w W [(b3,.cells #[.int .i64 ((k:Int)+1),.int .i64 kind,.string s,.string s2,.int .i64 fl,.int .i64 fd,.int .i64 off,.int .i64 n,.string data,.int .i64 spare,.bool true] 29 (0,0)),(p,zL t x r D2)]→W.cell? ⟨p,2,none⟩=some (.pointer (some ⟨x,0,none⟩))∧W.cell? ⟨p,3,none⟩=some (.pointer (some ⟨r,0,none⟩))∧W.cell? ⟨b3,0,none⟩=some (.int .i64 ((k:Int)+1))):=hid fun N Z2 cc D2 W h4=>by
  obtain⟨r0,r1,r2,r3,r4,r5,r6,r7,r8,r9,r10⟩:=qS (h4.get (List.mem_cons_self ..));have h5:=zE (h4.get (k:=p) (o:=zL t x r D2) (by simp));exact⟨h5.2.2.1,h5.2.2.2.1,r0⟩
 have c0:w3.cell? ⟨b3,0,none⟩=some (.int .i64 ((k:Int)+1)):=cell_of_row w3 _ 0 _ _ _ HR3.o;have c10:w3.cell? ⟨b3,10,none⟩=some (.bool true):=cell_of_row w3 _ 10 _ _ _ HR3.o;have HXd:=hid (HDx.o w3 HP3.o);go_upto_region 5 with fail
 clear c0 c10;have hs0:=(HFa.o _ _ _ _ w3 HP3.o);refine wp_region_held_drew (S:=(fun W=>W.cell? ⟨p,2,none⟩=some (.pointer (some ⟨x,0,none⟩))∧W.cell? ⟨p,3,none⟩=some (.pointer (some ⟨r,0,none⟩))∧W.cell? ⟨b3,0,none⟩=some (.int .i64 ((k:Int)+1)))) (by kernel_rfl) ?_ (fun hHeld=> ?_)
 ·exact hs0
 refine tk 0 ?_;refine tk 1 ?_;refine tk 2 ?_;refine tk 3 ?_;refine tk 4 ?_;refine tk 5 ?_;refine rd 6 (fun K hK=> ?_);go_simp
 refine HXd.o.mono ?_;rintro e w4 ⟨rfl,N,hP4,hS4⟩;have HP4:=hid hP4;have HS4:=hid hS4;have hs4:=(HFa.o _ _ _ _ w4 hP4);clear hP4 hS4;try dsimp only
 refine hK.o _ _ hs4 (fun hHeld=> ?_);clear hK K;try simp only[put]
 refine tk 7 ?_;refine dn ?_
 (try simp only[Exit.then])
 clear hs0 hs4;have HRd:=hid ((HP4.o.below (Below.refl _ _).drew).rdrop ((k:Int)+1) (by have:=HG.o.o;have:=HKk.o.2;show Z.O.length≤1000000;omega));go_upto_region 6 with fail
 have hs0:=(HFa.o _ _ _ _ w4 HP4.o);refine wp_region_held_drew (S:=(fun W=>W.cell? ⟨p,2,none⟩=some (.pointer (some ⟨x,0,none⟩))∧W.cell? ⟨p,3,none⟩=some (.pointer (some ⟨r,0,none⟩))∧W.cell? ⟨b3,0,none⟩=some (.int .i64 ((k:Int)+1)))) (by kernel_rfl) ?_ (fun hHeld=> ?_)
 ·exact hs0
 refine tk 0 ?_;refine tk 1 ?_;refine tk 2 ?_;refine tk 3 ?_;refine tk 4 ?_;refine tk 5 ?_;refine rd 6 (fun K hK=> ?_);go_simp
 refine HRd.o.mono ?_;rintro e w5 ⟨rfl,hP5⟩;have HP5:=hid hP5;have hs5:=(HFa.o _ _ _ _ w5 hP5);clear hP5;try dsimp only
 refine hK.o _ _ hs5 (fun hHeld=> ?_);clear hK K;try simp only[put]
 refine dn ?_
 (try simp only[Exit.then])
 clear hs0 hs5;have HQ5:=hid (HP5.o.below (Below.refl _ _).drew);go_upto_region 7 with fail
 have hs0:=(HFa.o _ _ _ _ w5 HP5.o);refine wp_region_held_drew (S:=(fun W=>W.cell? ⟨p,2,none⟩=some (.pointer (some ⟨x,0,none⟩))∧W.cell? ⟨p,3,none⟩=some (.pointer (some ⟨r,0,none⟩))∧W.cell? ⟨b3,0,none⟩=some (.int .i64 ((k:Int)+1)))) (by kernel_rfl) ?_ (fun hHeld=> ?_)
 ·exact hs0
 refine tk 0 ?_;refine tk 1 ?_;refine tk 2 ?_;refine tk 3 ?_;refine tk 4 ?_;refine tk 5 ?_;refine tk 6 ?_;refine tk 7 ?_;refine rd 8 (fun K hK=> ?_);refine wp_store_mid 40 _ _ rfl p (4+k*8) #[.int .i64 0,.int .i64 0,.int .i64 0,.int .i64 0,.int .i64 0,.int .i64 0,.int .i64 0,.int .i64 0] rfl rfl (jC (HQ5.o.get (k:=p) (o:=zL t x r D) (by simp)) (by have:=Hk8.o;rw[vD];show 4+k*8+8≤68;omega)) sizeFds X7 ?_
 have hP6:=HQ5.o.turn (k:=p) (o:=zL t x r D) (by simp) (zw (F:=fun q=>q=p) (zo p [.int .i64 0,.int .i64 0,.int .i64 0,.int .i64 0,.int .i64 0,.int .i64 0,.int .i64 0,.int .i64 0] (4+k*8) w5.drew) fun q e=>(Option.some.inj e).symm) (Vl Hk8.o (HQ5.o.get (k:=p) (o:=zL t x r D) (by simp))) [(b3,.cells #[.int .i64 ((k:Int)+1),.int .i64 kind,.string s,.string s2,.int .i64 fl,.int .i64 fd,.int .i64 off,.int .i64 n,.string data,.int .i64 spare,.bool true] 29 (0,0)),(p,zL t x r (Gd.dropD D k))] (fun q hq=>(List.mem_cons.1 hq).elim (fun e=>Or.inr ⟨by simp[e],by rw[e];exact HNe.o.symm⟩) fun e=>Or.inl (List.mem_singleton.1 e));generalize (World.setCells _ _ _ _)=w6 at hP6⊢;have HP6:=hid hP6;have hs6:=(HFa.o _ _ _ _ w6 hP6);clear hP6;try dsimp only
 refine hK.o _ _ hs6 (fun hHeld=> ?_);clear hK K;try simp only[put]
 refine dn ?_
 (try simp only[Exit.then])
 have p1:=(zE (HP6.o.get (k:=p) (o:=zL t x r (Gd.dropD D k)) (by simp))).2.1;have HCm:=hid (HP6.o.tcommit (by omega) (by have:=HKk.o.1;omega));clear hs0 hs6;go_wp2_with(go_at_call 21;go_loud (refine HCm.o.mono ?_);rintro e w7 ⟨rfl,S2,hP7⟩)
 go_ret
 exact⟨rfl,S2,N,T,Gd.dropD D k,_,φ,(hP7.less fun q hq=>by rw[List.mem_singleton.1 hq];simp).more (Nat.le_refl _) (by omega),HS4.o,(Pz.drop_good HG.o HFw.o _).1.mono (by omega),(Pz.drop_good HG.o HFw.o _).2⟩
end
section
open Go.Shelf
attribute [local go_sem] Oper.semAt_some
theorem JR[zg]{x t r K g p:Nat}{S:List UInt8}{M:Gd.Vol}{T:Nat→Gd.Tab}{Z:Pz.Fil}{φ:Nat→Nat}{D:Nat→Nat→Nat}{w:World}(k:Nat)(hk:k<8)(kind fl fd off n spare:Int)(s0 s20 data:ByteArray)(w0:World)(h:PSt x t r S M Z 0 K w w0 [(p,zL t x r D)])(hM:Mx w)(hSim:Gd.Sim M T D Z φ)(hG:Pz.Good g Z)(hg:g≤900)(hF:Pz.Few Z)(hK:K<500000000000)(hl:¬j6 kind):
 Calls prog 10 #[.pointer (some ⟨p,0,none⟩),akV ⟨(k:Int)+1,kind,s0,s20,fl,fd,off,n,data,spare,false⟩] w0 fun e b=>e= .returned (.bool true)∧yy x t r p (K+2000000) (g+3) w b:=by
 obtain⟨s,hs⟩:=nm (yN s0 60);obtain⟨s2,hs2⟩:=nm (yN s20 60);have hsl:s.size≤100000:=by rw[hs];exact Nat.le_trans (jX _ _) (by omega)
 have hsl2:s2.size≤100000:=by rw[hs2];exact Nat.le_trans (jX _ _) (by omega)
 have HCut:=hid fun W=>yg kind fl fd off n s0 s20 data W;rw[←hs,←hs2]at HCut;unfold zN at HCut;have HP1:=hid (h.alloc #[.int .i64 ((k:Int)+1),.int .i64 kind,.string s0,.string s20,.int .i64 fl,.int .i64 fd,.int .i64 off,.int .i64 n,.string data,.int .i64 spare,.bool false] 29);obtain⟨b3,hb3⟩:=nm w0.heap.size;have hk0:¬((k:Int)+1<1):=by omega
 have hk8:¬(8<(k:Int)+1):=by omega
 have hkk0:(0:Int)≤k:=by omega
 have hkk8:(k:Int)<8:=by omega
 have hwk:IntKind.i64.wrap ((k:Int)+1-1)=(k:Int):=by rw[IntKind.wrap_i64];omega
 have hwk2:IntKind.i64.wrap (k:Int)=(k:Int):=by rw[IntKind.wrap_i64];omega
 have HAn:Hid (∀W,_):=hid fun W=>Qr (p:=p) ((k:Int)+1) kind fl fd off n spare s s2 data false W (fun e=>hl (by unfold j6;omega)) (fun e=>hl (by unfold j6;omega)) (fun e=>hl (by unfold j6;omega)) (fun e=>hl (by unfold j6;omega)) (fun e=>hl (by unfold j6;omega)) (fun e=>hl (by unfold j6;omega)) (fun e=>hl (by unfold j6;omega)) (fun e=>hl (by unfold j6;omega)) (fun e=>hl (by unfold j6;omega));unfold akV akC xf at HAn;try dsimp only at HAn
 have HNe:Hid (p≠b3):=hid (by rw[hb3];have:=za (h.get (k:=p) (o:=zL t x r D) (by simp));omega);clear hl;have HSim:=hid hSim;have HG:=hid hG;have HFw:=hid hF;have HKk:=hid (And.intro hK hg);have Hk8:=hid hk;have HGd:=hid h.good;have Hsl:=hid (And.intro hsl hsl2);have Hb3:=hid hb3;clear h hM hSim hG hg hF hK hs hs2 hk hsl hsl2;unfold akV akC;try dsimp only
 go_enter func10,ntmps10;go_upto_region 1 with fail
 rw[←hb3]at HP1⊢;clear hb3;have hrow:(w0.alloc (.cells #[.int .i64 ((k:Int)+1),.int .i64 kind,.string s0,.string s20,.int .i64 fl,.int .i64 fd,.int .i64 off,.int .i64 n,.string data,.int .i64 spare,.bool false] 29)).heap[b3]? =some (.cells #[.int .i64 ((k:Int)+1),.int .i64 kind,.string s0,.string s20,.int .i64 fl,.int .i64 fd,.int .i64 off,.int .i64 n,.string data,.int .i64 spare,.bool false] 29 (0,0)):=HP1.o.get (k:=b3) (by simp);have HRw:=hid hrow;obtain⟨r0,r1,r2,r3,r4,r5,r6,r7,r8,r9,r10⟩:=qS hrow;clear hrow
 go_upto_region 2 with(first|(go_at_call 13;refine(HCut.o _).mono ?_;rintro e w2 ⟨rfl,hb2⟩;have HP2:=hid (HP1.o.below hb2);have HR2:=HRw.r hb2;clear hb2)|(refine wpList_store_mid rfl 27 _ _ rfl b3 1 #[.int .i64 kind,.string s,.string s2,.int .i64 fl,.int .i64 fd,.int .i64 off,.int .i64 n,.string data] rfl rfl (jC HR2.o (show 9≤11 by decide)) sizeCall14 (yu _ _ _ _ _ _ _ _) ?_;have hp3:=Zt HR2.o (.int .i64 kind) (.string s) (.string s2) (.int .i64 fl) (.int .i64 fd) (.int .i64 off) (.int .i64 n) (.string data);have HP3:=hid (HP2.o.turn (k:=b3) (List.mem_cons_self ..) (zw (F:=fun q=>q=b3) (zo b3 [.int .i64 kind,.string s,.string s2,.int .i64 fl,.int .i64 fd,.int .i64 off,.int .i64 n,.string data] 1 w2) fun q e=>(Option.some.inj e).symm) hp3 [(b3,.cells #[.int .i64 ((k:Int)+1),.int .i64 kind,.string s,.string s2,.int .i64 fl,.int .i64 fd,.int .i64 off,.int .i64 n,.string data,.int .i64 spare,.bool false] 29 (0,0)),(p,zL t x r D)] (ya HNe.o));generalize (World.setCells _ _ _ _)=w3 at hp3 HP3⊢;have HR3:=hid hp3;clear hp3))
 clear r0 r1 r2 r3 r4 r5 r6 r7 r8 r9 r10;have c0:w3.cell? ⟨b3,0,none⟩=some (.int .i64 ((k:Int)+1)):=cell_of_row w3 _ 0 _ _ _ HR3.o;have c10:w3.cell? ⟨b3,10,none⟩=some (.bool false):=cell_of_row w3 _ 10 _ _ _ HR3.o;go_wp2_with(first|(refine wpList_load_row rfl 29 _ rfl b3 rfl 29 #[.int .i64 ((k:Int)+1),.int .i64 kind,.string s,.string s2,.int .i64 fl,.int .i64 fd,.int .i64 off,.int .i64 n,.string data,.int .i64 spare,.bool false] (0,0) _ HR3.o underlying29 rfl infoAsk ?_)|(go_at_call 18;go_loud (refine(HAn.o _).mono ?_);rintro e w4 ⟨rfl,hb4⟩;have HP4:=hid (HP3.o.below hb4);clear hb4))
 go_ret
 exact⟨rfl,S,M,T,D,Z,φ,((HP4.o.alloc _ _).less fun q hq=>by rw[List.mem_singleton.1 hq];simp).more (Nat.le_refl _) (by omega),HSim.o,HG.o.mono (by omega),HFw.o⟩
theorem Xk[zg]{x t r K g p:Nat}{S:List UInt8}{M:Gd.Vol}{T:Nat→Gd.Tab}{Z:Pz.Fil}{φ:Nat→Nat}{D:Nat→Nat→Nat}{w:World}(cl:Int)(hc:cl<1∨8<cl)(kind fl fd off n spare:Int)(s0 s20 data:ByteArray)(dr:Bool)(w0:World)(h:PSt x t r S M Z 0 K w w0 [(p,zL t x r D)])(hM:Mx w)(hSim:Gd.Sim M T D Z φ)(hG:Pz.Good g Z)(hg:g≤900)(hF:Pz.Few Z)(hK:K<500000000000):
 Calls prog 10 #[.pointer (some ⟨p,0,none⟩),akV ⟨cl,kind,s0,s20,fl,fd,off,n,data,spare,dr⟩] w0 fun e b=>e= .returned (.bool true)∧yy x t r p (K+2000000) (g+3) w b:=by
 obtain⟨s,hs⟩:=nm (yN s0 60);obtain⟨s2,hs2⟩:=nm (yN s20 60);have hsl:s.size≤100000:=by rw[hs];exact Nat.le_trans (jX _ _) (by omega)
 have hsl2:s2.size≤100000:=by rw[hs2];exact Nat.le_trans (jX _ _) (by omega)
 have HCut:=hid fun W=>yg kind fl fd off n s0 s20 data W;rw[←hs,←hs2]at HCut;unfold zN at HCut;have HP1:=hid (h.alloc #[.int .i64 cl,.int .i64 kind,.string s0,.string s20,.int .i64 fl,.int .i64 fd,.int .i64 off,.int .i64 n,.string data,.int .i64 spare,.bool dr] 29);obtain⟨b3,hb3⟩:=nm w0.heap.size;have HNe:Hid (p≠b3):=hid (by rw[hb3];have:=za (h.get (k:=p) (o:=zL t x r D) (by simp));omega);have HSim:=hid hSim;have HG:=hid hG;have HFw:=hid hF;have HKk:=hid (And.intro hK hg);have Hc:=hid hc;have HGd:=hid h.good;have Hsl:=hid (And.intro hsl hsl2);have Hb3:=hid hb3;clear h hM hSim hG hg hF hK hs hs2 hc hsl hsl2;unfold akV akC;try dsimp only
 go_enter func10,ntmps10;go_upto_region 1 with fail
 rw[←hb3]at HP1⊢;clear hb3;have hrow:(w0.alloc (.cells #[.int .i64 cl,.int .i64 kind,.string s0,.string s20,.int .i64 fl,.int .i64 fd,.int .i64 off,.int .i64 n,.string data,.int .i64 spare,.bool dr] 29)).heap[b3]? =some (.cells #[.int .i64 cl,.int .i64 kind,.string s0,.string s20,.int .i64 fl,.int .i64 fd,.int .i64 off,.int .i64 n,.string data,.int .i64 spare,.bool dr] 29 (0,0)):=HP1.o.get (k:=b3) (by simp);have HRw:=hid hrow;obtain⟨r0,r1,r2,r3,r4,r5,r6,r7,r8,r9,r10⟩:=qS hrow;clear hrow
 go_upto_region 2 with(first|(go_at_call 13;refine(HCut.o _).mono ?_;rintro e w2 ⟨rfl,hb2⟩;have HP2:=hid (HP1.o.below hb2);have HR2:=HRw.r hb2;clear hb2)|(refine wpList_store_mid rfl 27 _ _ rfl b3 1 #[.int .i64 kind,.string s,.string s2,.int .i64 fl,.int .i64 fd,.int .i64 off,.int .i64 n,.string data] rfl rfl (jC HR2.o (show 9≤11 by decide)) sizeCall14 (yu _ _ _ _ _ _ _ _) ?_;have hp3:=Zt HR2.o (.int .i64 kind) (.string s) (.string s2) (.int .i64 fl) (.int .i64 fd) (.int .i64 off) (.int .i64 n) (.string data);have HP3:=hid (HP2.o.turn (k:=b3) (List.mem_cons_self ..) (zw (F:=fun q=>q=b3) (zo b3 [.int .i64 kind,.string s,.string s2,.int .i64 fl,.int .i64 fd,.int .i64 off,.int .i64 n,.string data] 1 w2) fun q e=>(Option.some.inj e).symm) hp3 [(b3,.cells #[.int .i64 cl,.int .i64 kind,.string s,.string s2,.int .i64 fl,.int .i64 fd,.int .i64 off,.int .i64 n,.string data,.int .i64 spare,.bool dr] 29 (0,0)),(p,zL t x r D)] (ya HNe.o));generalize (World.setCells _ _ _ _)=w3 at hp3 HP3⊢;have HR3:=hid hp3;clear hp3))
 clear r0 r1 r2 r3 r4 r5 r6 r7 r8 r9 r10;have c0:w3.cell? ⟨b3,0,none⟩=some (.int .i64 cl):=cell_of_row w3 _ 0 _ _ _ HR3.o;by_cases hlo:cl<1
 ·go_wp2_with fail
  go_ret
  exact⟨rfl,S,M,T,D,Z,φ,(HP3.o.less fun q hq=>by rw[List.mem_singleton.1 hq];simp).more (Nat.le_refl _) (by omega),HSim.o,HG.o.mono (by omega),HFw.o⟩
 ·have hhi:8<cl:=by have:=Hc.o;omega
  go_wp2_with fail
  go_ret
  exact⟨rfl,S,M,T,D,Z,φ,(HP3.o.less fun q hq=>by rw[List.mem_singleton.1 hq];simp).more (Nat.le_refl _) (by omega),HSim.o,HG.o.mono (by omega),HFw.o⟩
end
end Go.Proofs.YtjlpkbhgphjpeaaGreatDoor
