/- Does over any bytes, at a call. -/
import Derived.Test.YtckoobkjpndgnaaGreatDoorW34
set_option linter.unusedVariables false
set_option linter.unusedSimpArgs false
set_option linter.unusedSectionVars false
set_option maxHeartbeats 8000000
set_option maxRecDepth 100000
namespace Go.Proofs.YtckoobkjpndgnaaGreatDoor
open Go.RowKit
open Lib(hid)
open Go.Proofs.Tryz
open Go.Shelf
attribute [local go_sem] Oper.semAt_some
theorem doesT_call[MemNo]{x t r K g p:Nat}{Z:Pz.Fil}{D:Nat→Nat→Nat}{w:World}(k:Nat)(hk:k<8)(kind fl fd off n spare:Int)(s0 s20 data:ByteArray)(w0:World)(h:Le x t r Z K w w0 [(p,oPair t x r D)])(hM:Mx w)(hG:Pz.Good g Z)(hg:g≤900)(hF:Pz.Few Z)(hK:K<500000000000)(hl:layerE kind):
 Calls prog 5 #[.pointer (some ⟨p,0,none⟩),akV ⟨(k:Int)+1,kind,s0,s20,fl,fd,off,n,data,spare,false⟩] w0 (DoesE x t r p (K+2000000) (g+3) w):=by
 obtain⟨s,hs⟩:=nm (cutL s0 60);obtain⟨s2,hs2⟩:=nm (cutL s20 60);have hsl:s.size≤100000:=by rw[hs];exact Nat.le_trans (cutL_size _ _) (by omega)
 have hsl2:s2.size≤100000:=by rw[hs2];exact Nat.le_trans (cutL_size _ _) (by omega)
 have HCut:=hid fun W=>pcut_any kind fl fd off n s0 s20 data W;rw[←hs,←hs2]at HCut;unfold callV at HCut;have HP1:=hid (h.alloc #[.int .i64 ((k:Int)+1),.int .i64 kind,.string s0,.string s20,.int .i64 fl,.int .i64 fd,.int .i64 off,.int .i64 n,.string data,.int .i64 spare,.bool false] 30);obtain⟨b3,hb3⟩:=nm w0.heap.size;have hk0:¬((k:Int)+1<1):=by omega
 have hk8:¬(8<(k:Int)+1):=by omega
 have hkk0:(0:Int)≤k:=by omega
 have hkk8:(k:Int)<8:=by omega
 have hwk:IntKind.i64.wrap ((k:Int)+1-1)=(k:Int):=by rw[IntKind.wrap_i64];omega
 have hwk2:IntKind.i64.wrap (k:Int)=(k:Int):=by rw[IntKind.wrap_i64];omega
 have HAsk:=hid fun W (h3:Le x t r Z K w W [(b3,.cells #[.int .i64 ((k:Int)+1),.int .i64 kind,.string s,.string s2,.int .i64 fl,.int .i64 fd,.int .i64 off,.int .i64 n,.string data,.int .i64 spare,.bool false] 30 (0,0)),(p,oPair t x r D)])=>askT_any k hk kind fl fd off n spare s s2 data false hl hsl hsl2 h3 (p:=p) (D:=D) (by simp) hM;unfold akV akC at HAsk;try dsimp only at HAsk
 have HNe:Hid (p≠b3):=hid (by rw[hb3];have:=lt_get (h.get (k:=p) (o:=oPair t x r D) (by simp));omega);have Hl:=hid hl;have HQ:Hid (kind<3∨6<kind):=hid (by unfold layerE at hl;omega);clear hl;have HG:=hid hG;have HFw:=hid hF;have HKk:=hid (And.intro hK hg);have Hk8:=hid hk;have Hsl:=hid (And.intro hsl hsl2);have Hb3:=hid hb3;clear h hM hG hg hF hK hs hs2 hk hsl hsl2;unfold akV akC;try dsimp only
 go_enter func5,ntmps5;go_upto_region 1 with fail
 rw[←hb3]at HP1⊢;clear hb3;have hrow:(w0.alloc (.cells #[.int .i64 ((k:Int)+1),.int .i64 kind,.string s0,.string s20,.int .i64 fl,.int .i64 fd,.int .i64 off,.int .i64 n,.string data,.int .i64 spare,.bool false] 30)).heap[b3]? =some (.cells #[.int .i64 ((k:Int)+1),.int .i64 kind,.string s0,.string s20,.int .i64 fl,.int .i64 fd,.int .i64 off,.int .i64 n,.string data,.int .i64 spare,.bool false] 30 (0,0)):=HP1.o.get (k:=b3) (by simp);have HRw:=hid hrow;obtain⟨r0,r1,r2,r3,r4,r5,r6,r7,r8,r9,r10⟩:=ak_cells hrow;clear hrow
 go_upto_region 2 with(first|(go_at_call 7;refine(HCut.o _).mono ?_;rintro e w2 ⟨rfl,hb2⟩;have HP2:=hid (HP1.o.below hb2);have HR2:=HRw.r hb2;clear hb2)|(refine wpList_store_mid rfl 28 _ _ rfl b3 1 #[.int .i64 kind,.string s,.string s2,.int .i64 fl,.int .i64 fd,.int .i64 off,.int .i64 n,.string data] rfl rfl (there_cells HR2.o (show 9≤11 by decide)) sizeCall14 (call_one _ _ _ _ _ _ _ _) ?_;have hp3:=ak_put HR2.o (.int .i64 kind) (.string s) (.string s2) (.int .i64 fl) (.int .i64 fd) (.int .i64 off) (.int .i64 n) (.string data);have HP3:=hid (HP2.o.turn (k:=b3) (List.mem_cons_self ..) (grown_only (F:=fun q=>q=b3) (setCells_grownM b3 [.int .i64 kind,.string s,.string s2,.int .i64 fl,.int .i64 fd,.int .i64 off,.int .i64 n,.string data] 1 w2) fun q e=>(Option.some.inj e).symm) hp3 [(b3,.cells #[.int .i64 ((k:Int)+1),.int .i64 kind,.string s,.string s2,.int .i64 fl,.int .i64 fd,.int .i64 off,.int .i64 n,.string data,.int .i64 spare,.bool false] 30 (0,0)),(p,oPair t x r D)] (two_turn HNe.o));generalize (World.setCells _ _ _ _)=w3 at hp3 HP3⊢;have HR3:=hid hp3;clear hp3))
 clear r0 r1 r2 r3 r4 r5 r6 r7 r8 r9 r10;have c0:w3.cell? ⟨b3,0,none⟩=some (.int .i64 ((k:Int)+1)):=cell_of_row w3 _ 0 _ _ _ HR3.o;have c10:w3.cell? ⟨b3,10,none⟩=some (.bool false):=cell_of_row w3 _ 10 _ _ _ HR3.o;have HAc:=hid (HAsk.o w3 HP3.o);go_upto_region 10 with(first|(refine wpList_load_row rfl 30 _ rfl b3 rfl 30 #[.int .i64 ((k:Int)+1),.int .i64 kind,.string s,.string s2,.int .i64 fl,.int .i64 fd,.int .i64 off,.int .i64 n,.string data,.int .i64 spare,.bool false] (0,0) _ HR3.o underlying30 rfl infoAsk ?_)|(go_at_call 9;refine HAc.o.mono ?_;rintro e w4 ⟨q,A,c,i,Lq,rfl,hS4,hN4,hln,hk2,hP4⟩;obtain⟨q0,q1,q2,q3,q4,q5,q6⟩:=q;have HS4:=hid hS4;have HN4:=hid hN4;have HLn:=hid hln;have HK2:=hid hk2;have HP4:=hid hP4;clear hS4 hN4 hln hk2 hP4;unfold repV))
 obtain⟨w5,hw5⟩:=nm (w4.alloc (.cells #[.int .i64 q0,.int .i64 q1,.string ⟨q2.toArray⟩,.slice A q3.length c,.int .i64 q4,.int .i64 q5,.int .i64 q6] 47));obtain⟨b6,hb6⟩:=nm w4.heap.size;have HStep:Hid (∀Z Ls,Le x t r Z K w w4 Ls→Le x t r Z K w w5 ((b6,.cells #[.int .i64 q0,.int .i64 q1,.string ⟨q2.toArray⟩,.slice A q3.length c,.int .i64 q4,.int .i64 q5,.int .i64 q6] 47 (0,0))::Ls)):=hid fun Z Ls h4=>by
  rw[hw5,hb6];exact h4.alloc _ _
 have HW5:=hid hw5;rw[←HW5.o,←hb6];have HFa:Hid (∀Z2 Ls W,Le x t r Z2 K w W Ls→(b3,Obj.cells #[.int .i64 ((k:Int)+1),.int .i64 kind,.string s,.string s2,.int .i64 fl,.int .i64 fd,.int .i64 off,.int .i64 n,.string data,.int .i64 spare,.bool false] 30 (0,0))∈Ls→(p,oPair t x r D)∈Ls→W.cell? ⟨p,3,none⟩=some (.pointer (some ⟨r,0,none⟩))∧W.cell? ⟨b3,0,none⟩=some (.int .i64 ((k:Int)+1))∧W.cell? ⟨b3,1,none⟩=some (.int .i64 kind)∧W.cell? ⟨b3,2,none⟩=some (.string s)∧W.cell? ⟨b3,3,none⟩=some (.string s2)∧W.cell? ⟨b3,4,none⟩=some (.int .i64 fl)∧W.cell? ⟨b3,5,none⟩=some (.int .i64 fd)∧W.cell? ⟨b3,6,none⟩=some (.int .i64 off)∧W.cell? ⟨b3,7,none⟩=some (.int .i64 n)∧W.cell? ⟨b3,8,none⟩=some (.string data)):=hid fun Z2 Ls W h4 m1 m2=>by
  obtain⟨r0,r1,r2,r3,r4,r5,r6,r7,r8,r9,r10⟩:=ak_cells (h4.get m1);exact⟨(pair_cells (h4.get m2)).2.2.2.1,r0,r1,r2,r3,r4,r5,r6,r7,r8⟩
 clear hw5 hb6 c0 c10;by_cases h18:q0=18
 ·subst h18;have HP5:=hid (HStep.o _ _ HP4.o);have g0:w5.cell? ⟨b6,0,none⟩=some (.int .i64 18):=cell_of_row w5 _ 0 _ _ _ (HP5.o.get (k:=b6) (List.mem_cons_self ..));have p1:=(pair_cells (HP5.o.get (k:=p) (o:=oPair t x r D) (by simp))).2.1;have HDr:=hid HP5.o.tdrop;go_wp2_with(go_at_call 10;refine HDr.o.mono ?_;rintro e w6 ⟨rfl,hP6⟩)
  go_ret
  exact⟨_,rfl,D,Z,(hP6.less fun q hq=>by rw[List.mem_singleton.1 hq];simp).more (by omega),HG.o.mono (by omega),HFw.o⟩
 have hb18:(q0==18)=false:=by rw[beq_eq_false_iff_ne];exact h18
 clear h18;obtain⟨Z2,zr,hd⟩:∃Z2 zr,Pz.doA Z ((k:Int)+1) kind s.data.toList s2.data.toList fl fd off n data.data.toList=(Z2,zr):=⟨_,_,rfl⟩;have HFd:Hid (kind=1→0≤zr.fd∧zr.fd<8):=hid (by
  intro e;have h1:=opens_fd Z ((k:Int)+1) fl s.data.toList;have h2:Pz.doA Z ((k:Int)+1) kind s.data.toList s2.data.toList fl fd off n data.data.toList=Pz.opens Z ((k:Int)+1) fl s.data.toList:=by
   unfold Pz.doA;rw[if_neg (by have:=Hk8.o;omega),if_pos e]
  rw[h2]at hd;rw[hd]at h1;exact h1)
 have HGo:Hid (Pz.Good (g+3) Z2∧Pz.Few Z2):=hid (by
  have h1:=Pz.do_good HG.o HFw.o ((k:Int)+1) kind s.data.toList s2.data.toList fl fd off n data.data.toList;rw[hd]at h1;exact h1)
 have HZl:Hid (zr.names.length≤1000000):=hid (by
  have h1:=do_namesE Z ((k:Int)+1) kind s.data.toList s2.data.toList fl fd off n data.data.toList (by have h2:=Hl.o;unfold layerE at h2;omega);rw[hd]at h1;have h3:=HG.o.e;have h4:=HKk.o.2;exact Nat.le_trans h1 (Nat.le_trans h3 (by omega)))
 have HP5:=hid (HStep.o _ _ HP4.o);have g0:w5.cell? ⟨b6,0,none⟩=some (.int .i64 q0):=cell_of_row w5 _ 0 _ _ _ (HP5.o.get (k:=b6) (List.mem_cons_self ..));have HZa:=hid (HP5.o.alloc #[.int .i64 0,.int .i64 0,.string ⟨#[]⟩,.slice none 0 0,.int .i64 0,.int .i64 0,.int .i64 0] 47);have HDo:=hid ((HP5.o.below (Below.refl _ _).drew).rdo ((k:Int)+1) kind fl fd off n s s2 data Hsl.o.1 Hsl.o.2 HQ.o (HG.o.mono (by have:=HKk.o.2;omega)));have HDa:=hid ((HZa.o.below (Below.refl _ _).drew).rdo ((k:Int)+1) kind fl fd off n s s2 data Hsl.o.1 Hsl.o.2 HQ.o (HG.o.mono (by have:=HKk.o.2;omega)));rw[hd]at HDo HDa;obtain⟨z0,z1,z2,z3,z4,z5,z6⟩:=zr;unfold callV repV at HDo HDa;clear hd;go_upto_region 15 with fail
 clear g0;go_cut[9] from 74 to 83 (fun z wx=>∃b9 A6 c6,z= .pointer (some ⟨b9,0,none⟩)∧Hid (Le x t r Z2 K w wx ((b9,.cells #[.int .i64 z0,.int .i64 z1,.string ⟨z2.toArray⟩,.slice A6 z3.length c6,.int .i64 z4,.int .i64 z5,.int .i64 z6] 47 (0,0))::(b6,.cells #[.int .i64 q0,.int .i64 q1,.string ⟨q2.toArray⟩,.slice A q3.length c,.int .i64 q4,.int .i64 q5,.int .i64 q6] 47 (0,0))::(Lq++[(b3,.cells #[.int .i64 ((k:Int)+1),.int .i64 kind,.string s,.string s2,.int .i64 fl,.int .i64 fd,.int .i64 off,.int .i64 n,.string data,.int .i64 spare,.bool false] 30 (0,0)),(p,oPair t x r D)]))∧Strs wx 0 A6 z3))
 case first=>
  have hs0:=HFa.o _ _ w5 HP5.o (by simp) (by simp);refine wp_region_held_drew (S:=(fun W=>W.cell? ⟨p,3,none⟩=some (.pointer (some ⟨r,0,none⟩))∧W.cell? ⟨b3,0,none⟩=some (.int .i64 ((k:Int)+1))∧W.cell? ⟨b3,1,none⟩=some (.int .i64 kind)∧W.cell? ⟨b3,2,none⟩=some (.string s)∧W.cell? ⟨b3,3,none⟩=some (.string s2)∧W.cell? ⟨b3,4,none⟩=some (.int .i64 fl)∧W.cell? ⟨b3,5,none⟩=some (.int .i64 fd)∧W.cell? ⟨b3,6,none⟩=some (.int .i64 off)∧W.cell? ⟨b3,7,none⟩=some (.int .i64 n)∧W.cell? ⟨b3,8,none⟩=some (.string data))) (by kernel_rfl) ?_ (fun hHeld=> ?_)
  ·exact hs0
  refine tk 0 ?_;refine tk 1 ?_;refine tk 2 ?_;refine tk 3 ?_;refine tk 4 ?_;refine tk 5 ?_;refine tk 6 ?_;refine tk 7 ?_;refine wpAnyH_ready (rs:=[8,9]) (by kernel_rfl) (by simp) ?_;refine AllReadyH.cons (o:=_) rfl (fun K hK=> ?_) (AllReadyH.cons (o:=_) rfl (fun K hK=> ?_) AllReadyH.nil)
  ·go_simp
   refine HDo.o.mono ?_;rintro e w6 ⟨A6,c6,rfl,hS6,hP6⟩;have HP6:=hid hP6;have HS6:=hid hS6;have hs6:=HFa.o _ _ w6 hP6 (by simp) (by simp);clear hS6 hP6;try dsimp only
   refine hK.o _ _ hs6 (fun hHeld=> ?_);clear hK K;try simp only[put]
   refine rd 9 (fun K hK=> ?_);go_simp
   have hs7:=HFa.o _ _ _ (HP6.o.alloc #[.int .i64 0,.int .i64 0,.string ⟨#[]⟩,.slice none 0 0,.int .i64 0,.int .i64 0,.int .i64 0] 47) (by simp) (by simp);try dsimp only
   refine hK.o _ _ hs7 (fun hHeld=> ?_);clear hK K;try simp only[put]
   refine rd 10 (fun K hK=> ?_);refine wp_store_mid 47 _ _ rfl w6.heap.size 0 #[.int .i64 z0,.int .i64 z1,.string ⟨z2.toArray⟩,.slice A6 z3.length c6,.int .i64 z4,.int .i64 z5,.int .i64 z6] rfl rfl (there_at (heap_alloc_new _ _) rfl) sizeRep (rep_one _ _ _ _ _ _ _ _ _) ?_;obtain⟨hbw,hbg⟩:=new_whole2 w6 #[.int .i64 0,.int .i64 0,.string ⟨#[]⟩,.slice none 0 0,.int .i64 0,.int .i64 0,.int .i64 0] 47 [.int .i64 z0,.int .i64 z1,.string ⟨z2.toArray⟩,.slice A6 z3.length c6,.int .i64 z4,.int .i64 z5,.int .i64 z6] rfl;generalize (World.setCells _ _ _ _)=w8 at hbw hbg⊢;have HS8:=hid ((HS6.o.keep hbw).low (Nat.zero_le _));have HP8:=hid (HP6.o.new hbw (Nat.le_refl _) hbg);have hs8:=HFa.o _ _ w8 HP8.o (by simp) (by simp);clear hbw hbg;try dsimp only
   refine hK.o _ _ hs8 (fun hHeld=> ?_);clear hK K;try simp only[put]
   refine dn ?_
   (try simp only[Exit.then])
   go_wp2_with fail
   go_meet
   exact⟨_,_,_,rfl,hid ⟨HP8.o,HS8.o⟩⟩
  ·go_simp
   have hs6:=HFa.o _ _ _ HZa.o (by simp) (by simp);try dsimp only
   refine hK.o _ _ hs6 (fun hHeld=> ?_);clear hK K;try simp only[put]
   refine rd 8 (fun K hK=> ?_);go_simp
   refine HDa.o.mono ?_;rintro e w7 ⟨A6,c6,rfl,hS7,hP7⟩;have HP7:=hid hP7;have HS7:=hid hS7;have hs7:=HFa.o _ _ w7 hP7 (by simp) (by simp);clear hS7 hP7;try dsimp only
   refine hK.o _ _ hs7 (fun hHeld=> ?_);clear hK K;try simp only[put]
   refine rd 10 (fun K hK=> ?_);refine wp_store_mid 47 _ _ rfl w5.heap.size 0 #[.int .i64 z0,.int .i64 z1,.string ⟨z2.toArray⟩,.slice A6 z3.length c6,.int .i64 z4,.int .i64 z5,.int .i64 z6] rfl rfl (there_at (HP7.o.get (List.mem_cons_self ..)) rfl) sizeRep (rep_one _ _ _ _ _ _ _ _ _) ?_
   have hP8:=HP7.o.setAll (List.mem_cons_self ..) (vs:=[.int .i64 z0,.int .i64 z1,.string ⟨z2.toArray⟩,.slice A6 z3.length c6,.int .i64 z4,.int .i64 z5,.int .i64 z6]) rfl (List.cons (w5.heap.size,.cells #[.int .i64 z0,.int .i64 z1,.string ⟨z2.toArray⟩,.slice A6 z3.length c6,.int .i64 z4,.int .i64 z5,.int .i64 z6] 47 (0,0)) (List.cons (b6,.cells #[.int .i64 q0,.int .i64 q1,.string ⟨q2.toArray⟩,.slice A q3.length c,.int .i64 q4,.int .i64 q5,.int .i64 q6] 47 (0,0)) (Lq++[(b3,.cells #[.int .i64 ((k:Int)+1),.int .i64 kind,.string s,.string s2,.int .i64 fl,.int .i64 fd,.int .i64 off,.int .i64 n,.string data,.int .i64 spare,.bool false] 30 (0,0)),(p,oPair t x r D)]))) (fun q hq=>(List.mem_cons.1 hq).imp id fun e=>⟨List.mem_cons_of_mem _ e,Nat.ne_of_lt (HP5.o.lts q e)⟩)
   have hS8:Strs (w7.setCells w5.heap.size 0 [.int .i64 z0,.int .i64 z1,.string ⟨z2.toArray⟩,.slice A6 z3.length c6,.int .i64 z4,.int .i64 z5,.int .i64 z6]) 0 A6 z3:=(HS7.o.only (grown_only (F:=fun q=>q=w5.heap.size) (setCells_grownM w5.heap.size [.int .i64 z0,.int .i64 z1,.string ⟨z2.toArray⟩,.slice A6 z3.length c6,.int .i64 z4,.int .i64 z5,.int .i64 z6] 0 w7) fun q e=>(Option.some.inj e).symm) (fun j hj _ e=>Nat.lt_irrefl _ (Nat.lt_of_lt_of_le (lt_get (heap_alloc_new w5 _)) (Nat.le_trans hj (Nat.le_of_eq e))))).low (Nat.zero_le _);generalize (World.setCells _ _ _ _)=w8 at hP8 hS8⊢;have HP8:=hid hP8;have HS8:=hid hS8;have hs8:=HFa.o _ _ w8 hP8 (by simp) (by simp);clear hP8 hS8;try dsimp only
   refine hK.o _ _ hs8 (fun hHeld=> ?_);clear hK K;try simp only[put]
   refine dn ?_
   (try simp only[Exit.then])
   go_wp2_with fail
   go_meet
   exact⟨_,_,_,rfl,hid ⟨HP8.o,HS8.o⟩⟩
 case rest=>
 obtain⟨b9,A6,c6,rfl,hc⟩:=hcut;have HP8:=hid hc.o.1;have HG6:=hid (HP8.o.get (k:=b6) (o:= .cells #[.int .i64 q0,.int .i64 q1,.string ⟨q2.toArray⟩,.slice A q3.length c,.int .i64 q4,.int .i64 q5,.int .i64 q6] 47 (0,0)) (by simp));have HG9:=hid (HP8.o.get (k:=b9) (o:= .cells #[.int .i64 z0,.int .i64 z1,.string ⟨z2.toArray⟩,.slice A6 z3.length c6,.int .i64 z4,.int .i64 z5,.int .i64 z6] 47 (0,0)) (by simp));have HSame:=hid (samereplyT ⟨q0,q1,q2,q3,q4,q5,q6⟩ ⟨z0,z1,z2,z3,z4,z5,z6⟩ A A6 c c6 wc (Nat.le_trans HLn.o (by omega)) HZl.o (HS4.o.ownE (HN4.o.imp id fun⟨nb,o,ob,m1,m2⟩=>⟨nb,o,ob,m1,List.mem_append_left _ m2,List.mem_cons_of_mem _ (List.mem_cons_of_mem _ (List.mem_append_left _ m2))⟩) HP4.o HP8.o) hc.o.2);unfold repV at HSame;clear hc;go_upto_region 16 with fail
 go_cut[10] from 83 to 85 (fun z wx=>(∃bl:Bool,z= .bool bl)∧Hid (Le x t r Z2 K w wx ((b9,.cells #[.int .i64 z0,.int .i64 z1,.string ⟨z2.toArray⟩,.slice A6 z3.length c6,.int .i64 z4,.int .i64 z5,.int .i64 z6] 47 (0,0))::(b6,.cells #[.int .i64 q0,.int .i64 q1,.string ⟨q2.toArray⟩,.slice A q3.length c,.int .i64 q4,.int .i64 q5,.int .i64 q6] 47 (0,0))::(Lq++[(b3,.cells #[.int .i64 ((k:Int)+1),.int .i64 kind,.string s,.string s2,.int .i64 fl,.int .i64 fd,.int .i64 off,.int .i64 n,.string data,.int .i64 spare,.bool false] 30 (0,0)),(p,oPair t x r D)]))))
 case first=>
  go_wp2_with(first|(refine wpList_load_row rfl 47 _ rfl b6 rfl 47 #[.int .i64 q0,.int .i64 q1,.string ⟨q2.toArray⟩,.slice A q3.length c,.int .i64 q4,.int .i64 q5,.int .i64 q6] (0,0) _ HG6.o underlying47 rfl infoRep ?_)|(refine wpList_load_row rfl 47 _ rfl b9 rfl 47 #[.int .i64 z0,.int .i64 z1,.string ⟨z2.toArray⟩,.slice A6 z3.length c6,.int .i64 z4,.int .i64 z5,.int .i64 z6] (0,0) _ HG9.o underlying47 rfl infoRep ?_)|(go_at_call 21;refine HSame.o.mono ?_;rintro e w9 ⟨bl,rfl,hb9⟩;have HP9:=hid (HP8.o.below hb9);clear hb9))
  go_meet
  exact⟨⟨_,rfl⟩,HP9⟩
 case rest=>
 obtain⟨⟨bl,hz⟩,hq⟩:=hcut;subst hz;have HP9:=hid hq.o;clear hq;have g0:wc.cell? ⟨b6,0,none⟩=some (.int .i64 q0):=cell_of_row wc _ 0 _ _ _ (HP9.o.get (k:=b6) (o:= .cells #[.int .i64 q0,.int .i64 q1,.string ⟨q2.toArray⟩,.slice A q3.length c,.int .i64 q4,.int .i64 q5,.int .i64 q6] 47 (0,0)) (by simp));by_cases h0:q0=0
 rotate_left
 ·have h1:(q0 !=0)=true:=by rw[bne_iff_ne];exact h0
  clear h0;have p1:=(pair_cells (HP9.o.get (k:=p) (o:=oPair t x r D) (by simp))).2.1;have HDr:=hid HP9.o.tdrop;go_wp2_with(go_at_call 10;refine HDr.o.mono ?_;rintro e w10 ⟨rfl,hP10⟩)
  go_ret
  exact⟨_,rfl,D,Z2,(hP10.less fun q hq=>by rw[List.mem_singleton.1 hq];simp).more (by omega),HGo.o.1,HGo.o.2⟩
 subst h0;have HFd2:Hid (kind=1→0≤z1∧z1<8):=HFd;have HK3:Hid (kind=2→0≤fd∧fd<8):=hid fun e=>HK2.o e rfl;go_upto_if 88 with fail
 iterate 5 go_step
 clear g0;go_cut[] from 95 to 109 (fun wx=>∃D1,Hid (Le x t r Z2 K w wx [(b3,.cells #[.int .i64 ((k:Int)+1),.int .i64 kind,.string s,.string s2,.int .i64 fl,.int .i64 fd,.int .i64 off,.int .i64 n,.string data,.int .i64 spare,.bool false] 30 (0,0)),(p,oPair t x r D1)]))
 case first=>
  have k1:wc.cell? ⟨b3,1,none⟩=some (.int .i64 kind):=cell_of_row wc b3 1 _ _ _ (HP9.o.get (k:=b3) (o:= .cells #[.int .i64 ((k:Int)+1),.int .i64 kind,.string s,.string s2,.int .i64 fl,.int .i64 fd,.int .i64 off,.int .i64 n,.string data,.int .i64 spare,.bool false] 30 (0,0)) (by simp));by_cases hk1:kind=1
  rotate_left
  ·have hkb1:(kind==1)=false:=by rw[beq_eq_false_iff_ne];exact hk1
   clear hk1;go_wp2_with fail
   go_meet
   exact⟨D,hid (HP9.o.less fun q hq=>by simp only[List.mem_cons,List.not_mem_nil,or_false]at hq;rcases hq with rfl|rfl<;>simp)⟩
  obtain⟨f,rfl⟩:∃f:Nat,z1=f:=⟨z1.toNat,by have:=HFd2.o hk1;omega⟩;have hf:f<8:=by have:=HFd2.o hk1;omega
  subst hk1;have hb9p:b9≠p:=fun e=>by
   have h1:=HP9.o.get (k:=b9) (o:= .cells #[.int .i64 z0,.int .i64 ((f:Nat):Int),.string ⟨z2.toArray⟩,.slice A6 z3.length c6,.int .i64 z4,.int .i64 z5,.int .i64 z6] 47 (0,0)) (by simp);have h2:=HP9.o.get (k:=p) (o:=oPair t x r D) (by simp);rw[e,h2]at h1;unfold oPair at h1;injection Option.some.inj h1 with _ e2
   exact absurd e2 (by decide)
  have Hb9p:=hid hb9p;have hf0:(0:Int)≤f:=by omega
  have hf8:(f:Int)<8:=by omega
  have Hf:=hid hf;clear hb9p hf;go_upto_region 21 with fail
  have h10:Le x t r Z2 K w (wc.setCell ⟨p,4+k*8+f,none⟩ (.int .i64 (i:Nat))) (List.cons (b9,.cells #[.int .i64 z0,.int .i64 ((f:Nat):Int),.string ⟨z2.toArray⟩,.slice A6 z3.length c6,.int .i64 z4,.int .i64 z5,.int .i64 z6] 47 (0,0)) [(b3,.cells #[.int .i64 ((k:Int)+1),.int .i64 1,.string s,.string s2,.int .i64 fl,.int .i64 fd,.int .i64 off,.int .i64 n,.string data,.int .i64 spare,.bool false] 30 (0,0)),(p,oPair t x r (Gd.updE D k f i))]):=by
   refine HP9.o.set (k:=p) (C:=pairC t x r D) (ty:=39) (by unfold oPair;simp) _ fun q hq=> ?_;rw[show(pairC t x r D).setIfInBounds (4+k*8+f) (.int .i64 (i:Nat))=pairC t x r (Gd.updE D k f i) from fd_cells Hk8.o Hf.o];simp only[List.mem_cons,List.not_mem_nil,or_false]at hq;rcases hq with rfl|rfl|rfl
   ·exact Or.inr ⟨by simp,Hb9p.o⟩
   ·exact Or.inr ⟨by simp,HNe.o.symm⟩
   ·exact Or.inl rfl
  have H10:=hid h10;have cp:=(pair_cells (HP9.o.get (k:=p) (o:=oPair t x r D) (by simp))).2.2.2.2.1 k f Hk8.o Hf.o;have fz:=(pair_cells (HP9.o.get (k:=p) (o:=oPair t x r D) (by simp))).2.2.2.2.2 (4+k*8+f);clear h10 k1;have hs9:=(show wc.cell? ⟨b3,0,none⟩=some (.int .i64 ((k:Int)+1))∧wc.cell? ⟨b9,1,none⟩=some (.int .i64 (f:Int)) from⟨cell_of_row wc b3 0 _ _ _ (HP9.o.get (k:=b3) (o:= .cells #[.int .i64 ((k:Int)+1),.int .i64 1,.string s,.string s2,.int .i64 fl,.int .i64 fd,.int .i64 off,.int .i64 n,.string data,.int .i64 spare,.bool false] 30 (0,0)) (by simp)),cell_of_row wc b9 1 _ _ _ (HP9.o.get (k:=b9) (o:= .cells #[.int .i64 z0,.int .i64 ((f:Nat):Int),.string ⟨z2.toArray⟩,.slice A6 z3.length c6,.int .i64 z4,.int .i64 z5,.int .i64 z6] 47 (0,0)) (by simp))⟩)
  refine wp_region_held_drew (S:=(fun W=>W.cell? ⟨b3,0,none⟩=some (.int .i64 ((k:Int)+1))∧W.cell? ⟨b9,1,none⟩=some (.int .i64 (f:Int)))) (by kernel_rfl) ?_ (fun hHeld=> ?_)
  ·exact hs9
  refine tk 0 ?_;refine tk 1 ?_;refine tk 2 ?_;refine tk 3 ?_;refine tk 4 ?_;refine tk 5 ?_;refine tk 6 ?_;refine tk 7 ?_;refine tk 8 ?_;refine tk 9 ?_;refine tk 10 ?_;refine rd 11 (fun K hK=> ?_);go_simp
  have hP10:=H10.o;clear H10;generalize (World.setCell wc _ _)=w10 at hP10⊢;have HP10:=hid hP10;have hs10:=(show w10.cell? ⟨b3,0,none⟩=some (.int .i64 ((k:Int)+1))∧w10.cell? ⟨b9,1,none⟩=some (.int .i64 (f:Int)) from⟨cell_of_row w10 b3 0 _ _ _ (hP10.get (k:=b3) (o:= .cells #[.int .i64 ((k:Int)+1),.int .i64 1,.string s,.string s2,.int .i64 fl,.int .i64 fd,.int .i64 off,.int .i64 n,.string data,.int .i64 spare,.bool false] 30 (0,0)) (by simp)),cell_of_row w10 b9 1 _ _ _ (hP10.get (k:=b9) (o:= .cells #[.int .i64 z0,.int .i64 ((f:Nat):Int),.string ⟨z2.toArray⟩,.slice A6 z3.length c6,.int .i64 z4,.int .i64 z5,.int .i64 z6] 47 (0,0)) (by simp))⟩);clear hP10 cp fz;try dsimp only
  refine hK.o _ _ hs10 (fun hHeld=> ?_);clear hK K;try simp only[put]
  refine dn ?_
  (try simp only[Exit.then])
  go_wp2_with fail
  go_meet
  exact⟨Gd.updE D k f i,hid ((HP10.o.less fun q hq=>List.mem_cons_of_mem _ hq).below (Below.refl _ _).drew)⟩
 case rest=>
 obtain⟨D1,hq⟩:=hcut;have HPa:=hid hq.o;clear hq;iterate 2 go_step
 go_cut[] from 110 to 124 (fun wx=>∃D2,Hid (Le x t r Z2 K w wx [(b3,.cells #[.int .i64 ((k:Int)+1),.int .i64 kind,.string s,.string s2,.int .i64 fl,.int .i64 fd,.int .i64 off,.int .i64 n,.string data,.int .i64 spare,.bool false] 30 (0,0)),(p,oPair t x r D2)]))
 case first=>
  have k1:wc.cell? ⟨b3,1,none⟩=some (.int .i64 kind):=cell_of_row wc b3 1 _ _ _ (HPa.o.get (k:=b3) (o:= .cells #[.int .i64 ((k:Int)+1),.int .i64 kind,.string s,.string s2,.int .i64 fl,.int .i64 fd,.int .i64 off,.int .i64 n,.string data,.int .i64 spare,.bool false] 30 (0,0)) (by simp));by_cases hk2:kind=2
  rotate_left
  ·have hkb1:(kind==2)=false:=by rw[beq_eq_false_iff_ne];exact hk2
   clear hk2;go_wp2_with fail
   go_meet
   exact⟨D1,HPa⟩
  obtain⟨f,rfl⟩:∃f:Nat,fd=f:=⟨fd.toNat,by have:=HK3.o hk2;omega⟩;have hf:f<8:=by have:=HK3.o hk2;omega
  subst hk2;have hf0:(0:Int)≤f:=by omega
  have hf8:(f:Int)<8:=by omega
  have Hf:=hid hf;clear hf;go_upto_region 23 with fail
  have h10:Le x t r Z2 K w (wc.setCell ⟨p,4+k*8+f,none⟩ (.int .i64 0)) [(b3,.cells #[.int .i64 ((k:Int)+1),.int .i64 2,.string s,.string s2,.int .i64 fl,.int .i64 (f:Int),.int .i64 off,.int .i64 n,.string data,.int .i64 spare,.bool false] 30 (0,0)),(p,oPair t x r (Gd.updE D1 k f 0))]:=by
   refine HPa.o.set (k:=p) (C:=pairC t x r D1) (ty:=39) (by unfold oPair;simp) _ fun q hq=> ?_;rw[show(pairC t x r D1).setIfInBounds (4+k*8+f) (.int .i64 0)=pairC t x r (Gd.updE D1 k f 0) from fd_cells (i:=0) Hk8.o Hf.o];simp only[List.mem_cons,List.not_mem_nil,or_false]at hq;rcases hq with rfl|rfl
   ·exact Or.inr ⟨by simp,HNe.o.symm⟩
   ·exact Or.inl rfl
  have H10:=hid h10;have cp:=(pair_cells (HPa.o.get (k:=p) (o:=oPair t x r D1) (by simp))).2.2.2.2.1 k f Hk8.o Hf.o;have fz:=(pair_cells (HPa.o.get (k:=p) (o:=oPair t x r D1) (by simp))).2.2.2.2.2 (4+k*8+f);clear h10 k1;have hs9:=(show wc.cell? ⟨b3,0,none⟩=some (.int .i64 ((k:Int)+1))∧wc.cell? ⟨b3,5,none⟩=some (.int .i64 (f:Int)) from⟨cell_of_row wc b3 0 _ _ _ (HPa.o.get (k:=b3) (o:= .cells #[.int .i64 ((k:Int)+1),.int .i64 2,.string s,.string s2,.int .i64 fl,.int .i64 (f:Int),.int .i64 off,.int .i64 n,.string data,.int .i64 spare,.bool false] 30 (0,0)) (by simp)),cell_of_row wc b3 5 _ _ _ (HPa.o.get (k:=b3) (o:= .cells #[.int .i64 ((k:Int)+1),.int .i64 2,.string s,.string s2,.int .i64 fl,.int .i64 (f:Int),.int .i64 off,.int .i64 n,.string data,.int .i64 spare,.bool false] 30 (0,0)) (by simp))⟩)
  refine wp_region_held_drew (S:=(fun W=>W.cell? ⟨b3,0,none⟩=some (.int .i64 ((k:Int)+1))∧W.cell? ⟨b3,5,none⟩=some (.int .i64 (f:Int)))) (by kernel_rfl) ?_ (fun hHeld=> ?_)
  ·exact hs9
  refine tk 0 ?_;refine tk 1 ?_;refine tk 2 ?_;refine tk 3 ?_;refine tk 4 ?_;refine tk 5 ?_;refine tk 6 ?_;refine tk 7 ?_;refine tk 8 ?_;refine tk 9 ?_;refine tk 10 ?_;refine rd 11 (fun K hK=> ?_);go_simp
  have hP10:=H10.o;clear H10;generalize (World.setCell wc _ _)=w10 at hP10⊢;have HP10:=hid hP10;have hs10:=(show w10.cell? ⟨b3,0,none⟩=some (.int .i64 ((k:Int)+1))∧w10.cell? ⟨b3,5,none⟩=some (.int .i64 (f:Int)) from⟨cell_of_row w10 b3 0 _ _ _ (hP10.get (k:=b3) (o:= .cells #[.int .i64 ((k:Int)+1),.int .i64 2,.string s,.string s2,.int .i64 fl,.int .i64 (f:Int),.int .i64 off,.int .i64 n,.string data,.int .i64 spare,.bool false] 30 (0,0)) (by simp)),cell_of_row w10 b3 5 _ _ _ (hP10.get (k:=b3) (o:= .cells #[.int .i64 ((k:Int)+1),.int .i64 2,.string s,.string s2,.int .i64 fl,.int .i64 (f:Int),.int .i64 off,.int .i64 n,.string data,.int .i64 spare,.bool false] 30 (0,0)) (by simp))⟩);clear hP10 cp fz;try dsimp only
  refine hK.o _ _ hs10 (fun hHeld=> ?_);clear hK K;try simp only[put]
  refine dn ?_
  (try simp only[Exit.then])
  go_wp2_with fail
  go_meet
  exact⟨Gd.updE D1 k f 0,hid (HP10.o.below (Below.refl _ _).drew)⟩
 case rest=>
 obtain⟨D2,hq⟩:=hcut;have HPb:=hid hq.o;clear hq;have p1:=(pair_cells (HPb.o.get (k:=p) (o:=oPair t x r D2) (by simp))).2.1;have HCm:=hid (HPb.o.tcommit (by have:=HKk.o.1;omega))
 cases bl with
 |true=>
  go_wp2_with(go_at_call 17;refine HCm.o.mono ?_;rintro e w11 ⟨E2,rfl,hP11⟩)
  go_ret
  exact⟨_,rfl,D2,Z2,hP11.less fun q hq=>by rw[List.mem_singleton.1 hq];simp,HGo.o.1,HGo.o.2⟩
 |false=>
  go_wp2_with fail
  go_ret
  exact⟨_,rfl,D2,Z2,(HPb.o.less fun q hq=>by rw[List.mem_singleton.1 hq];simp).more (by omega),HGo.o.1,HGo.o.2⟩
theorem doesT_any[MemNo]{x t r K g p:Nat}{w:World}(cl kind fl fd off n spare:Int)(s0 s20 data:ByteArray)(dr:Bool)(w0:World)(h:KeptE x t r p K g w w0)(hM:Mx w)(hg:g≤900)(hK:K<500000000000):
 Calls prog 5 #[.pointer (some ⟨p,0,none⟩),akV ⟨cl,kind,s0,s20,fl,fd,off,n,data,spare,dr⟩] w0 (DoesE x t r p (K+2000000) (g+3) w):=by
 obtain⟨D,Z,hP,hG,hF⟩:=h;by_cases hc:cl<1∨8<cl
 ·exact doesT_out cl hc kind fl fd off n spare s0 s20 data dr w0 hP hM hG hg hF hK
 obtain⟨k,rfl⟩:∃k:Nat,cl=(k:Int)+1:=⟨(cl-1).toNat,by omega⟩;have hk:k<8:=by omega
 cases dr with
 |true=>exact doesT_drop k hk kind fl fd off n spare s0 s20 data w0 hP hM hG hg hF hK
 |false=>
  by_cases hl:layerE kind
  ·exact doesT_call k hk kind fl fd off n spare s0 s20 data w0 hP hM hG hg hF hK hl
  ·exact doesT_none k hk kind fl fd off n spare s0 s20 data w0 hP hM hG hg hF hK hl
end Go.Proofs.YtckoobkjpndgnaaGreatDoor
