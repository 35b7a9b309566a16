/- Walks: commonslaw14: does, at a call. -/
import Derived.Test.YtjlpkbhgphjpeaaGreatDoorV32
set_option linter.unusedVariables false
set_option linter.unusedSimpArgs false
set_option linter.unusedSectionVars false
set_option maxHeartbeats 8000000
set_option maxRecDepth 100000
namespace Go.Proofs.YtjlpkbhgphjpeaaGreatDoor
open Go.RowKit
open Lib(hid)
open Go.Proofs.Tryz
open Go.Shelf
attribute [local go_sem] Oper.semAt_some
theorem JT[zg]{x t r K g p:Nat}{S:List UInt8}{M:Gd.Vol}{T:Nat→Gd.Tab}{Z:Pz.Fil}{φ:Nat→Nat}{D:Nat→Nat→Nat}{w:World}(k:Nat)(hk:k<8)(kind fl fd off n spare:Int)(s0 s20 data:ByteArray)(w0:World)(h:PSt x t r S M Z 0 K w w0 [(p,zL t x r D)])(hM:Mx w)(hSim:Gd.Sim M T D Z φ)(hG:Pz.Good g Z)(hg:g≤900)(hF:Pz.Few Z)(hK:K<500000000000)(hl:j6 kind):
 Calls prog 10 #[.pointer (some ⟨p,0,none⟩),akV ⟨(k:Int)+1,kind,s0,s20,fl,fd,off,n,data,spare,false⟩] w0 fun e b=>e= .returned (.bool true)∧yy x t r p (K+2000000) (g+3) w b:=by
 obtain⟨s,hs⟩:=nm (yN s0 60);obtain⟨s2,hs2⟩:=nm (yN s20 60);have hsl:s.size≤100000:=by rw[hs];exact Nat.le_trans (jX _ _) (by omega)
 have hsl2:s2.size≤100000:=by rw[hs2];exact Nat.le_trans (jX _ _) (by omega)
 have HCut:=hid fun W=>yg kind fl fd off n s0 s20 data W;rw[←hs,←hs2]at HCut;unfold zN at HCut;have HP1:=hid (h.alloc #[.int .i64 ((k:Int)+1),.int .i64 kind,.string s0,.string s20,.int .i64 fl,.int .i64 fd,.int .i64 off,.int .i64 n,.string data,.int .i64 spare,.bool false] 29);obtain⟨b3,hb3⟩:=nm w0.heap.size;have hk0:¬((k:Int)+1<1):=by omega
 have hk8:¬(8<(k:Int)+1):=by omega
 have hkk0:(0:Int)≤k:=by omega
 have hkk8:(k:Int)<8:=by omega
 have hwk:IntKind.i64.wrap ((k:Int)+1-1)=(k:Int):=by rw[IntKind.wrap_i64];omega
 have hwk2:IntKind.i64.wrap (k:Int)=(k:Int):=by rw[IntKind.wrap_i64];omega
 have HAsk:=hid fun W (h3:PSt x t r S M Z 0 K w W [(b3,.cells #[.int .i64 ((k:Int)+1),.int .i64 kind,.string s,.string s2,.int .i64 fl,.int .i64 fd,.int .i64 off,.int .i64 n,.string data,.int .i64 spare,.bool false] 29 (0,0)),(p,zL t x r D)])=>Ye k hk kind fl fd off n spare s s2 data false hl hsl hsl2 h3 (p:=p) (by simp) hM hSim hG;unfold akV akC at HAsk;try dsimp only at HAsk
 have HNe:Hid (p≠b3):=hid (by rw[hb3];have:=za (h.get (k:=p) (o:=zL t x r D) (by simp));omega);have Hl:=hid hl;have HQ:Hid (kind<3∨6<kind):=hid (by unfold j6 at hl;omega);clear hl;have HSim:=hid hSim;have HG:=hid hG;have HFw:=hid hF;have HKk:=hid (And.intro hK hg);have Hk8:=hid hk;have HGd:=hid h.good;have Hsl:=hid (And.intro hsl hsl2);have Hb3:=hid hb3;clear h hM hSim hG hg hF hK hs hs2 hk hsl hsl2;unfold akV akC;try dsimp only
 go_enter func10,ntmps10;go_upto_region 1 with fail
 rw[←hb3]at HP1⊢;clear hb3;have hrow:(w0.alloc (.cells #[.int .i64 ((k:Int)+1),.int .i64 kind,.string s0,.string s20,.int .i64 fl,.int .i64 fd,.int .i64 off,.int .i64 n,.string data,.int .i64 spare,.bool false] 29)).heap[b3]? =some (.cells #[.int .i64 ((k:Int)+1),.int .i64 kind,.string s0,.string s20,.int .i64 fl,.int .i64 fd,.int .i64 off,.int .i64 n,.string data,.int .i64 spare,.bool false] 29 (0,0)):=HP1.o.get (k:=b3) (by simp);have HRw:=hid hrow;obtain⟨r0,r1,r2,r3,r4,r5,r6,r7,r8,r9,r10⟩:=qS hrow;clear hrow
 go_upto_region 2 with(first|(go_at_call 13;refine(HCut.o _).mono ?_;rintro e w2 ⟨rfl,hb2⟩;have HP2:=hid (HP1.o.below hb2);have HR2:=HRw.r hb2;clear hb2)|(refine wpList_store_mid rfl 27 _ _ rfl b3 1 #[.int .i64 kind,.string s,.string s2,.int .i64 fl,.int .i64 fd,.int .i64 off,.int .i64 n,.string data] rfl rfl (jC HR2.o (show 9≤11 by decide)) sizeCall14 (yu _ _ _ _ _ _ _ _) ?_;have hp3:=Zt HR2.o (.int .i64 kind) (.string s) (.string s2) (.int .i64 fl) (.int .i64 fd) (.int .i64 off) (.int .i64 n) (.string data);have HP3:=hid (HP2.o.turn (k:=b3) (List.mem_cons_self ..) (zw (F:=fun q=>q=b3) (zo b3 [.int .i64 kind,.string s,.string s2,.int .i64 fl,.int .i64 fd,.int .i64 off,.int .i64 n,.string data] 1 w2) fun q e=>(Option.some.inj e).symm) hp3 [(b3,.cells #[.int .i64 ((k:Int)+1),.int .i64 kind,.string s,.string s2,.int .i64 fl,.int .i64 fd,.int .i64 off,.int .i64 n,.string data,.int .i64 spare,.bool false] 29 (0,0)),(p,zL t x r D)] (ya HNe.o));generalize (World.setCells _ _ _ _)=w3 at hp3 HP3⊢;have HR3:=hid hp3;clear hp3))
 clear r0 r1 r2 r3 r4 r5 r6 r7 r8 r9 r10;have c0:w3.cell? ⟨b3,0,none⟩=some (.int .i64 ((k:Int)+1)):=cell_of_row w3 _ 0 _ _ _ HR3.o;have c10:w3.cell? ⟨b3,10,none⟩=some (.bool false):=cell_of_row w3 _ 10 _ _ _ HR3.o;have HAc:=hid (HAsk.o w3 HP3.o);go_upto_region 10 with(first|(refine wpList_load_row rfl 29 _ rfl b3 rfl 29 #[.int .i64 ((k:Int)+1),.int .i64 kind,.string s,.string s2,.int .i64 fl,.int .i64 fd,.int .i64 off,.int .i64 n,.string data,.int .i64 spare,.bool false] (0,0) _ HR3.o underlying29 rfl infoAsk ?_)|(go_at_call 18;refine HAc.o.mono ?_;rintro e w4 ⟨q,A,c,i,Lq,rfl,hS4,hN4,hcase⟩;obtain⟨q0,q1,q2,q3,q4,q5,q6⟩:=q;have HS4:=hid hS4;have HN4:=hid hN4;have HCs:=hid hcase;clear hS4 hN4 hcase;unfold xf))
 obtain⟨w5,hw5⟩:=nm (w4.alloc (.cells #[.int .i64 q0,.int .i64 q1,.string ⟨q2.toArray⟩,.slice A q3.length c,.int .i64 q4,.int .i64 q5,.int .i64 q6] 56));obtain⟨b6,hb6⟩:=nm w4.heap.size;have HStep:Hid (∀N Z cc Ls,PSt x t r S N Z cc K w w4 Ls→PSt x t r S N Z cc K w w5 ((b6,.cells #[.int .i64 q0,.int .i64 q1,.string ⟨q2.toArray⟩,.slice A q3.length c,.int .i64 q4,.int .i64 q5,.int .i64 q6] 56 (0,0))::Ls)):=hid fun N Z cc Ls h4=>by
  rw[hw5,hb6];exact h4.alloc _ _
 have HW5:=hid hw5;rw[←HW5.o,←hb6];have HFa:Hid (∀N Z2 cc Ls W,PSt x t r S N Z2 cc K w W Ls→(b3,Obj.cells #[.int .i64 ((k:Int)+1),.int .i64 kind,.string s,.string s2,.int .i64 fl,.int .i64 fd,.int .i64 off,.int .i64 n,.string data,.int .i64 spare,.bool false] 29 (0,0))∈Ls→(p,zL t x r D)∈Ls→W.cell? ⟨p,3,none⟩=some (.pointer (some ⟨r,0,none⟩))∧W.cell? ⟨b3,0,none⟩=some (.int .i64 ((k:Int)+1))∧W.cell? ⟨b3,1,none⟩=some (.int .i64 kind)∧W.cell? ⟨b3,2,none⟩=some (.string s)∧W.cell? ⟨b3,3,none⟩=some (.string s2)∧W.cell? ⟨b3,4,none⟩=some (.int .i64 fl)∧W.cell? ⟨b3,5,none⟩=some (.int .i64 fd)∧W.cell? ⟨b3,6,none⟩=some (.int .i64 off)∧W.cell? ⟨b3,7,none⟩=some (.int .i64 n)∧W.cell? ⟨b3,8,none⟩=some (.string data)):=hid fun N Z2 cc Ls W h4 m1 m2=>by
  obtain⟨r0,r1,r2,r3,r4,r5,r6,r7,r8,r9,r10⟩:=qS (h4.get m1);exact⟨(zE (h4.get m2)).2.2.2.1,r0,r1,r2,r3,r4,r5,r6,r7,r8⟩
 clear hw5 hb6 c0 c10;rcases HCs.o with⟨e1,e2,e3,N,c2,hP4⟩|⟨e1,e2,e3,e4,hP4⟩|⟨e1,e2,e3,e4,N,T',φ',hP4,hS'⟩
 ·
  have e1:q0=18:=e1;subst e1;have HP5:=hid (HStep.o _ _ _ _ hP4);have g0:w5.cell? ⟨b6,0,none⟩=some (.int .i64 18):=cell_of_row w5 _ 0 _ _ _ (HP5.o.get (k:=b6) (List.mem_cons_self ..));have p1:=(zE (HP5.o.get (k:=p) (o:=zL t x r D) (by simp))).2.1;have HDr:=hid (HP5.o.tdrop HGd.o);clear hP4 e3 e2;go_wp2_with(go_at_call 20;refine HDr.o.mono ?_;rintro e w6 ⟨rfl,hP6⟩)
  go_ret
  exact⟨rfl,S,M,T,D,Z,φ,(hP6.less fun q hq=>by rw[List.mem_singleton.1 hq];simp).more (Nat.le_refl _) (by omega),HSim.o,HG.o.mono (by omega),HFw.o⟩
 ·
  have e1:q0≠0:=e1;have e2:q0≠18:=e2;have hb18:(q0==18)=false:=by simp[e2]
  have hb0:(q0 !=0)=true:=by simp[e1]
  have hd:Pz.doA Z ((k:Int)+1) kind s.data.toList s2.data.toList fl fd off n data.data.toList=(Z,⟨q0,q1,q2,q3,q4,q5,q6⟩):=e4;clear e1 e2 e3 e4;have HP4:=hid hP4;have HP5:=hid (HStep.o _ _ _ _ hP4);have g0:w5.cell? ⟨b6,0,none⟩=some (.int .i64 q0):=cell_of_row w5 _ 0 _ _ _ (HP5.o.get (k:=b6) (List.mem_cons_self ..));have HZa:=hid (HP5.o.alloc #[.int .i64 0,.int .i64 0,.string ⟨#[]⟩,.slice none 0 0,.int .i64 0,.int .i64 0,.int .i64 0] 56);have HDo:=hid ((HP5.o.below (Below.refl _ _).drew).rdo ((k:Int)+1) kind fl fd off n s s2 data Hsl.o.1 Hsl.o.2 HQ.o (HG.o.mono (by have:=HKk.o.2;omega)));have HDa:=hid ((HZa.o.below (Below.refl _ _).drew).rdo ((k:Int)+1) kind fl fd off n s s2 data Hsl.o.1 Hsl.o.2 HQ.o (HG.o.mono (by have:=HKk.o.2;omega)));have Hln:Hid (q3.length≤1000000):=hid (by
   have h1:=Jo Z ((k:Int)+1) kind s.data.toList s2.data.toList fl fd off n data.data.toList (by have h2:=Hl.o;unfold j6 at h2;omega);rw[hd]at h1;have h3:=HG.o.e;have h4:=HKk.o.2;exact Nat.le_trans h1 (Nat.le_trans h3 (by omega)))
  rw[hd]at HDo HDa;unfold zN xf at HDo HDa;clear hP4 hd;go_upto_region 15 with fail
  clear g0;go_cut[9] from 74 to 83 (fun z wx=>∃b9 A6 c6,z= .pointer (some ⟨b9,0,none⟩)∧Hid (PSt x t r S M Z 0 K w wx ((b9,.cells #[.int .i64 q0,.int .i64 q1,.string ⟨q2.toArray⟩,.slice A6 q3.length c6,.int .i64 q4,.int .i64 q5,.int .i64 q6] 56 (0,0))::(b6,.cells #[.int .i64 q0,.int .i64 q1,.string ⟨q2.toArray⟩,.slice A q3.length c,.int .i64 q4,.int .i64 q5,.int .i64 q6] 56 (0,0))::(Lq++[(b3,.cells #[.int .i64 ((k:Int)+1),.int .i64 kind,.string s,.string s2,.int .i64 fl,.int .i64 fd,.int .i64 off,.int .i64 n,.string data,.int .i64 spare,.bool false] 29 (0,0)),(p,zL t x r D)]))∧jb wx 0 A6 q3))
  case first=>
   have hs0:=HFa.o _ _ _ _ w5 HP5.o (by simp) (by simp);refine wp_region_held_drew (S:=(fun W=>W.cell? ⟨p,3,none⟩=some (.pointer (some ⟨r,0,none⟩))∧W.cell? ⟨b3,0,none⟩=some (.int .i64 ((k:Int)+1))∧W.cell? ⟨b3,1,none⟩=some (.int .i64 kind)∧W.cell? ⟨b3,2,none⟩=some (.string s)∧W.cell? ⟨b3,3,none⟩=some (.string s2)∧W.cell? ⟨b3,4,none⟩=some (.int .i64 fl)∧W.cell? ⟨b3,5,none⟩=some (.int .i64 fd)∧W.cell? ⟨b3,6,none⟩=some (.int .i64 off)∧W.cell? ⟨b3,7,none⟩=some (.int .i64 n)∧W.cell? ⟨b3,8,none⟩=some (.string data))) (by kernel_rfl) ?_ (fun hHeld=> ?_)
   ·exact hs0
   refine tk 0 ?_;refine tk 1 ?_;refine tk 2 ?_;refine tk 3 ?_;refine tk 4 ?_;refine tk 5 ?_;refine tk 6 ?_;refine tk 7 ?_;refine wpAnyH_ready (rs:=[8,9]) (by kernel_rfl) (by simp) ?_;refine AllReadyH.cons (o:=_) rfl (fun K hK=> ?_) (AllReadyH.cons (o:=_) rfl (fun K hK=> ?_) AllReadyH.nil)
   ·go_simp
    refine HDo.o.mono ?_;rintro e w6 ⟨A6,c6,rfl,hS6,hP6⟩;have HP6:=hid hP6;have HS6:=hid hS6;have hs6:=HFa.o _ _ _ _ w6 hP6 (by simp) (by simp);clear hS6 hP6;try dsimp only
    refine hK.o _ _ hs6 (fun hHeld=> ?_);clear hK K;try simp only[put]
    refine rd 9 (fun K hK=> ?_);go_simp
    have hs7:=HFa.o _ _ _ _ _ (HP6.o.alloc #[.int .i64 0,.int .i64 0,.string ⟨#[]⟩,.slice none 0 0,.int .i64 0,.int .i64 0,.int .i64 0] 56) (by simp) (by simp);try dsimp only
    refine hK.o _ _ hs7 (fun hHeld=> ?_);clear hK K;try simp only[put]
    refine rd 10 (fun K hK=> ?_);refine wp_store_mid 56 _ _ rfl w6.heap.size 0 #[.int .i64 q0,.int .i64 q1,.string ⟨q2.toArray⟩,.slice A6 q3.length c6,.int .i64 q4,.int .i64 q5,.int .i64 q6] rfl rfl (zd (heap_alloc_new _ _) rfl) sizeRep (jr _ _ _ _ _ _ _ _ _) ?_;obtain⟨hbw,hbg⟩:=zi w6 #[.int .i64 0,.int .i64 0,.string ⟨#[]⟩,.slice none 0 0,.int .i64 0,.int .i64 0,.int .i64 0] 56 [.int .i64 q0,.int .i64 q1,.string ⟨q2.toArray⟩,.slice A6 q3.length c6,.int .i64 q4,.int .i64 q5,.int .i64 q6] rfl;generalize (World.setCells _ _ _ _)=w8 at hbw hbg⊢;have HS8:=hid ((HS6.o.keep hbw).low (Nat.zero_le _));have HP8:=hid (HP6.o.new hbw (Nat.le_refl _) hbg);have hs8:=HFa.o _ _ _ _ w8 HP8.o (by simp) (by simp);clear hbw hbg;try dsimp only
    refine hK.o _ _ hs8 (fun hHeld=> ?_);clear hK K;try simp only[put]
    refine dn ?_
    (try simp only[Exit.then])
    go_wp2_with fail
    go_meet
    exact⟨_,_,_,rfl,hid ⟨HP8.o,HS8.o⟩⟩
   ·go_simp
    have hs6:=HFa.o _ _ _ _ _ HZa.o (by simp) (by simp);try dsimp only
    refine hK.o _ _ hs6 (fun hHeld=> ?_);clear hK K;try simp only[put]
    refine rd 8 (fun K hK=> ?_);go_simp
    refine HDa.o.mono ?_;rintro e w7 ⟨A6,c6,rfl,hS7,hP7⟩;have HP7:=hid hP7;have HS7:=hid hS7;have hs7:=HFa.o _ _ _ _ w7 hP7 (by simp) (by simp);clear hS7 hP7;try dsimp only
    refine hK.o _ _ hs7 (fun hHeld=> ?_);clear hK K;try simp only[put]
    refine rd 10 (fun K hK=> ?_);refine wp_store_mid 56 _ _ rfl w5.heap.size 0 #[.int .i64 q0,.int .i64 q1,.string ⟨q2.toArray⟩,.slice A6 q3.length c6,.int .i64 q4,.int .i64 q5,.int .i64 q6] rfl rfl (zd (HP7.o.get (List.mem_cons_self ..)) rfl) sizeRep (jr _ _ _ _ _ _ _ _ _) ?_
    have hP8:=HP7.o.setAll (List.mem_cons_self ..) (vs:=[.int .i64 q0,.int .i64 q1,.string ⟨q2.toArray⟩,.slice A6 q3.length c6,.int .i64 q4,.int .i64 q5,.int .i64 q6]) rfl (List.cons (w5.heap.size,.cells #[.int .i64 q0,.int .i64 q1,.string ⟨q2.toArray⟩,.slice A6 q3.length c6,.int .i64 q4,.int .i64 q5,.int .i64 q6] 56 (0,0)) (List.cons (b6,.cells #[.int .i64 q0,.int .i64 q1,.string ⟨q2.toArray⟩,.slice A q3.length c,.int .i64 q4,.int .i64 q5,.int .i64 q6] 56 (0,0)) (Lq++[(b3,.cells #[.int .i64 ((k:Int)+1),.int .i64 kind,.string s,.string s2,.int .i64 fl,.int .i64 fd,.int .i64 off,.int .i64 n,.string data,.int .i64 spare,.bool false] 29 (0,0)),(p,zL t x r D)]))) (fun q hq=>(List.mem_cons.1 hq).imp id fun e=>⟨List.mem_cons_of_mem _ e,Nat.ne_of_lt (HP5.o.lts q e)⟩)
    have hS8:jb (w7.setCells w5.heap.size 0 [.int .i64 q0,.int .i64 q1,.string ⟨q2.toArray⟩,.slice A6 q3.length c6,.int .i64 q4,.int .i64 q5,.int .i64 q6]) 0 A6 q3:=(HS7.o.only (zw (F:=fun q=>q=w5.heap.size) (zo w5.heap.size [.int .i64 q0,.int .i64 q1,.string ⟨q2.toArray⟩,.slice A6 q3.length c6,.int .i64 q4,.int .i64 q5,.int .i64 q6] 0 w7) fun q e=>(Option.some.inj e).symm) (fun j hj _ e=>Nat.lt_irrefl _ (Nat.lt_of_lt_of_le (za (heap_alloc_new w5 _)) (Nat.le_trans hj (Nat.le_of_eq e))))).low (Nat.zero_le _);generalize (World.setCells _ _ _ _)=w8 at hP8 hS8⊢;have HP8:=hid hP8;have HS8:=hid hS8;have hs8:=HFa.o _ _ _ _ w8 hP8 (by simp) (by simp);clear hP8 hS8;try dsimp only
    refine hK.o _ _ hs8 (fun hHeld=> ?_);clear hK K;try simp only[put]
    refine dn ?_
    (try simp only[Exit.then])
    go_wp2_with fail
    go_meet
    exact⟨_,_,_,rfl,hid ⟨HP8.o,HS8.o⟩⟩
  case rest=>
  obtain⟨b9,A6,c6,rfl,hc⟩:=hcut;have HP8:=hid hc.o.1;have HG6:=hid (HP8.o.get (k:=b6) (o:= .cells #[.int .i64 q0,.int .i64 q1,.string ⟨q2.toArray⟩,.slice A q3.length c,.int .i64 q4,.int .i64 q5,.int .i64 q6] 56 (0,0)) (by simp));have HG9:=hid (HP8.o.get (k:=b9) (o:= .cells #[.int .i64 q0,.int .i64 q1,.string ⟨q2.toArray⟩,.slice A6 q3.length c6,.int .i64 q4,.int .i64 q5,.int .i64 q6] 56 (0,0)) (by simp));have HSame:=hid (xP ⟨q0,q1,q2,q3,q4,q5,q6⟩ A A6 c c6 0 wc Hln.o (HS4.o.own (HN4.o.imp id fun⟨nb,o,ob,m1,m2⟩=>⟨nb,o,ob,m1,List.mem_append_left _ m2,List.mem_cons_of_mem _ (List.mem_cons_of_mem _ (List.mem_append_left _ m2))⟩) HP4.o HP8.o) hc.o.2);unfold xf at HSame;clear hc
  go_wp2_with(first|(refine wpList_load_row rfl 56 _ rfl b6 rfl 56 #[.int .i64 q0,.int .i64 q1,.string ⟨q2.toArray⟩,.slice A q3.length c,.int .i64 q4,.int .i64 q5,.int .i64 q6] (0,0) _ HG6.o underlying56 rfl infoRep ?_)|(refine wpList_load_row rfl 56 _ rfl b9 rfl 56 #[.int .i64 q0,.int .i64 q1,.string ⟨q2.toArray⟩,.slice A6 q3.length c6,.int .i64 q4,.int .i64 q5,.int .i64 q6] (0,0) _ HG9.o underlying56 rfl infoRep ?_)|(go_at_call 38;refine HSame.o.mono ?_;rintro e w9 ⟨rfl,hb9⟩;have HP9:=hid (HP8.o.below hb9);have g0:w9.cell? ⟨b6,0,none⟩=some (.int .i64 q0):=cell_of_row w9 _ 0 _ _ _ (HP9.o.get (k:=b6) (o:= .cells #[.int .i64 q0,.int .i64 q1,.string ⟨q2.toArray⟩,.slice A q3.length c,.int .i64 q4,.int .i64 q5,.int .i64 q6] 56 (0,0)) (by simp));have p1:=(zE (HP9.o.get (k:=p) (o:=zL t x r D) (by simp))).2.1;have HDr:=hid (HP9.o.tdrop HGd.o);clear hb9)|(go_at_call 20;refine HDr.o.mono ?_;rintro e w10 ⟨rfl,hP10⟩))
  go_ret
  exact⟨rfl,S,M,T,D,Z,φ,(hP10.less fun q hq=>by rw[List.mem_singleton.1 hq];simp).more (Nat.le_refl _) (by omega),HSim.o,HG.o.mono (by omega),HFw.o⟩
 ·
  have e1:q0=0:=e1;subst e1;obtain⟨Z2,hd⟩:∃Z2,Pz.doA Z ((k:Int)+1) kind s.data.toList s2.data.toList fl fd off n data.data.toList=(Z2,⟨0,q1,q2,q3,q4,q5,q6⟩):=⟨_,Prod.ext rfl e2⟩;have HE3:=hid e3;have HE4:=hid e4;have HSi:Hid (Gd.Sim N T' (uF D kind k fd i) Z2 φ'):=hid (by
   have h1:=hS';unfold doK at h1;rw[show Pz.doA Z ((k:Int)+1) _ _ _ _ _ _ _ _=(Z2,_) from hd]at h1;exact h1)
  have HGo:Hid (Pz.Good (g+3) Z2∧Pz.Few Z2):=hid (by
   have h1:=Pz.do_good HG.o HFw.o ((k:Int)+1) kind s.data.toList s2.data.toList fl fd off n data.data.toList;rw[hd]at h1;exact h1)
  clear e2 e3 e4 hS';have HP4:=hid hP4;have HP5:=hid (HStep.o _ _ _ _ hP4);have g0:w5.cell? ⟨b6,0,none⟩=some (.int .i64 0):=cell_of_row w5 _ 0 _ _ _ (HP5.o.get (k:=b6) (List.mem_cons_self ..));have HZa:=hid (HP5.o.alloc #[.int .i64 0,.int .i64 0,.string ⟨#[]⟩,.slice none 0 0,.int .i64 0,.int .i64 0,.int .i64 0] 56);have HDo:=hid ((HP5.o.below (Below.refl _ _).drew).rdo ((k:Int)+1) kind fl fd off n s s2 data Hsl.o.1 Hsl.o.2 HQ.o (HG.o.mono (by have:=HKk.o.2;omega)));have HDa:=hid ((HZa.o.below (Below.refl _ _).drew).rdo ((k:Int)+1) kind fl fd off n s s2 data Hsl.o.1 Hsl.o.2 HQ.o (HG.o.mono (by have:=HKk.o.2;omega)));have Hln:Hid (q3.length≤1000000):=hid (by
   have h1:=Jo Z ((k:Int)+1) kind s.data.toList s2.data.toList fl fd off n data.data.toList (by have h2:=Hl.o;unfold j6 at h2;omega);rw[hd]at h1;have h3:=HG.o.e;have h4:=HKk.o.2;exact Nat.le_trans h1 (Nat.le_trans h3 (by omega)))
  rw[hd]at HDo HDa;unfold zN xf at HDo HDa;clear hP4 hd;go_upto_region 15 with fail
  clear g0;go_cut[9] from 74 to 83 (fun z wx=>∃b9 A6 c6,z= .pointer (some ⟨b9,0,none⟩)∧Hid (PSt x t r S N Z2 57 K w wx ((b9,.cells #[.int .i64 0,.int .i64 q1,.string ⟨q2.toArray⟩,.slice A6 q3.length c6,.int .i64 q4,.int .i64 q5,.int .i64 q6] 56 (0,0))::(b6,.cells #[.int .i64 0,.int .i64 q1,.string ⟨q2.toArray⟩,.slice A q3.length c,.int .i64 q4,.int .i64 q5,.int .i64 q6] 56 (0,0))::(Lq++[(b3,.cells #[.int .i64 ((k:Int)+1),.int .i64 kind,.string s,.string s2,.int .i64 fl,.int .i64 fd,.int .i64 off,.int .i64 n,.string data,.int .i64 spare,.bool false] 29 (0,0)),(p,zL t x r D)]))∧jb wx 0 A6 q3))
  case first=>
   have hs0:=HFa.o _ _ _ _ w5 HP5.o (by simp) (by simp);refine wp_region_held_drew (S:=(fun W=>W.cell? ⟨p,3,none⟩=some (.pointer (some ⟨r,0,none⟩))∧W.cell? ⟨b3,0,none⟩=some (.int .i64 ((k:Int)+1))∧W.cell? ⟨b3,1,none⟩=some (.int .i64 kind)∧W.cell? ⟨b3,2,none⟩=some (.string s)∧W.cell? ⟨b3,3,none⟩=some (.string s2)∧W.cell? ⟨b3,4,none⟩=some (.int .i64 fl)∧W.cell? ⟨b3,5,none⟩=some (.int .i64 fd)∧W.cell? ⟨b3,6,none⟩=some (.int .i64 off)∧W.cell? ⟨b3,7,none⟩=some (.int .i64 n)∧W.cell? ⟨b3,8,none⟩=some (.string data))) (by kernel_rfl) ?_ (fun hHeld=> ?_)
   ·exact hs0
   refine tk 0 ?_;refine tk 1 ?_;refine tk 2 ?_;refine tk 3 ?_;refine tk 4 ?_;refine tk 5 ?_;refine tk 6 ?_;refine tk 7 ?_;refine wpAnyH_ready (rs:=[8,9]) (by kernel_rfl) (by simp) ?_;refine AllReadyH.cons (o:=_) rfl (fun K hK=> ?_) (AllReadyH.cons (o:=_) rfl (fun K hK=> ?_) AllReadyH.nil)
   ·go_simp
    refine HDo.o.mono ?_;rintro e w6 ⟨A6,c6,rfl,hS6,hP6⟩;have HP6:=hid hP6;have HS6:=hid hS6;have hs6:=HFa.o _ _ _ _ w6 hP6 (by simp) (by simp);clear hS6 hP6;try dsimp only
    refine hK.o _ _ hs6 (fun hHeld=> ?_);clear hK K;try simp only[put]
    refine rd 9 (fun K hK=> ?_);go_simp
    have hs7:=HFa.o _ _ _ _ _ (HP6.o.alloc #[.int .i64 0,.int .i64 0,.string ⟨#[]⟩,.slice none 0 0,.int .i64 0,.int .i64 0,.int .i64 0] 56) (by simp) (by simp);try dsimp only
    refine hK.o _ _ hs7 (fun hHeld=> ?_);clear hK K;try simp only[put]
    refine rd 10 (fun K hK=> ?_);refine wp_store_mid 56 _ _ rfl w6.heap.size 0 #[.int .i64 0,.int .i64 q1,.string ⟨q2.toArray⟩,.slice A6 q3.length c6,.int .i64 q4,.int .i64 q5,.int .i64 q6] rfl rfl (zd (heap_alloc_new _ _) rfl) sizeRep (jr _ _ _ _ _ _ _ _ _) ?_;obtain⟨hbw,hbg⟩:=zi w6 #[.int .i64 0,.int .i64 0,.string ⟨#[]⟩,.slice none 0 0,.int .i64 0,.int .i64 0,.int .i64 0] 56 [.int .i64 0,.int .i64 q1,.string ⟨q2.toArray⟩,.slice A6 q3.length c6,.int .i64 q4,.int .i64 q5,.int .i64 q6] rfl;generalize (World.setCells _ _ _ _)=w8 at hbw hbg⊢;have HS8:=hid ((HS6.o.keep hbw).low (Nat.zero_le _));have HP8:=hid (HP6.o.new hbw (Nat.le_refl _) hbg);have hs8:=HFa.o _ _ _ _ w8 HP8.o (by simp) (by simp);clear hbw hbg;try dsimp only
    refine hK.o _ _ hs8 (fun hHeld=> ?_);clear hK K;try simp only[put]
    refine dn ?_
    (try simp only[Exit.then])
    go_wp2_with fail
    go_meet
    exact⟨_,_,_,rfl,hid ⟨HP8.o,HS8.o⟩⟩
   ·go_simp
    have hs6:=HFa.o _ _ _ _ _ HZa.o (by simp) (by simp);try dsimp only
    refine hK.o _ _ hs6 (fun hHeld=> ?_);clear hK K;try simp only[put]
    refine rd 8 (fun K hK=> ?_);go_simp
    refine HDa.o.mono ?_;rintro e w7 ⟨A6,c6,rfl,hS7,hP7⟩;have HP7:=hid hP7;have HS7:=hid hS7;have hs7:=HFa.o _ _ _ _ w7 hP7 (by simp) (by simp);clear hS7 hP7;try dsimp only
    refine hK.o _ _ hs7 (fun hHeld=> ?_);clear hK K;try simp only[put]
    refine rd 10 (fun K hK=> ?_);refine wp_store_mid 56 _ _ rfl w5.heap.size 0 #[.int .i64 0,.int .i64 q1,.string ⟨q2.toArray⟩,.slice A6 q3.length c6,.int .i64 q4,.int .i64 q5,.int .i64 q6] rfl rfl (zd (HP7.o.get (List.mem_cons_self ..)) rfl) sizeRep (jr _ _ _ _ _ _ _ _ _) ?_
    have hP8:=HP7.o.setAll (List.mem_cons_self ..) (vs:=[.int .i64 0,.int .i64 q1,.string ⟨q2.toArray⟩,.slice A6 q3.length c6,.int .i64 q4,.int .i64 q5,.int .i64 q6]) rfl (List.cons (w5.heap.size,.cells #[.int .i64 0,.int .i64 q1,.string ⟨q2.toArray⟩,.slice A6 q3.length c6,.int .i64 q4,.int .i64 q5,.int .i64 q6] 56 (0,0)) (List.cons (b6,.cells #[.int .i64 0,.int .i64 q1,.string ⟨q2.toArray⟩,.slice A q3.length c,.int .i64 q4,.int .i64 q5,.int .i64 q6] 56 (0,0)) (Lq++[(b3,.cells #[.int .i64 ((k:Int)+1),.int .i64 kind,.string s,.string s2,.int .i64 fl,.int .i64 fd,.int .i64 off,.int .i64 n,.string data,.int .i64 spare,.bool false] 29 (0,0)),(p,zL t x r D)]))) (fun q hq=>(List.mem_cons.1 hq).imp id fun e=>⟨List.mem_cons_of_mem _ e,Nat.ne_of_lt (HP5.o.lts q e)⟩)
    have hS8:jb (w7.setCells w5.heap.size 0 [.int .i64 0,.int .i64 q1,.string ⟨q2.toArray⟩,.slice A6 q3.length c6,.int .i64 q4,.int .i64 q5,.int .i64 q6]) 0 A6 q3:=(HS7.o.only (zw (F:=fun q=>q=w5.heap.size) (zo w5.heap.size [.int .i64 0,.int .i64 q1,.string ⟨q2.toArray⟩,.slice A6 q3.length c6,.int .i64 q4,.int .i64 q5,.int .i64 q6] 0 w7) fun q e=>(Option.some.inj e).symm) (fun j hj _ e=>Nat.lt_irrefl _ (Nat.lt_of_lt_of_le (za (heap_alloc_new w5 _)) (Nat.le_trans hj (Nat.le_of_eq e))))).low (Nat.zero_le _);generalize (World.setCells _ _ _ _)=w8 at hP8 hS8⊢;have HP8:=hid hP8;have HS8:=hid hS8;have hs8:=HFa.o _ _ _ _ w8 hP8 (by simp) (by simp);clear hP8 hS8;try dsimp only
    refine hK.o _ _ hs8 (fun hHeld=> ?_);clear hK K;try simp only[put]
    refine dn ?_
    (try simp only[Exit.then])
    go_wp2_with fail
    go_meet
    exact⟨_,_,_,rfl,hid ⟨HP8.o,HS8.o⟩⟩
  case rest=>
  obtain⟨b9,A6,c6,rfl,hc⟩:=hcut;have HP8:=hid hc.o.1;have HG6:=hid (HP8.o.get (k:=b6) (o:= .cells #[.int .i64 0,.int .i64 q1,.string ⟨q2.toArray⟩,.slice A q3.length c,.int .i64 q4,.int .i64 q5,.int .i64 q6] 56 (0,0)) (by simp));have HG9:=hid (HP8.o.get (k:=b9) (o:= .cells #[.int .i64 0,.int .i64 q1,.string ⟨q2.toArray⟩,.slice A6 q3.length c6,.int .i64 q4,.int .i64 q5,.int .i64 q6] 56 (0,0)) (by simp));have HSame:=hid (xP ⟨0,q1,q2,q3,q4,q5,q6⟩ A A6 c c6 0 wc Hln.o (HS4.o.own (HN4.o.imp id fun⟨nb,o,ob,m1,m2⟩=>⟨nb,o,ob,m1,List.mem_append_left _ m2,List.mem_cons_of_mem _ (List.mem_cons_of_mem _ (List.mem_append_left _ m2))⟩) HP4.o HP8.o) hc.o.2);unfold xf at HSame;clear hc;by_cases hk1:kind=1
  ·obtain⟨f,hfe,hq,hf⟩:∃f,f=Gd.freeD D k∧q1=((f:Nat):Int)∧f<8:=⟨_,rfl,HE3.o hk1⟩;subst hk1;subst hq;have HSj:Hid (Gd.Sim N T' (Gd.updD D k f i) Z2 φ'):=hid (by
    have h1:=HSi.o;unfold uF at h1;rw[if_pos rfl,←hfe]at h1;exact h1)
   clear hfe HSi HE3 HE4;have hb9p:b9≠p:=fun e=>by
    have h1:=HP8.o.get (k:=b9) (o:= .cells #[.int .i64 0,.int .i64 ((f:Nat):Int),.string ⟨q2.toArray⟩,.slice A6 q3.length c6,.int .i64 q4,.int .i64 q5,.int .i64 q6] 56 (0,0)) (by simp);have h2:=HP8.o.get (k:=p) (o:=zL t x r D) (by simp);rw[e,h2]at h1;unfold zL at h1;injection Option.some.inj h1 with _ e2
    exact absurd e2 (by decide)
   have Hb9p:=hid hb9p;have hf0:(0:Int)≤f:=by omega
   have hf8:(f:Int)<8:=by omega
   have Hf:=hid hf;clear hb9p hf
   go_upto_region 21 with(first|(refine wpList_load_row rfl 56 _ rfl b6 rfl 56 #[.int .i64 0,.int .i64 ((f:Nat):Int),.string ⟨q2.toArray⟩,.slice A q3.length c,.int .i64 q4,.int .i64 q5,.int .i64 q6] (0,0) _ HG6.o underlying56 rfl infoRep ?_)|(refine wpList_load_row rfl 56 _ rfl b9 rfl 56 #[.int .i64 0,.int .i64 ((f:Nat):Int),.string ⟨q2.toArray⟩,.slice A6 q3.length c6,.int .i64 q4,.int .i64 q5,.int .i64 q6] (0,0) _ HG9.o underlying56 rfl infoRep ?_)|(go_at_call 38;refine HSame.o.mono ?_;rintro e w9 ⟨rfl,hb9⟩;have HP9:=hid (HP8.o.below hb9);have g0:w9.cell? ⟨b6,0,none⟩=some (.int .i64 0):=cell_of_row w9 _ 0 _ _ _ (HP9.o.get (k:=b6) (o:= .cells #[.int .i64 0,.int .i64 ((f:Nat):Int),.string ⟨q2.toArray⟩,.slice A q3.length c,.int .i64 q4,.int .i64 q5,.int .i64 q6] 56 (0,0)) (by simp));have p1:=(zE (HP9.o.get (k:=p) (o:=zL t x r D) (by simp))).2.1;have k1:=(HFa.o _ _ _ _ w9 HP9.o (by simp) (by simp)).2.2.1;clear hb9))
   have h10:PSt x t r S N Z2 57 K w (w9.setCell ⟨p,4+k*8+f,none⟩ (.int .i64 (i:Nat))) (List.cons (b9,.cells #[.int .i64 0,.int .i64 ((f:Nat):Int),.string ⟨q2.toArray⟩,.slice A6 q3.length c6,.int .i64 q4,.int .i64 q5,.int .i64 q6] 56 (0,0)) (List.cons (b3,.cells #[.int .i64 ((k:Int)+1),.int .i64 1,.string s,.string s2,.int .i64 fl,.int .i64 fd,.int .i64 off,.int .i64 n,.string data,.int .i64 spare,.bool false] 29 (0,0)) [(p,zL t x r (Gd.updD D k f i))])):=by
    refine HP9.o.set (k:=p) (C:=js t x r D) (ty:=43) (by unfold zL;simp) _ fun q hq=> ?_;rw[show(js t x r D).setIfInBounds (4+k*8+f) (.int .i64 (i:Nat))=js t x r (Gd.updD D k f i) from vU Hk8.o Hf.o];simp only[List.mem_cons,List.not_mem_nil,or_false]at hq;rcases hq with rfl|rfl|rfl
    ·exact Or.inr ⟨by simp,Hb9p.o⟩
    ·exact Or.inr ⟨by simp,HNe.o.symm⟩
    ·exact Or.inl rfl
   have H10:=hid h10;have cp:=(zE (HP9.o.get (k:=p) (o:=zL t x r D) (by simp))).2.2.2.2.1 k f Hk8.o Hf.o;have fz:=(zE (HP9.o.get (k:=p) (o:=zL t x r D) (by simp))).2.2.2.2.2 (4+k*8+f);clear h10 p1 k1 g0;have hs9:=(show w9.cell? ⟨b3,0,none⟩=some (.int .i64 ((k:Int)+1))∧w9.cell? ⟨b9,1,none⟩=some (.int .i64 (f:Int)) from⟨cell_of_row w9 b3 0 _ _ _ (HP9.o.get (k:=b3) (o:= .cells #[.int .i64 ((k:Int)+1),.int .i64 1,.string s,.string s2,.int .i64 fl,.int .i64 fd,.int .i64 off,.int .i64 n,.string data,.int .i64 spare,.bool false] 29 (0,0)) (by simp)),cell_of_row w9 b9 1 _ _ _ (HP9.o.get (k:=b9) (o:= .cells #[.int .i64 0,.int .i64 ((f:Nat):Int),.string ⟨q2.toArray⟩,.slice A6 q3.length c6,.int .i64 q4,.int .i64 q5,.int .i64 q6] 56 (0,0)) (by simp))⟩)
   refine wp_region_held_drew (S:=(fun W=>W.cell? ⟨b3,0,none⟩=some (.int .i64 ((k:Int)+1))∧W.cell? ⟨b9,1,none⟩=some (.int .i64 (f:Int)))) (by kernel_rfl) ?_ (fun hHeld=> ?_)
   ·exact hs9
   refine tk 0 ?_;refine tk 1 ?_;refine tk 2 ?_;refine tk 3 ?_;refine tk 4 ?_;refine tk 5 ?_;refine tk 6 ?_;refine tk 7 ?_;refine tk 8 ?_;refine tk 9 ?_;refine tk 10 ?_;refine rd 11 (fun K hK=> ?_);go_simp
   have hP10:=H10.o;clear H10;generalize (World.setCell w9 _ _)=w10 at hP10⊢;have HP10:=hid hP10;have hs10:=(show w10.cell? ⟨b3,0,none⟩=some (.int .i64 ((k:Int)+1))∧w10.cell? ⟨b9,1,none⟩=some (.int .i64 (f:Int)) from⟨cell_of_row w10 b3 0 _ _ _ (hP10.get (k:=b3) (o:= .cells #[.int .i64 ((k:Int)+1),.int .i64 1,.string s,.string s2,.int .i64 fl,.int .i64 fd,.int .i64 off,.int .i64 n,.string data,.int .i64 spare,.bool false] 29 (0,0)) (by simp)),cell_of_row w10 b9 1 _ _ _ (hP10.get (k:=b9) (o:= .cells #[.int .i64 0,.int .i64 ((f:Nat):Int),.string ⟨q2.toArray⟩,.slice A6 q3.length c6,.int .i64 q4,.int .i64 q5,.int .i64 q6] 56 (0,0)) (by simp))⟩);clear hP10 cp fz;try dsimp only
   refine hK.o _ _ hs10 (fun hHeld=> ?_);clear hK K;try simp only[put]
   refine dn ?_
   (try simp only[Exit.then])
   have p1:=(zE (HP10.o.get (k:=p) (o:=zL t x r (Gd.updD D k f i)) (by simp))).2.1;have k1:w10.cell? ⟨b3,1,none⟩=some (.int .i64 1):=cell_of_row w10 b3 1 _ _ _ (HP10.o.get (k:=b3) (o:= .cells #[.int .i64 ((k:Int)+1),.int .i64 1,.string s,.string s2,.int .i64 fl,.int .i64 fd,.int .i64 off,.int .i64 n,.string data,.int .i64 spare,.bool false] 29 (0,0)) (by simp));have HCm:=hid ((HP10.o.below (Below.refl _ _).drew).tcommit (by omega) (by have:=HKk.o.1;omega));clear hs9 hs10;go_wp2_with(go_at_call 21;refine HCm.o.mono ?_;rintro e w11 ⟨rfl,S2,hP11⟩)
   go_ret
   exact⟨rfl,S2,N,T',Gd.updD D k f i,Z2,φ',(hP11.less fun q hq=>by rw[List.mem_singleton.1 hq];simp).more (Nat.le_refl _) (by omega),HSj.o,HGo.o.1,HGo.o.2⟩
  have hkb1:(kind==1)=false:=by simp[hk1]
  by_cases hk2:kind=2
  ·obtain⟨f,hq,hf⟩:∃f:Nat,fd=(f:Int)∧f<8:=by
    have h1:0≤fd∧fd<8:=HE4.o hk2;exact⟨fd.toNat,by omega,by omega⟩
   subst hk2;subst hq;have HSj:Hid (Gd.Sim N T' (Gd.updD D k f 0) Z2 φ'):=hid (by
    have h1:=HSi.o;unfold uF at h1;rw[if_neg (by decide),if_pos rfl]at h1;exact h1)
   clear hk1 hkb1 HSi HE3 HE4;have hb9p:b9≠p:=fun e=>by
    have h1:=HP8.o.get (k:=b9) (o:= .cells #[.int .i64 0,.int .i64 q1,.string ⟨q2.toArray⟩,.slice A6 q3.length c6,.int .i64 q4,.int .i64 q5,.int .i64 q6] 56 (0,0)) (by simp);have h2:=HP8.o.get (k:=p) (o:=zL t x r D) (by simp);rw[e,h2]at h1;unfold zL at h1;injection Option.some.inj h1 with _ e2
    exact absurd e2 (by decide)
   have Hb9p:=hid hb9p;have hf0:(0:Int)≤f:=by omega
   have hf8:(f:Int)<8:=by omega
   have Hf:=hid hf;clear hb9p hf
   go_upto_region 23 with(first|(refine wpList_load_row rfl 56 _ rfl b6 rfl 56 #[.int .i64 0,.int .i64 q1,.string ⟨q2.toArray⟩,.slice A q3.length c,.int .i64 q4,.int .i64 q5,.int .i64 q6] (0,0) _ HG6.o underlying56 rfl infoRep ?_)|(refine wpList_load_row rfl 56 _ rfl b9 rfl 56 #[.int .i64 0,.int .i64 q1,.string ⟨q2.toArray⟩,.slice A6 q3.length c6,.int .i64 q4,.int .i64 q5,.int .i64 q6] (0,0) _ HG9.o underlying56 rfl infoRep ?_)|(go_at_call 38;refine HSame.o.mono ?_;rintro e w9 ⟨rfl,hb9⟩;have HP9:=hid (HP8.o.below hb9);have g0:w9.cell? ⟨b6,0,none⟩=some (.int .i64 0):=cell_of_row w9 _ 0 _ _ _ (HP9.o.get (k:=b6) (o:= .cells #[.int .i64 0,.int .i64 q1,.string ⟨q2.toArray⟩,.slice A q3.length c,.int .i64 q4,.int .i64 q5,.int .i64 q6] 56 (0,0)) (by simp));have p1:=(zE (HP9.o.get (k:=p) (o:=zL t x r D) (by simp))).2.1;have k1:=(HFa.o _ _ _ _ w9 HP9.o (by simp) (by simp)).2.2.1;clear hb9))
   have h10:PSt x t r S N Z2 57 K w (w9.setCell ⟨p,4+k*8+f,none⟩ (.int .i64 0)) (List.cons (b9,.cells #[.int .i64 0,.int .i64 q1,.string ⟨q2.toArray⟩,.slice A6 q3.length c6,.int .i64 q4,.int .i64 q5,.int .i64 q6] 56 (0,0)) (List.cons (b3,.cells #[.int .i64 ((k:Int)+1),.int .i64 2,.string s,.string s2,.int .i64 fl,.int .i64 (f:Int),.int .i64 off,.int .i64 n,.string data,.int .i64 spare,.bool false] 29 (0,0)) [(p,zL t x r (Gd.updD D k f 0))])):=by
    refine HP9.o.set (k:=p) (C:=js t x r D) (ty:=43) (by unfold zL;simp) _ fun q hq=> ?_;rw[show(js t x r D).setIfInBounds (4+k*8+f) (.int .i64 0)=js t x r (Gd.updD D k f 0) from vU Hk8.o Hf.o];simp only[List.mem_cons,List.not_mem_nil,or_false]at hq;rcases hq with rfl|rfl|rfl
    ·exact Or.inr ⟨by simp,Hb9p.o⟩
    ·exact Or.inr ⟨by simp,HNe.o.symm⟩
    ·exact Or.inl rfl
   have H10:=hid h10;have cp:=(zE (HP9.o.get (k:=p) (o:=zL t x r D) (by simp))).2.2.2.2.1 k f Hk8.o Hf.o;have fz:=(zE (HP9.o.get (k:=p) (o:=zL t x r D) (by simp))).2.2.2.2.2 (4+k*8+f);clear h10 p1 k1 g0;have hs9:=(show w9.cell? ⟨b3,0,none⟩=some (.int .i64 ((k:Int)+1))∧w9.cell? ⟨b3,5,none⟩=some (.int .i64 (f:Int)) from⟨cell_of_row w9 b3 0 _ _ _ (HP9.o.get (k:=b3) (o:= .cells #[.int .i64 ((k:Int)+1),.int .i64 2,.string s,.string s2,.int .i64 fl,.int .i64 (f:Int),.int .i64 off,.int .i64 n,.string data,.int .i64 spare,.bool false] 29 (0,0)) (by simp)),cell_of_row w9 b3 5 _ _ _ (HP9.o.get (k:=b3) (o:= .cells #[.int .i64 ((k:Int)+1),.int .i64 2,.string s,.string s2,.int .i64 fl,.int .i64 (f:Int),.int .i64 off,.int .i64 n,.string data,.int .i64 spare,.bool false] 29 (0,0)) (by simp))⟩)
   refine wp_region_held_drew (S:=(fun W=>W.cell? ⟨b3,0,none⟩=some (.int .i64 ((k:Int)+1))∧W.cell? ⟨b3,5,none⟩=some (.int .i64 (f:Int)))) (by kernel_rfl) ?_ (fun hHeld=> ?_)
   ·exact hs9
   refine tk 0 ?_;refine tk 1 ?_;refine tk 2 ?_;refine tk 3 ?_;refine tk 4 ?_;refine tk 5 ?_;refine tk 6 ?_;refine tk 7 ?_;refine tk 8 ?_;refine tk 9 ?_;refine tk 10 ?_;refine rd 11 (fun K hK=> ?_);go_simp
   have hP10:=H10.o;clear H10;generalize (World.setCell w9 _ _)=w10 at hP10⊢;have HP10:=hid hP10;have hs10:=(show w10.cell? ⟨b3,0,none⟩=some (.int .i64 ((k:Int)+1))∧w10.cell? ⟨b3,5,none⟩=some (.int .i64 (f:Int)) from⟨cell_of_row w10 b3 0 _ _ _ (hP10.get (k:=b3) (o:= .cells #[.int .i64 ((k:Int)+1),.int .i64 2,.string s,.string s2,.int .i64 fl,.int .i64 (f:Int),.int .i64 off,.int .i64 n,.string data,.int .i64 spare,.bool false] 29 (0,0)) (by simp)),cell_of_row w10 b3 5 _ _ _ (hP10.get (k:=b3) (o:= .cells #[.int .i64 ((k:Int)+1),.int .i64 2,.string s,.string s2,.int .i64 fl,.int .i64 (f:Int),.int .i64 off,.int .i64 n,.string data,.int .i64 spare,.bool false] 29 (0,0)) (by simp))⟩);clear hP10 cp fz;try dsimp only
   refine hK.o _ _ hs10 (fun hHeld=> ?_);clear hK K;try simp only[put]
   refine dn ?_
   (try simp only[Exit.then])
   have p1:=(zE (HP10.o.get (k:=p) (o:=zL t x r (Gd.updD D k f 0)) (by simp))).2.1;have k1:w10.cell? ⟨b3,1,none⟩=some (.int .i64 2):=cell_of_row w10 b3 1 _ _ _ (HP10.o.get (k:=b3) (o:= .cells #[.int .i64 ((k:Int)+1),.int .i64 2,.string s,.string s2,.int .i64 fl,.int .i64 (f:Int),.int .i64 off,.int .i64 n,.string data,.int .i64 spare,.bool false] 29 (0,0)) (by simp));have HCm:=hid ((HP10.o.below (Below.refl _ _).drew).tcommit (by omega) (by have:=HKk.o.1;omega));clear hs9 hs10;go_wp2_with(go_at_call 21;refine HCm.o.mono ?_;rintro e w11 ⟨rfl,S2,hP11⟩)
   go_ret
   exact⟨rfl,S2,N,T',Gd.updD D k f 0,Z2,φ',(hP11.less fun q hq=>by rw[List.mem_singleton.1 hq];simp).more (Nat.le_refl _) (by omega),HSj.o,HGo.o.1,HGo.o.2⟩
  have hkb2:(kind==2)=false:=by simp[hk2]
  have HSj:Hid (Gd.Sim N T' D Z2 φ'):=hid (by
   have h1:=HSi.o;unfold uF at h1;rw[if_neg hk1,if_neg hk2]at h1;exact h1)
  clear hk1 hk2 HSi HE3 HE4
  go_wp2_with(first|(refine wpList_load_row rfl 56 _ rfl b6 rfl 56 #[.int .i64 0,.int .i64 q1,.string ⟨q2.toArray⟩,.slice A q3.length c,.int .i64 q4,.int .i64 q5,.int .i64 q6] (0,0) _ HG6.o underlying56 rfl infoRep ?_)|(refine wpList_load_row rfl 56 _ rfl b9 rfl 56 #[.int .i64 0,.int .i64 q1,.string ⟨q2.toArray⟩,.slice A6 q3.length c6,.int .i64 q4,.int .i64 q5,.int .i64 q6] (0,0) _ HG9.o underlying56 rfl infoRep ?_)|(go_at_call 38;refine HSame.o.mono ?_;rintro e w9 ⟨rfl,hb9⟩;have HP9:=hid (HP8.o.below hb9);have g0:w9.cell? ⟨b6,0,none⟩=some (.int .i64 0):=cell_of_row w9 _ 0 _ _ _ (HP9.o.get (k:=b6) (o:= .cells #[.int .i64 0,.int .i64 q1,.string ⟨q2.toArray⟩,.slice A q3.length c,.int .i64 q4,.int .i64 q5,.int .i64 q6] 56 (0,0)) (by simp));have p1:=(zE (HP9.o.get (k:=p) (o:=zL t x r D) (by simp))).2.1;have k1:=(HFa.o _ _ _ _ w9 HP9.o (by simp) (by simp)).2.2.1;have HCm:=hid (HP9.o.tcommit (by omega) (by have:=HKk.o.1;omega));clear hb9)|(go_at_call 21;refine HCm.o.mono ?_;rintro e w11 ⟨rfl,S2,hP11⟩))
  go_ret
  exact⟨rfl,S2,N,T',D,Z2,φ',(hP11.less fun q hq=>by rw[List.mem_singleton.1 hq];simp).more (Nat.le_refl _) (by omega),HSj.o,HGo.o.1,HGo.o.2⟩
end Go.Proofs.YtjlpkbhgphjpeaaGreatDoor
