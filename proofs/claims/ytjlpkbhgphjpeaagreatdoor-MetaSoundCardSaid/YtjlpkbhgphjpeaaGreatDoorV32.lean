/- Walks: commonslaw14: asked, at List, Stat, and at what is none (what the volume does is a hypothesis). -/
import Derived.Test.YtjlpkbhgphjpeaaGreatDoorV31
import Derived.Test.YtjlpkbhgphjpeaaGreatDoorV29
set_option linter.unusedVariables false
set_option linter.unusedSimpArgs false
set_option linter.unusedSectionVars false
set_option maxHeartbeats 8000000
set_option maxRecDepth 100000
namespace Go.Proofs.YtjlpkbhgphjpeaaGreatDoor
open Go.RowKit
open Lib(hid)
open Go.Proofs.Tryz
section
attribute [local go_sem] Oper.semAt_some
theorem sizeInf14:(prog.info? 54).map (fun i=>i.size)=some 3:=by kernel_rfl
theorem V0(k l s:Int):(#[.int .i64 k,.int .i64 l,.int .i64 s]:Array Value).all (·.oneCell')=true:=by
 refine all_oneCell_toArray fun v hv=> ?_;simp only[List.mem_cons,List.mem_nil_iff,or_false]at hv;rcases hv with rfl|rfl|rfl<;>rfl
theorem Qs{p x:Nat}(cl fl fd off n spare:Int)(s s2 data:ByteArray)(drop:Bool)(w:World)(Q:Option Addr→Nat→List (List UInt8)→Int→World→Prop)(hp:w.cell? ⟨p,2,none⟩=some (.pointer (some ⟨x,0,none⟩)))(hpl:p<w.heap.size)
 (hC:∀W,Below w.heap.size w W→qg ⟨cl,12,s,s2,fl,fd,off,n,data,spare,drop⟩ zM w W→Calls prog 47 #[.pointer (some ⟨x,0,none⟩),.string s] W fun e W2=>∃(A:Option Addr) (cp:Nat) (N:List (List UInt8)) (r:Int),e= .returned (.tuple #[.slice A N.length cp,.int .i64 r])∧Q A cp N r W2∧qg ⟨cl,12,s,s2,fl,fd,off,n,data,spare,drop⟩ zM w W2∧W2.cell? ⟨p,2,none⟩=some (.pointer (some ⟨x,0,none⟩))):
 Calls prog 18 #[.pointer (some ⟨p,0,none⟩),akV ⟨cl,12,s,s2,fl,fd,off,n,data,spare,drop⟩] w (qA (fun q i A c W=>i=0∧∃N r,q=⟨r,0,[],N,0,0,0⟩∧Q A c N r W) w):=by
 obtain⟨w4,hw4⟩:=nm (zS ⟨cl,12,s,s2,fl,fd,off,n,data,spare,drop⟩ w);obtain⟨ha4,hb4⟩:=jA ⟨cl,12,s,s2,fl,fd,off,n,data,spare,drop⟩ w;rw[←hw4]at ha4 hb4;have HA4:=hid ha4;have HB4:=hid hb4;have HC:=hid hC;have hp4:=(hb4.cell (p:=⟨p,2,none⟩) hpl).trans hp;have HP4:=hid hp4;have HPl:=hid hpl;have HW4:=hid hw4;have HSz:=hid hb4.size;unfold zS akC jL zM at HW4;try dsimp only at HW4
 unfold akV akC;try dsimp only
 clear hC hpl hw4 ha4 hb4 hp hp4;go_enter func18,ntmps18;have HCc:=hid (HC.o _ HB4.o.drew (HA4.o.keep (Below.refl _ _).drew));go_upto_region 26 with fail
 rw[←HW4.o];have ha4:=HA4.o;obtain⟨b3,hb3⟩:=nm w.heap.size;have Hb3:=hid hb3;have hs0:w4.cell? ⟨p,2,none⟩=some (.pointer (some ⟨x,0,none⟩))∧w4.cell? ⟨b3+1+1,1,none⟩=some (.string s):=by
  rw[hb3];exact⟨HP4.o,cell_of_row w4 _ 1 _ _ _ ha4.c7⟩
 rw[←hb3];clear ha4 hb3;refine wp_region_held_drew (S:=(fun W=>W.cell? ⟨p,2,none⟩=some (.pointer (some ⟨x,0,none⟩))∧W.cell? ⟨b3+1+1,1,none⟩=some (.string s))) (by kernel_rfl) ?_ (fun hHeld=> ?_)
 ·exact hs0
 refine tk 0 ?_;refine tk 1 ?_;refine tk 2 ?_;refine tk 3 ?_;refine tk 4 ?_;refine tk 5 ?_;refine rd 6 (fun K hK=> ?_);go_simp
 refine HCc.o.mono ?_;rintro e w5 ⟨A,cp,N,rr,rfl,hq5,ha5,hp5⟩;have HQ5:=hid hq5;have HA5:=hid ha5;have HP5:=hid hp5;have hs5:w5.cell? ⟨p,2,none⟩=some (.pointer (some ⟨x,0,none⟩))∧w5.cell? ⟨b3+1+1,1,none⟩=some (.string s):=(by rw[Hb3.o];exact⟨hp5,cell_of_row w5 _ 1 _ _ _ ha5.c7⟩);clear hq5 ha5 hp5;try dsimp only
 refine hK.o _ _ hs5 (fun hHeld=> ?_);clear hK K;try simp only[put]
 refine tk 7 ?_;refine tk 8 ?_;refine tk 9 ?_;refine tk 10 ?_;obtain⟨g3,g4,g7,g8⟩:=HA5.o;have gp:=HP5.o;have hpl:=HPl.o;rw[←Hb3.o]at g3 g4 g7 g8 hpl;have f8:∀j,w5.frozen? ⟨b3+1+1+1,j,none⟩=false:=fun j=>frozen_of_row w5 _ j _ _ g8;have z8:w5.cell? ⟨b3+1+1+1,3,none⟩=some (.slice none 0 0):=cell_of_row w5 _ 3 _ _ _ g8;have f83:=f8 3;refine rd 11 (fun K hK=> ?_);go_simp
 have hOb:zu (fun k=>k=b3+1+1+1) w5 (w5.setCell ⟨b3+1+1+1,3,none⟩ (.slice A N.length cp)):=zz w5 _ _ rfl;have h8b:(w5.setCell ⟨b3+1+1+1,3,none⟩ (.slice A N.length cp)).heap[b3+1+1+1]? =some (.cells #[.int .i64 0,.int .i64 0,.string ⟨#[]⟩,.slice A N.length cp,.int .i64 0,.int .i64 0,.int .i64 0] 56 (0,0)):=(by have:=g8;exact heap_setCell_same w5 _ 3 _ _ _ this);generalize (World.setCell w5 _ _)=wb at hOb h8b⊢;have g3b:=(hOb.block _ (za g3) (by omega)).trans g3;have g4b:=(hOb.block _ (za g4) (by omega)).trans g4;have g7b:=(hOb.block _ (za g7) (by omega)).trans g7;have gpb:wb.cell? ⟨p,2,none⟩=some (.pointer (some ⟨x,0,none⟩)):=(hOb.cell (p:=⟨p,2,none⟩) (Nat.lt_trans hpl (za g3)) (by show ¬p=b3+1+1+1;omega)).trans gp;have hsb:wb.cell? ⟨p,2,none⟩=some (.pointer (some ⟨x,0,none⟩))∧wb.cell? ⟨b3+1+1,1,none⟩=some (.string s):=⟨gpb,cell_of_row wb _ 1 _ _ _ g7b⟩
 clear z8 f83 f8 g3 g4 g7 g8 gp;try dsimp only
 refine hK.o _ _ hsb (fun hHeld=> ?_);clear hK K;try simp only[put]
 have z8:wb.cell? ⟨b3+1+1+1,0,none⟩=some (.int .i64 0):=cell_of_row wb _ 0 _ _ _ h8b;have f8:wb.frozen? ⟨b3+1+1+1,0,none⟩=false:=frozen_of_row wb _ 0 _ _ h8b;refine tk 12 ?_;refine rd 13 (fun K hK=> ?_);go_simp
 have hO6:zu (fun k=>k=b3+1+1+1) wb (wb.setCell ⟨b3+1+1+1,0,none⟩ (.int .i64 rr)):=zz wb _ _ rfl;have h86:(wb.setCell ⟨b3+1+1+1,0,none⟩ (.int .i64 rr)).heap[b3+1+1+1]? =some (.cells #[.int .i64 rr,.int .i64 0,.string ⟨#[]⟩,.slice A N.length cp,.int .i64 0,.int .i64 0,.int .i64 0] 56 (0,0)):=(by have:=h8b;exact heap_setCell_same wb _ 0 _ _ _ this);generalize (World.setCell wb _ _)=w6 at hO6 h86⊢;have g36:=(hO6.block _ (za g3b) (by omega)).trans g3b;have g46:=(hO6.block _ (za g4b) (by omega)).trans g4b;have g76:=(hO6.block _ (za g7b) (by omega)).trans g7b;have gp6:w6.cell? ⟨p,2,none⟩=some (.pointer (some ⟨x,0,none⟩)):=(hO6.cell (p:=⟨p,2,none⟩) (Nat.lt_trans hpl (za g3b)) (by show ¬p=b3+1+1+1;omega)).trans gpb;have hs6:w6.cell? ⟨p,2,none⟩=some (.pointer (some ⟨x,0,none⟩))∧w6.cell? ⟨b3+1+1,1,none⟩=some (.string s):=⟨gp6,cell_of_row w6 _ 1 _ _ _ g76⟩
 have HO6:=hid (hOb.trans hO6 fun _ _ e=>e);have H86:=hid h86;have H46:=hid g46;clear z8 f8 hOb h8b hO6 h86 g3b g4b g7b gpb g36 g46 g76 gp6 hpl;try dsimp only
 refine hK.o _ _ hs6 (fun hHeld=> ?_);clear hK K;try simp only[put]
 refine dn ?_
 (try simp only[Exit.then])
 go_wp2_with(first|(refine wpList_load_row rfl 56 _ rfl (b3+1+1+1) rfl 56 _ (0,0) _ H86.o underlying56 rfl infoRep ?_)|(refine wpList_store_mid rfl 56 _ _ rfl (b3+1) 0 #[.int .i64 rr,.int .i64 0,.string ⟨#[]⟩,.slice A N.length cp,.int .i64 0,.int .i64 0,.int .i64 0] rfl rfl (zd H46.o rfl) sizeRep (jr _ _ _ _ _ _ _ _ _) ?_;obtain⟨hbw,hbg⟩:=zC H46.o (vs:=[.int .i64 rr,.int .i64 0,.string ⟨#[]⟩,.slice A N.length cp,.int .i64 0,.int .i64 0,.int .i64 0]) (B:=b3+1) rfl (Nat.le_refl _);have hO7:zu (fun k=>k=b3+1) w6 (w6.setCells (b3+1) 0 [.int .i64 rr,.int .i64 0,.string ⟨#[]⟩,.slice A N.length cp,.int .i64 0,.int .i64 0,.int .i64 0]):=zw (zo _ _ _ _) fun q e=>(Option.some.inj e).symm;generalize (World.setCells _ _ _ _)=w7 at hbw hbg hO7⊢))
 refine bodyPost_ret (zG rfl _ _ (b3+1) 56 _ (0,0) _ rfl hbg underlying56 rfl infoRep) rfl ?_;rw[Hb3.o]at hO7;have hO6:=HO6.o;rw[Hb3.o]at hO6;exact⟨⟨rr,0,[],N,0,0,0⟩,0,A,cp,w5,⟨rfl,N,rr,rfl,HQ5.o⟩,(hO6.mono fun k _ e=>Or.inr e).trans (hO7.mono fun k _ e=>Or.inl e) (fun _ _ e=>e),rfl⟩
theorem Qp{p x:Nat}(cl fl fd off n spare:Int)(s s2 data:ByteArray)(drop:Bool)(w:World)(Q:Int→Int→Int→Int→World→Prop)(hp:w.cell? ⟨p,2,none⟩=some (.pointer (some ⟨x,0,none⟩)))(hpl:p<w.heap.size)
 (hC:∀W,Below w.heap.size w W→qg ⟨cl,13,s,s2,fl,fd,off,n,data,spare,drop⟩ zM w W→Calls prog 26 #[.pointer (some ⟨x,0,none⟩),.string s] W fun e W2=>∃(ik il is r:Int),e= .returned (.tuple #[.agg #[.int .i64 ik,.int .i64 il,.int .i64 is],.int .i64 r])∧Q ik il is r W2∧qg ⟨cl,13,s,s2,fl,fd,off,n,data,spare,drop⟩ zM w W2∧W2.cell? ⟨p,2,none⟩=some (.pointer (some ⟨x,0,none⟩))):
 Calls prog 18 #[.pointer (some ⟨p,0,none⟩),akV ⟨cl,13,s,s2,fl,fd,off,n,data,spare,drop⟩] w (qA (fun q i A c W=>i=0∧A=none∧c=0∧∃ik il is r,q=⟨r,0,[],[],ik,il,is⟩∧Q ik il is r W) w):=by
 obtain⟨w4,hw4⟩:=nm (zS ⟨cl,13,s,s2,fl,fd,off,n,data,spare,drop⟩ w);obtain⟨ha4,hb4⟩:=jA ⟨cl,13,s,s2,fl,fd,off,n,data,spare,drop⟩ w;rw[←hw4]at ha4 hb4;have HA4:=hid ha4;have HB4:=hid hb4;have HC:=hid hC;have hp4:=(hb4.cell (p:=⟨p,2,none⟩) hpl).trans hp;have HP4:=hid hp4;have HPl:=hid hpl;have HW4:=hid hw4;have HSz:=hid hb4.size;unfold zS akC jL zM at HW4;try dsimp only at HW4
 unfold akV akC;try dsimp only
 clear hC hpl hw4 ha4 hb4 hp hp4;go_enter func18,ntmps18;have HCc:=hid (HC.o _ HB4.o.drew (HA4.o.keep (Below.refl _ _).drew));go_upto_region 28 with fail
 rw[←HW4.o];have ha4:=HA4.o;obtain⟨b3,hb3⟩:=nm w.heap.size;have Hb3:=hid hb3;have hs0:w4.cell? ⟨p,2,none⟩=some (.pointer (some ⟨x,0,none⟩))∧w4.cell? ⟨b3+1+1,1,none⟩=some (.string s):=by
  rw[hb3];exact⟨HP4.o,cell_of_row w4 _ 1 _ _ _ ha4.c7⟩
 rw[←hb3];clear ha4 hb3;refine wp_region_held_drew (S:=(fun W=>W.cell? ⟨p,2,none⟩=some (.pointer (some ⟨x,0,none⟩))∧W.cell? ⟨b3+1+1,1,none⟩=some (.string s))) (by kernel_rfl) ?_ (fun hHeld=> ?_)
 ·exact hs0
 refine tk 0 ?_;refine tk 1 ?_;refine tk 2 ?_;refine tk 3 ?_;refine tk 4 ?_;refine tk 5 ?_;refine rd 6 (fun K hK=> ?_);go_simp
 refine HCc.o.mono ?_;rintro e w5 ⟨ik,il,is,rr,rfl,hq5,ha5,hp5⟩;have HQ5:=hid hq5;have HA5:=hid ha5;have HP5:=hid hp5;have hs5:w5.cell? ⟨p,2,none⟩=some (.pointer (some ⟨x,0,none⟩))∧w5.cell? ⟨b3+1+1,1,none⟩=some (.string s):=(by rw[Hb3.o];exact⟨hp5,cell_of_row w5 _ 1 _ _ _ ha5.c7⟩);clear hq5 ha5 hp5;try dsimp only
 refine hK.o _ _ hs5 (fun hHeld=> ?_);clear hK K;try simp only[put]
 refine tk 7 ?_;refine tk 8 ?_;refine tk 9 ?_;refine tk 10 ?_;obtain⟨g3,g4,g7,g8⟩:=HA5.o;have gp:=HP5.o;have hpl:=HPl.o;rw[←Hb3.o]at g3 g4 g7 g8 hpl;have f8:∀j,w5.frozen? ⟨b3+1+1+1,j,none⟩=false:=fun j=>frozen_of_row w5 _ j _ _ g8;refine rd 11 (fun K hK=> ?_);refine wp_store_mid 54 _ _ rfl (b3+1+1+1) 4 #[.int .i64 ik,.int .i64 il,.int .i64 is] rfl rfl (jC g8 (show 7≤7 from Nat.le_refl 7)) sizeInf14 (V0 _ _ _) ?_;have hOb:zu (fun k=>k=b3+1+1+1) w5 (w5.setCells (b3+1+1+1) 4 [.int .i64 ik,.int .i64 il,.int .i64 is]):=zw (zo _ _ _ _) fun q e=>(Option.some.inj e).symm
 have h8b:(w5.setCells (b3+1+1+1) 4 [.int .i64 ik,.int .i64 il,.int .i64 is]).heap[b3+1+1+1]? =some (.cells #[.int .i64 0,.int .i64 0,.string ⟨#[]⟩,.slice none 0 0,.int .i64 ik,.int .i64 il,.int .i64 is] 56 (0,0)):=(by have h1:=heap_setCell_same w5 (b3+1+1+1) 4 _ _ (.int .i64 ik) g8;have h2:=heap_setCell_same _ (b3+1+1+1) 5 _ _ (.int .i64 il) h1;exact heap_setCell_same _ (b3+1+1+1) 6 _ _ (.int .i64 is) h2);generalize (World.setCells _ _ _ _)=wb at hOb h8b⊢;have g3b:=(hOb.block _ (za g3) (by omega)).trans g3;have g4b:=(hOb.block _ (za g4) (by omega)).trans g4;have g7b:=(hOb.block _ (za g7) (by omega)).trans g7;have gpb:wb.cell? ⟨p,2,none⟩=some (.pointer (some ⟨x,0,none⟩)):=(hOb.cell (p:=⟨p,2,none⟩) (Nat.lt_trans hpl (za g3)) (by show ¬p=b3+1+1+1;omega)).trans gp
 have hsb:wb.cell? ⟨p,2,none⟩=some (.pointer (some ⟨x,0,none⟩))∧wb.cell? ⟨b3+1+1,1,none⟩=some (.string s):=⟨gpb,cell_of_row wb _ 1 _ _ _ g7b⟩;clear f8 g3 g4 g7 g8 gp;try dsimp only
 refine hK.o _ _ hsb (fun hHeld=> ?_);clear hK K;try simp only[put]
 have z8:wb.cell? ⟨b3+1+1+1,0,none⟩=some (.int .i64 0):=cell_of_row wb _ 0 _ _ _ h8b;have f8:wb.frozen? ⟨b3+1+1+1,0,none⟩=false:=frozen_of_row wb _ 0 _ _ h8b;refine tk 12 ?_;refine rd 13 (fun K hK=> ?_);go_simp
 have hO6:zu (fun k=>k=b3+1+1+1) wb (wb.setCell ⟨b3+1+1+1,0,none⟩ (.int .i64 rr)):=zz wb _ _ rfl;have h86:(wb.setCell ⟨b3+1+1+1,0,none⟩ (.int .i64 rr)).heap[b3+1+1+1]? =some (.cells #[.int .i64 rr,.int .i64 0,.string ⟨#[]⟩,.slice none 0 0,.int .i64 ik,.int .i64 il,.int .i64 is] 56 (0,0)):=(by have:=h8b;exact heap_setCell_same wb _ 0 _ _ _ this);generalize (World.setCell wb _ _)=w6 at hO6 h86⊢;have g36:=(hO6.block _ (za g3b) (by omega)).trans g3b;have g46:=(hO6.block _ (za g4b) (by omega)).trans g4b;have g76:=(hO6.block _ (za g7b) (by omega)).trans g7b;have gp6:w6.cell? ⟨p,2,none⟩=some (.pointer (some ⟨x,0,none⟩)):=(hO6.cell (p:=⟨p,2,none⟩) (Nat.lt_trans hpl (za g3b)) (by show ¬p=b3+1+1+1;omega)).trans gpb;have hs6:w6.cell? ⟨p,2,none⟩=some (.pointer (some ⟨x,0,none⟩))∧w6.cell? ⟨b3+1+1,1,none⟩=some (.string s):=⟨gp6,cell_of_row w6 _ 1 _ _ _ g76⟩
 have HO6:=hid (hOb.trans hO6 fun _ _ e=>e);have H86:=hid h86;have H46:=hid g46;clear z8 f8 hOb h8b hO6 h86 g3b g4b g7b gpb g36 g46 g76 gp6 hpl;try dsimp only
 refine hK.o _ _ hs6 (fun hHeld=> ?_);clear hK K;try simp only[put]
 refine dn ?_
 (try simp only[Exit.then])
 go_wp2_with(first|(refine wpList_load_row rfl 56 _ rfl (b3+1+1+1) rfl 56 _ (0,0) _ H86.o underlying56 rfl infoRep ?_)|(refine wpList_store_mid rfl 56 _ _ rfl (b3+1) 0 #[.int .i64 rr,.int .i64 0,.string ⟨#[]⟩,.slice none 0 0,.int .i64 ik,.int .i64 il,.int .i64 is] rfl rfl (zd H46.o rfl) sizeRep (jr _ _ _ _ _ _ _ _ _) ?_;obtain⟨hbw,hbg⟩:=zC H46.o (vs:=[.int .i64 rr,.int .i64 0,.string ⟨#[]⟩,.slice none 0 0,.int .i64 ik,.int .i64 il,.int .i64 is]) (B:=b3+1) rfl (Nat.le_refl _);have hO7:zu (fun k=>k=b3+1) w6 (w6.setCells (b3+1) 0 [.int .i64 rr,.int .i64 0,.string ⟨#[]⟩,.slice none 0 0,.int .i64 ik,.int .i64 il,.int .i64 is]):=zw (zo _ _ _ _) fun q e=>(Option.some.inj e).symm;generalize (World.setCells _ _ _ _)=w7 at hbw hbg hO7⊢))
 refine bodyPost_ret (zG rfl _ _ (b3+1) 56 _ (0,0) _ rfl hbg underlying56 rfl infoRep) rfl ?_;rw[Hb3.o]at hO7;have hO6:=HO6.o;rw[Hb3.o]at hO6;exact⟨⟨rr,0,[],[],ik,il,is⟩,0,none,0,w5,⟨rfl,rfl,rfl,ik,il,is,rr,rfl,HQ5.o⟩,(hO6.mono fun k _ e=>Or.inr e).trans (hO7.mono fun k _ e=>Or.inl e) (fun _ _ e=>e),rfl⟩
theorem Qr{p:Nat}(cl kind fl fd off n spare:Int)(s s2 data:ByteArray)(drop:Bool)(w:World)(h1:kind≠1)(h2:kind≠2)(h7:kind≠7)(h8:kind≠8)(h9:kind≠9)(h10:kind≠10)(h11:kind≠11)(h12:kind≠12)(h13:kind≠13):
 Calls prog 18 #[.pointer (some ⟨p,0,none⟩),akV ⟨cl,kind,s,s2,fl,fd,off,n,data,spare,drop⟩] w fun e b=>e= .returned (.tuple #[xf (Pz.er 0) none 0,.int .i64 0,.bool false])∧Below w.heap.size w b:=by
 obtain⟨w4,hw4⟩:=nm (zS ⟨cl,kind,s,s2,fl,fd,off,n,data,spare,drop⟩ w);obtain⟨ha4,hb4⟩:=jA ⟨cl,kind,s,s2,fl,fd,off,n,data,spare,drop⟩ w;rw[←hw4]at ha4 hb4;have HA4:=hid ha4;have HB4:=hid hb4;have HW4:=hid hw4;unfold zS akC jL zM at HW4;try dsimp only at HW4
 unfold akV akC;try dsimp only
 have k1:(kind==1)=false:=by simp[h1]
 have k2:(kind==2)=false:=by simp[h2]
 have k7:(kind==7)=false:=by simp[h7]
 have k8:(kind==8)=false:=by simp[h8]
 have k9:(kind==9)=false:=by simp[h9]
 have k10:(kind==10)=false:=by simp[h10]
 have k11:(kind==11)=false:=by simp[h11]
 have k12:(kind==12)=false:=by simp[h12]
 have k13:(kind==13)=false:=by simp[h13]
 clear hw4 ha4 hb4 h1 h2 h7 h8 h9 h10 h11 h12 h13;go_enter func18,ntmps18;go_upto_region 5 with fail
 rw[←HW4.o];obtain⟨b3,hb3⟩:=nm w.heap.size;have Hb3:=hid hb3;obtain⟨a3,a4,a7,a8⟩:=HA4.o;rw[←hb3]at a3 a4 a7 a8;rw[←hb3];have H86:=hid a8;have H46:=hid a4;clear a3 a4 a7 a8 hb3;unfold zM at H86;go_wp2_with(first|(refine wpList_load_row rfl 56 _ rfl (b3+1+1+1) rfl 56 _ (0,0) _ H86.o underlying56 rfl infoRep ?_)|(refine wpList_store_mid rfl 56 _ _ rfl (b3+1) 0 #[.int .i64 0,.int .i64 0,.string ⟨#[]⟩,.slice none 0 0,.int .i64 0,.int .i64 0,.int .i64 0] rfl rfl (zd H46.o rfl) sizeRep (jr _ _ _ _ _ _ _ _ _) ?_;obtain⟨hbw,hbg⟩:=zC H46.o (vs:=[.int .i64 0,.int .i64 0,.string ⟨#[]⟩,.slice none 0 0,.int .i64 0,.int .i64 0,.int .i64 0]) (B:=b3) rfl (by omega);generalize (World.setCells _ _ _ _)=w7 at hbw hbg⊢))
 refine bodyPost_ret (zG rfl _ _ (b3+1) 56 _ (0,0) _ rfl hbg underlying56 rfl infoRep) rfl ?_;rw[Hb3.o]at hbw;exact⟨rfl,HB4.o.trans hbw⟩
end
section
attribute [local go_sem] Oper.semAt_some
theorem Xj{p:Nat}(k:Nat)(hk:k<8)(d:Nat→Nat)(w:World)(h:∀f,f<8→w.cell? ⟨p,4+k*8+f,none⟩=some (.int .i64 (d f:Nat))):
 Calls prog 51 #[.pointer (some ⟨p,0,none⟩),.int .i64 ((k:Int)+1)] w fun e w'=>(∃f:Nat,e= .returned (.int .i64 f)∧f≤8∧(∀c,c<f→d c≠0)∧(f<8→d f=0))∧w'=w:=by
 have HC:=hid h;have hw1:IntKind.i64.wrap ((k:Int)+1-1)=(k:Int):=by rw[IntKind.wrap_i64];omega
 have hw2:IntKind.i64.wrap (k:Int)=(k:Int):=by rw[IntKind.wrap_i64];omega
 have hk0:(0:Int)≤k:=by omega
 have hk8:(k:Int)<8:=by omega
 clear h hk;go_enter func51,ntmps51;go_wp2;go_loopw[5] (fun v wr=>∃n:Nat,v= .int .i64 n∧n≤8∧Hid (∀c,c<n→d c≠0)∧wr=w) (fun v _=>8-(intOf v).toNat)
 case atStart=>exact⟨0,rfl,by omega,hid fun c hc=>by omega,rfl⟩
 case round=>
  obtain⟨n,rfl,hn,HD,rfl⟩:=hrel;by_cases h8:n<8
  ·have hn8:(n:Int)<8:=by omega
   have hn0:(0:Int)≤n:=by omega
   have c0:=HC.o n h8;obtain⟨m,hm⟩:=nm (d n);rw[←hm]at c0;have Hm:=hid hm;clear hm;by_cases h0:m=0
   ·subst h0;go_wp2;go_ret
    exact⟨⟨n,rfl,hn,HD.o,fun _=>Hm.o.symm⟩,rfl⟩
   ·have hdb:((m:Int) !=0)=true:=by rw[bne_iff_ne];omega
    go_wp2;go_roundw
    case rel=>
     have HD2:Hid (∀c,c<n+1→d c≠0):=hid fun c hc=>by
      by_cases e:c=n
      ·rw[e,←Hm.o];exact h0
      ·exact HD.o c (by omega)
     exact⟨n+1,by go_num,by omega,HD2,trivial⟩
    case measure=>simp[intOf];omega
  ·have hn8:¬(n:Int)<8:=by omega
   go_wp2;go_ret
   exact⟨⟨n,rfl,hn,HD.o,fun e=>absurd e h8⟩,rfl⟩
theorem infoC14:(prog.info? 27).map (·.size)=some 8:=by kernel_rfl
def yN(s:ByteArray)(n:Nat):ByteArray:=if n<s.size then s.extract 0 n else s
theorem jX(s:ByteArray)(n:Nat):(yN s n).size≤n:=by
 unfold yN;split
 ·rw[ByteArray.size_extract];omega
 ·omega
theorem yg(kind flags fd off n:Int)(p p2 data:ByteArray)(w:World):
 Calls prog 13 #[zN kind p p2 flags fd off n data] w fun e w'=>e= .returned (zN kind (yN p 60) (yN p2 60) flags fd off n data)∧Below w.heap.size w w':=by
 unfold zN yN;by_cases h1:60<p.size<;>by_cases h2:60<p2.size
 all_goals
  simp only[h1,h2,if_true,if_false];go_enter func13,ntmps13;go_wp2;refine bodyPost_ret (results_cell_row rfl _ _ (w.heap.size+1) _ _ _ _ rfl (heap_alloc2_new _ _ _) underlying27 rfl infoC14) rfl ?_;exact⟨rfl,((Below.refl _ _).alloc (Nat.le_refl _) _).alloc (by simp) _⟩
end
section
open Go.Shelf
theorem zE[zg]{W:World}{p t x r:Nat}{D:Nat→Nat→Nat}(h:W.heap[p]? =some (zL t x r D)):W.cell? ⟨p,0,none⟩=some (.pointer (some ⟨zg.no,0,none⟩))∧W.cell? ⟨p,1,none⟩=some (.pointer (some ⟨t,0,none⟩))∧W.cell? ⟨p,2,none⟩=some (.pointer (some ⟨x,0,none⟩))∧W.cell? ⟨p,3,none⟩=some (.pointer (some ⟨r,0,none⟩))∧(∀k fd,k<8→fd<8→W.cell? ⟨p,4+k*8+fd,none⟩=some (.int .i64 (D k fd:Nat)))∧∀j,W.frozen? ⟨p,j,none⟩=false:=
 ⟨(cell_of_row W p 0 _ _ _ h).trans qL.1,(cell_of_row W p 1 _ _ _ h).trans qL.2.1,(cell_of_row W p 2 _ _ _ h).trans qL.2.2.1,(cell_of_row W p 3 _ _ _ h).trans qL.2.2.2,fun k fd hk hfd=>by
  rw[show 4+k*8+fd=4+(8*k+fd) by omega];exact(cell_of_row W p _ _ _ _ h).trans (Z0 hk hfd),fun j=>frozen_of_row W p j _ _ h⟩
theorem PSt.news[zg]{x t r c K:Nat}{S:List UInt8}{M:Gd.Vol}{Z:Pz.Fil}{w a b:World}{Ls:List (Nat×Obj)}(h:PSt x t r S M Z c K w a Ls)(hb:Below a.heap.size a b)(L2:List (Nat×Obj))(hL:∀q∈L2,a.heap.size≤q.1∧b.heap[q.1]? =some q.2):PSt x t r S M Z c K w b (L2++Ls):=by
 have hw:=h.size;obtain⟨F',G,h1,h2,h3,h4⟩:=h;refine⟨F',G,⟨h1.inv.below hb,h1.old,h1.only.trans (zx hb Nof) fun _ _ e=>e⟩,(zl.held r Z).below h2 hb,fun q hq=>⟨(h3 q hq).1,Nat.lt_of_lt_of_le (h3 q hq).2.1 hb.size,(h3 q hq).2.2⟩,fun p hp=> ?_⟩;rcases List.mem_append.1 hp with hp|hp
 ·obtain⟨e1,e2⟩:=hL p hp;exact⟨Nat.le_trans hw e1,fun e=>absurd (h1.inv.tight _ e) (Nat.not_lt.2 e1),fun e=>absurd (h3 _ e).2.1 (Nat.not_lt.2 e1),e2⟩
 ·exact⟨(h4 p hp).1,(h4 p hp).2.1,(h4 p hp).2.2.1,(hb.block p.1 (za (h4 p hp).2.2.2)).trans (h4 p hp).2.2.2⟩
theorem PSt.turnL[zg]{x t r c K:Nat}{S:List UInt8}{M:Gd.Vol}{Z:Pz.Fil}{w a b:World}{Ls:List (Nat×Obj)}(h:PSt x t r S M Z c K w a Ls){U:Nat→Prop}(hO:zu U a b)(hU:∀q,U q→∃o,(q,o)∈Ls)(Ls':List (Nat×Obj))(hL:∀p∈Ls',p∈Ls∧¬U p.1):PSt x t r S M Z c K w b Ls':=by
 obtain⟨F',G,h1,h2,h3,h4⟩:=h;have hs:=hO.size;have hU2:∀q,U q→w.heap.size≤q∧¬F' q∧¬G q:=fun q hq=>by
  obtain⟨o,ho⟩:=hU q hq;obtain⟨e1,e2,e3,-⟩:=h4 _ ho;exact⟨e1,e2,e3⟩
 refine⟨F',G,⟨h1.inv.keep hs fun q hq hf=>hO.block q hq fun e=>(hU2 q e).2.1 hf,h1.old,h1.only.trans hO fun q hq e=>absurd (hU2 q e).1 (Nat.not_le.2 hq)⟩,(zl.held r Z).apart h2 hO fun q hq hg e=>(hU2 q e).2.2 hg,fun q hq=>⟨(h3 q hq).1,Nat.lt_of_lt_of_le (h3 q hq).2.1 hs,(h3 q hq).2.2⟩,fun p hp=> ?_⟩;obtain⟨e1,e2⟩:=hL p hp;obtain⟨q1,q2,q3,q4⟩:=h4 p e1;exact⟨q1,q2,q3,(hO.block _ (za q4) e2).trans q4⟩
def x8[zg](x t r:Nat)(S:List UInt8)(M:Gd.Vol)(Z:Pz.Fil)(K:Nat)(w:World)(Ls:List (Nat×Obj))(room:Prop)(z:Pz.Fil×Pz.Rep)(q:Pz.Rep)(D':Nat→Nat→Nat)(rr:Int)(b:World):Prop:=
 (rr=18∧room∧∃N c,PSt x t r S N Z c K w b Ls)∨(rr≠0∧rr≠18∧z=(Z,Pz.er rr)∧PSt x t r S M Z 0 K w b Ls)∨(rr=0∧z.2=q∧∃N T' φ',PSt x t r S N Z 57 K w b Ls∧Gd.Sim N T' D' z.1 φ')
theorem PSt.o[zg]{x t r K:Nat}{S:List UInt8}{M:Gd.Vol}{Z:Pz.Fil}{w a:World}{Ls:List (Nat×Obj)}(h:PSt x t r S M Z 0 K w a Ls):∃F,zy x t S M 0 K a F∧(∀k,k<w.heap.size→¬F k)∧∀room z q D' rr b,Out x t K S M room F a Z z q D' rr b→x8 x t r S M Z K w Ls room z q D' rr b:=by
 obtain⟨F,h1,h2,h3⟩:=h.open;refine⟨F,h1,h2,fun room z q D' rr b ho=> ?_⟩;rcases ho with⟨e1,e2,N,c,hN⟩|⟨e1,e2,e3,hN⟩|⟨e1,e2,N,T',φ',hN,hS⟩
 ·exact Or.inl ⟨e1,e2,N,c,h3 _ _ _ _ _ hN⟩
 ·exact Or.inr (Or.inl ⟨e1,e2,e3,h3 _ _ _ _ _ hN⟩)
 ·exact Or.inr (Or.inr ⟨e1,e2,N,T',φ',h3 _ _ _ _ _ hN,hS⟩)
section
variable [zg] {x t r K:Nat} {S:List UInt8} {M:Gd.Vol} {Z:Pz.Fil} {w b b':World} {Ls Ls':List (Nat×Obj)} {room:Prop} {z:Pz.Fil×Pz.Rep} {q:Pz.Rep} {D':Nat→Nat→Nat} {rr:Int}
theorem x8.any(h:x8 x t r S M Z K w Ls room z q D' rr b):∃N c,PSt x t r S N Z c K w b Ls:=by
 rcases h with⟨_,_,N,c,h⟩|⟨_,_,_,h⟩|⟨_,_,N,_,_,h,_⟩
 ·exact⟨N,c,h⟩
 ·exact⟨M,0,h⟩
 ·exact⟨N,57,h⟩
theorem x8.map(h:x8 x t r S M Z K w Ls room z q D' rr b)(f:∀N c,PSt x t r S N Z c K w b Ls→PSt x t r S N Z c K w b' Ls'):x8 x t r S M Z K w Ls' room z q D' rr b':=by
 rcases h with⟨e1,e2,N,c,h⟩|⟨e1,e2,e3,h⟩|⟨e1,e2,N,T',φ',h,hS⟩
 ·exact Or.inl ⟨e1,e2,N,c,f _ _ h⟩
 ·exact Or.inr (Or.inl ⟨e1,e2,e3,f _ _ h⟩)
 ·exact Or.inr (Or.inr ⟨e1,e2,N,T',φ',f _ _ h,hS⟩)
end
def qJ(a:Ak)(R:Array Value)(w0:World):List (Nat×Obj):=[(w0.heap.size+1+1+1,.cells R 56 (0,0)),(w0.heap.size+1+1,.cells (jL a) 27 (0,0)),(w0.heap.size+1,.cells zM 56 (0,0)),(w0.heap.size,.cells (akC a) 29 (0,0))]
section
variable [zg] {x t r c K p:Nat} {S:List UInt8} {M:Gd.Vol} {Z:Pz.Fil} {w w0 W b:World} {Ls Lq:List (Nat×Obj)} {a:Ak} {R:Array Value} {D:Nat→Nat→Nat}
theorem PSt.askw(h:PSt x t r S M Z c K w w0 Ls)(hb:Below w0.heap.size w0 W)(hA:qg a R w0 W):PSt x t r S M Z c K w W (qJ a R w0++Ls):=by
 refine h.news hb _ fun q hq=> ?_;simp only[qJ,List.mem_cons,List.mem_nil_iff,or_false]at hq;rcases hq with rfl|rfl|rfl|rfl
 ·exact⟨by show w0.heap.size≤w0.heap.size+1+1+1;omega,hA.c8⟩
 ·exact⟨by show w0.heap.size≤w0.heap.size+1+1;omega,hA.c7⟩
 ·exact⟨by show w0.heap.size≤w0.heap.size+1;omega,hA.c4⟩
 ·exact⟨Nat.le_refl _,hA.c3⟩
theorem PSt.askW(h:PSt x t r S M Z c K w W (Lq++(qJ a R w0++Ls))):qg a R w0 W:=
 ⟨h.get (k:=w0.heap.size) (by simp[qJ]),h.get (k:=w0.heap.size+1) (by simp[qJ]),h.get (k:=w0.heap.size+1+1) (by simp[qJ]),h.get (k:=w0.heap.size+1+1+1) (by simp[qJ])⟩
theorem PSt.askEnd(h:PSt x t r S M Z c K w W (Lq++(qJ a R w0++Ls)))(hO:zu (fun k=>k=w0.heap.size+1∨k=w0.heap.size+1+1+1) W b)(hl:∀q∈Ls,q.1<w0.heap.size)(hq:∀q∈Lq,w0.heap.size+4≤q.1):PSt x t r S M Z c K w b (Lq++Ls):=by
 refine h.turnL hO (fun q hq=> ?_) _ fun q hq'=> ?_
 ·rcases hq with rfl|rfl
  ·exact⟨.cells zM 56 (0,0),by simp[qJ]⟩
  ·exact⟨.cells R 56 (0,0),by simp[qJ]⟩
 ·rcases List.mem_append.1 hq' with e|e
  ·refine⟨List.mem_append_left _ e,fun e2=> ?_⟩;have:=hq q e
   omega
  ·refine⟨List.mem_append_right _ (List.mem_append_right _ e),fun e2=> ?_⟩;have:=hl q e
   omega
theorem PSt.lts(h:PSt x t r S M Z c K w w0 Ls):∀q∈Ls,q.1<w0.heap.size:=fun q hq=>za (h.get (k:=q.1) (o:=q.2) hq)
end
def uF(D:Nat→Nat→Nat)(kind:Int)(k:Nat)(fd:Int)(i:Nat):Nat→Nat→Nat:=if kind=1 then Gd.updD D k (Gd.freeD D k) i else if kind=2 then Gd.updD D k fd.toNat 0 else D
def Uc(a:Ak):ByteArray:=if a.kind=9∨a.kind=11 then a.p2 else a.p
def doK(Z:Pz.Fil)(k:Nat)(a:Ak):Pz.Fil×Pz.Rep:=Pz.doA Z ((k:Int)+1) a.kind a.p.data.toList a.p2.data.toList a.flags a.fd a.off a.n a.data.data.toList
def qz[zg](x t r:Nat)(S:List UInt8)(M:Gd.Vol)(T:Nat→Gd.Tab)(D:Nat→Nat→Nat)(Z:Pz.Fil)(K:Nat)(w:World)(Ls:List (Nat×Obj))(k:Nat)(a:Ak)(e:Ending)(b:World):Prop:=
 ∃(q:Pz.Rep) (A:Option Addr) (c i:Nat) (Lq:List (Nat×Obj)),e= .returned (.tuple #[xf q A c,.int .i64 i,.bool true])∧jb b 0 A q.names∧(q.names=[]∨∃nb o ob,A=some ⟨nb,o,none⟩∧(nb,ob)∈Lq)∧
  ((q.errno=18∧i=0∧xg M T (Uc a).data.toList a.spare∧∃N c2,PSt x t r S N Z c2 K w b (Lq++Ls))∨
   (q.errno≠0∧q.errno≠18∧i=0∧doK Z k a=(Z,q)∧PSt x t r S M Z 0 K w b (Lq++Ls))∨
   (q.errno=0∧(doK Z k a).2=q∧(a.kind=1→q.fd=(Gd.freeD D k:Nat)∧Gd.freeD D k<8)∧(a.kind=2→0≤a.fd∧a.fd<8)∧∃N T' φ',PSt x t r S N Z 57 K w b (Lq++Ls)∧Gd.Sim N T' (uF D a.kind k a.fd i) (doK Z k a).1 φ'))
section
variable [zg] {x t r K Kg p:Nat} {S:List UInt8} {M:Gd.Vol} {T:Nat→Gd.Tab} {Z:Pz.Fil} {φ:Nat→Nat} {D:Nat→Nat→Nat} {w w0:World} {Ls:List (Nat×Obj)}
theorem qk(Z:Pz.Fil){k:Nat}(hk:k<8)(kind:Int)(s s2:List UInt8)(fl fd off n:Int)(d:List UInt8):Pz.doA Z ((k:Int)+1) kind s s2 fl fd off n d=
 if kind=1 then Pz.opens Z ((k:Int)+1) fl s else if 2≤kind∧kind≤6 then(if Pz.ofd Z.O ((k:Int)+1) fd<0 then(Z,Pz.er 16)else Pz.file Z ((k:Int)+1) (Pz.ofd Z.O ((k:Int)+1) fd).toNat kind fd off n d)else if kind=7 then Pz.mkdir Z s else if kind=8 then Pz.rmdirR Z s else if kind=9 then Pz.link Z s s2 else if kind=10 then Pz.unlink Z s else if kind=11 then Pz.rename Z s s2 else if kind=12∨kind=13 then Pz.tells Z kind s else(Z,Pz.er 15):=by
 unfold Pz.doA;rw[if_neg (by omega)]
theorem xE(k:Nat)(a:Ak)(hk1:a.kind≠1)(hk2:a.kind≠2)(h:PSt x t r S M Z 0 K w w0 Ls){e:Ending}{b:World}(hE:qA (fun q i A c W=>i=0∧A=none∧c=0∧∃rr,q=Pz.er rr∧x8 x t r S M Z K w (qJ a zM w0++Ls) (xg M T (Uc a).data.toList a.spare) (doK Z k a) (Pz.er 0) D rr W) w0 e b):qz x t r S M T D Z K w Ls k a e b:=by
 obtain⟨q,i,A,c,W,⟨rfl,rfl,rfl,rr,rfl,hq⟩,hO,rfl⟩:=hE;have hm:=hq.map (b':=b) (Ls':=Ls) fun N c hN=>PSt.askEnd (Lq:=[]) hN hO h.lts fun _ e=>by cases e
 refine⟨Pz.er rr,none,0,0,[],rfl,Or.inl rfl,Or.inl rfl,?_⟩;rcases hm with⟨e1,e2,N,c,h1⟩|⟨e1,e2,e3,h1⟩|⟨e1,e2,N,T',φ',h1,hS⟩
 ·exact Or.inl ⟨e1,rfl,e2,N,c,h1⟩
 ·exact Or.inr (Or.inl ⟨e1,e2,rfl,e3,h1⟩)
 ·refine Or.inr (Or.inr ⟨e1,by rw[e2,e1],fun e=>absurd e hk1,fun e=>absurd e hk2,N,T',φ',h1,?_⟩);unfold uF;rw[if_neg hk1,if_neg hk2];exact hS
theorem qf(k:Nat)(hk:k<8)(kind fl fd off n spare:Int)(s s2 data:ByteArray)(drop:Bool)(hkd:kind=7∨kind=8∨kind=9∨kind=10∨kind=11)(hs:s.size≤100000)(hs2:s2.size≤100000)(h:PSt x t r S M Z 0 K w w0 Ls)(hp:(p,zL t x r D)∈Ls)(hM:Mx w)(hSim:Gd.Sim M T D Z φ)(hG:Pz.Good Kg Z):
 Calls prog 18 #[.pointer (some ⟨p,0,none⟩),akV ⟨(k:Int)+1,kind,s,s2,fl,fd,off,n,data,spare,drop⟩] w0 (qz x t r S M T D Z K w Ls k ⟨(k:Int)+1,kind,s,s2,fl,fd,off,n,data,spare,drop⟩):=by
 have hp2:=(zE (h.get hp)).2.2.1;have hpl:=za (h.get hp);have hml:0<w.heap.size:=by
  obtain⟨m,hm⟩:=hM;exact uH hm
 have hcell:∀{a:Ak} {room:Prop} {z:Pz.Fil×Pz.Rep} {rr:Int} {W:World},x8 x t r S M Z K w (qJ a zM w0++Ls) room z (Pz.er 0) D rr W→qg a zM w0 W∧W.cell? ⟨p,2,none⟩=some (.pointer (some ⟨x,0,none⟩)):=fun{a} {room} {z} {rr} {W} ho=>by
  obtain⟨N,c,hN⟩:=ho.any;exact⟨PSt.askW (Lq:=[]) hN,(zE (hN.get (List.mem_append_right _ hp))).2.2.1⟩
 rcases hkd with rfl|rfl|rfl|rfl|rfl
 ·refine(Jz ((k:Int)+1) fl fd off n spare s s2 data drop w0 (fun rr W=>x8 x t r S M Z K w (qJ ⟨(k:Int)+1,7,s,s2,fl,fd,off,n,data,spare,drop⟩ zM w0++Ls) (xg M T s.data.toList spare) (doK Z k ⟨(k:Int)+1,7,s,s2,fl,fd,off,n,data,spare,drop⟩) (Pz.er 0) D rr W) hp2 hpl fun W hb hA=> ?_).mono fun e b hE=>xE k _ (show(7:Int)≠1 by decide) (show(7:Int)≠2 by decide) h hE
  have h4:=h.askw hb hA;obtain⟨F,hm,hF,hout⟩:=h4.o;refine(J1 s spare W hm hs (h4.mx hM) hSim hG.ok).mono ?_
  rintro e W2 ⟨rr,rfl,ho⟩;have hd:doK Z k ⟨(k:Int)+1,7,s,s2,fl,fd,off,n,data,spare,drop⟩=Pz.mkdir Z s.data.toList:=qk Z hk 7 _ _ _ _ _ _ _;rw[hd];have h5:=hout _ _ _ _ _ _ ho;exact⟨rr,rfl,h5,(hcell h5).1,(hcell h5).2⟩
 ·refine(Jw ((k:Int)+1) fl fd off n spare s s2 data drop w0 (fun rr W=>x8 x t r S M Z K w (qJ ⟨(k:Int)+1,8,s,s2,fl,fd,off,n,data,spare,drop⟩ zM w0++Ls) (xg M T s.data.toList spare) (doK Z k ⟨(k:Int)+1,8,s,s2,fl,fd,off,n,data,spare,drop⟩) (Pz.er 0) D rr W) hp2 hpl fun W hb hA=> ?_).mono fun e b hE=>xE k _ (show(8:Int)≠1 by decide) (show(8:Int)≠2 by decide) h hE
  have h4:=h.askw hb hA;obtain⟨F,hm,hF,hout⟩:=h4.o;refine(J0 s W hm hs (h4.mx hM) hSim hG).mono ?_
  rintro e W2 ⟨rr,rfl,ho⟩;have hd:doK Z k ⟨(k:Int)+1,8,s,s2,fl,fd,off,n,data,spare,drop⟩=Pz.rmdirR Z s.data.toList:=qk Z hk 8 _ _ _ _ _ _ _;rw[hd];have h5:=hout (xg M T s.data.toList spare) _ _ _ _ _ (Or.elim ho (fun e=>absurd e.2.1 id) Or.inr);exact⟨rr,rfl,h5,(hcell h5).1,(hcell h5).2⟩
 ·refine(Qt ((k:Int)+1) fl fd off n spare s s2 data drop w0 (fun rr W=>x8 x t r S M Z K w (qJ ⟨(k:Int)+1,9,s,s2,fl,fd,off,n,data,spare,drop⟩ zM w0++Ls) (xg M T s2.data.toList spare) (doK Z k ⟨(k:Int)+1,9,s,s2,fl,fd,off,n,data,spare,drop⟩) (Pz.er 0) D rr W) hp2 hpl fun W hb hA=> ?_).mono fun e b hE=>xE k _ (show(9:Int)≠1 by decide) (show(9:Int)≠2 by decide) h hE
  have h4:=h.askw hb hA;obtain⟨F,hm,hF,hout⟩:=h4.o;refine(XH s s2 spare W hm hs hs2 (h4.mx hM) hSim).mono ?_
  rintro e W2 ⟨rr,rfl,ho⟩;have hd:doK Z k ⟨(k:Int)+1,9,s,s2,fl,fd,off,n,data,spare,drop⟩=Pz.link Z s.data.toList s2.data.toList:=qk Z hk 9 _ _ _ _ _ _ _;rw[hd];have h5:=hout _ _ _ _ _ _ ho;exact⟨rr,rfl,h5,(hcell h5).1,(hcell h5).2⟩
 ·refine(Zp ((k:Int)+1) fl fd off n spare s s2 data drop w0 (fun rr W=>x8 x t r S M Z K w (qJ ⟨(k:Int)+1,10,s,s2,fl,fd,off,n,data,spare,drop⟩ zM w0++Ls) (xg M T s.data.toList spare) (doK Z k ⟨(k:Int)+1,10,s,s2,fl,fd,off,n,data,spare,drop⟩) (Pz.er 0) D rr W) hp2 hpl fun W hb hA=> ?_).mono fun e b hE=>xE k _ (show(10:Int)≠1 by decide) (show(10:Int)≠2 by decide) h hE
  have h4:=h.askw hb hA;obtain⟨F,hm,hF,hout⟩:=h4.o;refine(Z8 s W hm hs (h4.mx hM) hSim).mono ?_
  rintro e W2 ⟨rr,rfl,ho⟩;have hd:doK Z k ⟨(k:Int)+1,10,s,s2,fl,fd,off,n,data,spare,drop⟩=Pz.unlink Z s.data.toList:=qk Z hk 10 _ _ _ _ _ _ _;rw[hd];have h5:=hout (xg M T s.data.toList spare) _ _ _ _ _ (Or.elim ho (fun e=>absurd e.2.1 id) Or.inr);exact⟨rr,rfl,h5,(hcell h5).1,(hcell h5).2⟩
 ·refine(Zq ((k:Int)+1) fl fd off n spare s s2 data drop w0 (fun rr W=>x8 x t r S M Z K w (qJ ⟨(k:Int)+1,11,s,s2,fl,fd,off,n,data,spare,drop⟩ zM w0++Ls) (xg M T s2.data.toList spare) (doK Z k ⟨(k:Int)+1,11,s,s2,fl,fd,off,n,data,spare,drop⟩) (Pz.er 0) D rr W) hp2 hpl fun W hb hA=> ?_).mono fun e b hE=>xE k _ (show(11:Int)≠1 by decide) (show(11:Int)≠2 by decide) h hE
  have h4:=h.askw hb hA;obtain⟨F,hm,hF,hout⟩:=h4.o;refine(Z9 s s2 spare W hm hs hs2 (h4.mx hM) (hF _ hml) hSim hG).mono ?_
  rintro e W2 ⟨rr,rfl,ho⟩;have hd:doK Z k ⟨(k:Int)+1,11,s,s2,fl,fd,off,n,data,spare,drop⟩=Pz.rename Z s.data.toList s2.data.toList:=qk Z hk 11 _ _ _ _ _ _ _;rw[hd];have h5:=hout _ _ _ _ _ _ ho;exact⟨rr,rfl,h5,(hcell h5).1,(hcell h5).2⟩
end
end
section
open Go.Shelf
section
variable [zg] {x t r c K Kg:Nat} {S:List UInt8} {M M0:Gd.Vol} {T:Nat→Gd.Tab} {Z:Pz.Fil} {φ:Nat→Nat} {D:Nat→Nat→Nat} {w a b:World} {Ls:List (Nat×Obj)}
theorem PSt.tdrop(h:PSt x t r S M Z c K w a Ls)(hG:Gd.Good S M0):Calls prog 20 #[.pointer (some ⟨t,0,none⟩)] a fun e b=>e= .returned (.tuple #[])∧PSt x t r S M0 Z 0 K w b Ls:=by
 obtain⟨F,h1,h2,h3⟩:=h.open;exact(Ud a h1 hG).mono fun e b hq=>⟨hq.1,h3 _ _ _ _ _ hq.2⟩
theorem PSt.tcommit(h:PSt x t r S M Z c K w a Ls)(hc:c≤57)(hK:K<600000000000):Calls prog 21 #[.pointer (some ⟨t,0,none⟩)] a fun e b=>e= .returned (.int .i64 0)∧∃S',PSt x t r S' M Z 0 (K+2000000) w b Ls:=by
 obtain⟨F,h1,h2,h3⟩:=h.open;refine(QE a h1 hc hK).mono ?_
 rintro e b ⟨rfl,S',hq⟩;exact⟨rfl,S',h3 _ _ _ _ _ hq⟩
theorem PSt.xdrop(k:Nat)(hk:k<8)(h:PSt x t r S M Z 0 K w a Ls)(hSim:Gd.Sim M T D Z φ):Calls prog 24 #[.pointer (some ⟨x,0,none⟩),.int .i64 ((k:Int)+1)] a fun e b=>e= .returned (.int .i64 0)∧∃N,PSt x t r S N Z 57 K w b Ls∧Gd.Sim N T (Gd.dropD D k) {Z with O:=Pz.drop Z.O ((k:Int)+1)} φ:=by
 obtain⟨F,h1,h2,h3⟩:=h.open;refine(XL k hk a h1 hSim).mono ?_
 rintro e b ⟨rfl,N,hq,hS⟩;exact⟨rfl,N,h3 _ _ _ _ _ hq,hS⟩
theorem PSt.rdrop(cl:Int)(h:PSt x t r S M Z c K w a Ls)(hO:Z.O.length≤1000000):Calls prog 36 #[.pointer (some ⟨r,0,none⟩),.int .i64 cl] a fun e b=>e= .returned (.tuple #[])∧PSt x t r S M {Z with O:=Pz.drop Z.O cl} c K w b Ls:=by
 obtain⟨G,h1,h2,h3,h4⟩:=h.doc;refine(Vr r Z cl a G hO h1).mono ?_
 rintro e b ⟨rfl,hi,ho⟩;exact⟨rfl,h4 _ _ hi ho⟩
theorem PSt.rdo(cl kind fl fd off n:Int)(s s2 data:ByteArray)(hs:s.size≤100000)(hs2:s2.size≤100000)(hq:kind<3∨6<kind)(h:PSt x t r S M Z c K w a Ls)(hG:Pz.Good 1000 Z):Calls prog 37 #[.pointer (some ⟨r,0,none⟩),.int .i64 cl,zN kind s s2 fl fd off n data] a fun e b=>∃A cp,e= .returned (xf (Pz.doA Z cl kind s.data.toList s2.data.toList fl fd off n data.data.toList).2 A cp)∧jb b a.heap.size A (Pz.doA Z cl kind s.data.toList s2.data.toList fl fd off n data.data.toList).2.names∧PSt x t r S M (Pz.doA Z cl kind s.data.toList s2.data.toList fl fd off n data.data.toList).1 c K w b Ls:=by
 obtain⟨G,h1,h2,h3,h4⟩:=h.doc;refine(VN r Z cl kind fl fd off n s s2 data a G hs hs2 hq hG h1).mono ?_
 rintro e b ⟨A,cp,rfl,hS,hi,ho⟩;exact⟨A,cp,rfl,hS,h4 _ _ hi ho⟩
theorem jb.own{W W2:World}{A:Option Addr}{N:List (List UInt8)}{M2:Gd.Vol}{Z2:Pz.Fil}{S2:List UInt8}{c2 K2:Nat}{Ls2:List (Nat×Obj)}(h:jb W 0 A N)(hN:N=[]∨∃nb o ob,A=some ⟨nb,o,none⟩∧(nb,ob)∈Ls∧(nb,ob)∈Ls2)(h1:PSt x t r S M Z c K w W Ls)(h2:PSt x t r S2 M2 Z2 c2 K2 w W2 Ls2):jb W2 0 A N:=by
 rcases hN with e|⟨nb,o,ob,e,e2,e3⟩
 ·exact Or.inl e
 ·rcases h with h|⟨b,o',g1,g2,g3,g4,g5⟩
  ·exact Or.inl h
  ·rw[e]at g1
   cases g1
   have hb:W2.heap[nb]? =W.heap[nb]? :=(h2.get e3).trans (h1.get e2).symm;exact Or.inr ⟨nb,o,e,Nat.zero_le _,za (h2.get e3),fun j x hx=>(World.cell?_of_block (w:=W) (a:=⟨nb,o+j,none⟩) hb).trans (g4 j x hx),fun j=>(World.frozen?_of_block (w:=W) (a:=⟨nb,j,none⟩) hb).trans (g5 j)⟩
end
theorem Jo(S:Pz.Fil)(cl kind:Int)(p p2:List UInt8)(flags fd off m:Int)(d:List UInt8)(hk:kind=1∨kind=2∨7≤kind):(Pz.doA S cl kind p p2 flags fd off m d).2.names.length≤S.E.length:=by
 unfold Pz.doA;split
 ·exact Nat.zero_le _
 split
 ·have:(Pz.opens S cl flags p).2.names=[]:=by
   unfold Pz.opens;repeat' split
   all_goals rfl
  rw[this];exact Nat.zero_le _
 split
 ·split
  ·exact Nat.zero_le _
  ·have e2:kind=2:=by omega
   subst e2;exact Nat.zero_le _
 split
 ·have:(Pz.mkdir S p).2.names=[]:=by
   unfold Pz.mkdir;repeat' split
   all_goals rfl
  rw[this];exact Nat.zero_le _
 split
 ·have:(Pz.rmdirR S p).2.names=[]:=by
   unfold Pz.rmdirR;repeat' split
   all_goals rfl
  rw[this];exact Nat.zero_le _
 split
 ·have:(Pz.link S p p2).2.names=[]:=by
   unfold Pz.link;repeat' split
   all_goals rfl
  rw[this];exact Nat.zero_le _
 split
 ·have:(Pz.unlink S p).2.names=[]:=by
   unfold Pz.unlink;repeat' split
   all_goals rfl
  rw[this];exact Nat.zero_le _
 split
 ·have:(Pz.rename S p p2).2.names=[]:=by
   unfold Pz.rename;repeat' split
   all_goals rfl
  rw[this];exact Nat.zero_le _
 split
 ·unfold Pz.tells;simp only
  split
  ·exact Nat.zero_le _
  ·split
   ·split<;>exact Nat.zero_le _
   ·split
    ·exact Pz.namesOf_le _ _
    ·exact Nat.zero_le _
 ·exact Nat.zero_le _
end
section
open Go.Shelf
section
variable [zg] {x t r K Kg p:Nat} {S:List UInt8} {M:Gd.Vol} {T:Nat→Gd.Tab} {Z:Pz.Fil} {φ:Nat→Nat} {D:Nat→Nat→Nat} {w w0:World} {Ls:List (Nat×Obj)}
theorem Jy(k:Nat)(hk:k<8)(fl fd off n spare:Int)(s s2 data:ByteArray)(drop:Bool)(hs:s.size≤100000)(h:PSt x t r S M Z 0 K w w0 Ls)(hp:(p,zL t x r D)∈Ls)(hM:Mx w)(hSim:Gd.Sim M T D Z φ)(hG:Pz.Good Kg Z):
 Calls prog 18 #[.pointer (some ⟨p,0,none⟩),akV ⟨(k:Int)+1,1,s,s2,fl,fd,off,n,data,spare,drop⟩] w0 (qz x t r S M T D Z K w Ls k ⟨(k:Int)+1,1,s,s2,fl,fd,off,n,data,spare,drop⟩):=by
 have hp2:=(zE (h.get hp)).2.2.1;have hpl:=za (h.get hp);have hfull:(((Gd.freeD D k:Nat):Int)==8)=decide (Gd.freeD D k=8):=by
  rw[Bool.eq_iff_iff];simp only[beq_iff_eq,decide_eq_true_eq];omega
 refine(Qq ((k:Int)+1) fl fd off n spare s s2 data drop w0 (fun i rr W=>(rr≠0→i=0)∧(rr=0→Gd.freeD D k<8)∧x8 x t r S M Z K w (qJ ⟨(k:Int)+1,1,s,s2,fl,fd,off,n,data,spare,drop⟩ zM w0++Ls) (xg M T s.data.toList spare) (doK Z k ⟨(k:Int)+1,1,s,s2,fl,fd,off,n,data,spare,drop⟩) (Pz.fdR (Gd.freeD D k)) (Gd.updD D k (Gd.freeD D k) i) rr W) hp2 hpl (Gd.freeD D k) _ hfull (fun W hb=> ?_) fun W hb hA=> ?_).mono ?_
 ·have hc:=(zE ((h.below hb).get hp)).2.2.2.2.1;refine(Xj k hk (D k) W fun f hf=>hc k f hk hf).mono ?_
  rintro e W2 ⟨⟨f,rfl,h1,h2,h3⟩,rfl⟩;have:Gd.freeD D k=f:=by
   obtain⟨-,e1,e2,e3⟩:=Gd.freeDN_is (D:=D) (k:=k) 8 0;unfold Gd.freeD;rcases Nat.lt_trichotomy (Gd.freeDN D k 8 0) f with e|e|e
   ·exact absurd (e2 (by omega)) (h2 _ e)
   ·exact e
   ·exact absurd (h3 (by omega)) (e3 f (Nat.zero_le _) e)
  rw[this];exact⟨rfl,rfl⟩
 ·have h4:=h.askw hb hA;obtain⟨F,hm,hF,hout⟩:=h4.o;refine(XC k hk s fl spare W hm hs (h4.mx hM) hSim hG.ok).mono ?_
  rintro e W2 ⟨i,rr,rfl,h1,h2,ho⟩;have hd:doK Z k ⟨(k:Int)+1,1,s,s2,fl,fd,off,n,data,spare,drop⟩=Pz.opens Z ((k:Int)+1) fl s.data.toList:=qk Z hk 1 _ _ _ _ _ _ _;rw[hd];have h5:=hout _ _ _ _ _ _ ho;obtain⟨N,c,hN⟩:=h5.any;exact⟨i,rr,rfl,⟨h1,h2,h5⟩,PSt.askW (Lq:=[]) hN,(zE (hN.get (List.mem_append_right _ hp))).2.2.1⟩
 ·rintro e b ⟨q,i,A,c,W,⟨rfl,rfl,rr,⟨h1,h2,hq⟩,hqe⟩,hO,rfl⟩;have hm:=hq.map (b':=b) (Ls':=Ls) fun N c hN=>PSt.askEnd (Lq:=[]) hN hO h.lts fun _ e=>by cases e
  have hnm:q.names=[]:=by
   rw[hqe];split<;>rfl
  refine⟨q,none,0,i,[],rfl,Or.inl hnm,Or.inl hnm,?_⟩;rcases hm with⟨e1,e2,N,c,g1⟩|⟨e1,e2,e3,g1⟩|⟨e1,e2,N,T',φ',g1,hS⟩
  ·rw[if_neg (by omega)]at hqe;exact Or.inl ⟨by rw[hqe];exact e1,h1 (by omega),e2,N,c,g1⟩
  ·rw[if_neg e1]at hqe;exact Or.inr (Or.inl ⟨by rw[hqe];exact e1,by rw[hqe];exact e2,h1 e1,by rw[hqe];exact e3,g1⟩)
  ·rw[if_pos e1]at hqe;refine Or.inr (Or.inr ⟨by rw[hqe];rfl,by rw[hqe];exact e2,fun _=>⟨by rw[hqe];rfl,h2 e1⟩,fun e=>absurd e (show(1:Int)≠2 by decide),N,T',φ',g1,hS⟩)
theorem Zr(k:Nat)(hk:k<8)(fl fd off n spare:Int)(s s2 data:ByteArray)(drop:Bool)(h:PSt x t r S M Z 0 K w w0 Ls)(hp:(p,zL t x r D)∈Ls)(hSim:Gd.Sim M T D Z φ):
 Calls prog 18 #[.pointer (some ⟨p,0,none⟩),akV ⟨(k:Int)+1,2,s,s2,fl,fd,off,n,data,spare,drop⟩] w0 (qz x t r S M T D Z K w Ls k ⟨(k:Int)+1,2,s,s2,fl,fd,off,n,data,spare,drop⟩):=by
 have hp2:=(zE (h.get hp)).2.2.1;have hpl:=za (h.get hp);have hd0:doK Z k ⟨(k:Int)+1,2,s,s2,fl,fd,off,n,data,spare,drop⟩=if Pz.ofd Z.O ((k:Int)+1) fd<0 then(Z,Pz.er 16)else({Z with O:=Pz.shut Z.O ((k:Int)+1) fd},Pz.er 0):=qk Z hk 2 _ _ _ _ _ _ _
 by_cases hfd:0≤fd∧fd<8
 ·obtain⟨f,rfl⟩:∃f:Nat,fd=f:=⟨fd.toNat,by omega⟩;have hf8:f<8:=by omega
  have hd4:=(zE (h.get hp)).2.2.2.2.1 k f hk hf8;refine(JB fl off n spare s s2 data drop w0 (fun rr W=>x8 x t r S M Z K w (qJ ⟨(k:Int)+1,2,s,s2,fl,(f:Int),off,n,data,spare,drop⟩ vu w0++Ls) False (doK Z k ⟨(k:Int)+1,2,s,s2,fl,(f:Int),off,n,data,spare,drop⟩) (Pz.er 0) (Gd.updD D k f 0) rr W) hp2 hpl k f (D k f) hk hf8 hd4 fun W hb hA=> ?_).mono ?_
  ·have h4:=h.askw hb hA;obtain⟨F,hm,hF,hout⟩:=h4.o;refine(J3 k f hk hf8 W hm hSim).mono ?_
   rintro e W2 ⟨rr,rfl,ho⟩;rw[←hd0]at ho;have h5:=hout _ _ _ _ _ _ ho;obtain⟨N,c,hN⟩:=h5.any;refine⟨rr,rfl,h5,PSt.askW (Lq:=[]) hN,fun j=> ?_⟩;exact World.cell?_of_block (w:=w0) (a:=⟨p,j,none⟩) ((hN.get (List.mem_append_right _ hp)).trans (h.get hp).symm)
  ·rintro e b ⟨q,i,A,c,W,⟨rfl,rfl,rfl,rr,rfl,hq⟩,hO,rfl⟩;have hm:=hq.map (b':=b) (Ls':=Ls) fun N c hN=>PSt.askEnd (Lq:=[]) hN hO h.lts fun _ e=>by cases e
   refine⟨Pz.er rr,none,0,0,[],rfl,Or.inl rfl,Or.inl rfl,?_⟩;rcases hm with⟨e1,e2,N,c,g1⟩|⟨e1,e2,e3,g1⟩|⟨e1,e2,N,T',φ',g1,hS⟩
   ·exact absurd e2 id
   ·exact Or.inr (Or.inl ⟨e1,e2,rfl,e3,g1⟩)
   ·exact Or.inr (Or.inr ⟨e1,by rw[e2,e1],fun e=>absurd e (show(2:Int)≠1 by decide),fun _=>hfd,N,T',φ',g1,hS⟩)
 ·have ho:Pz.ofd Z.O ((k:Int)+1) fd<0:=by
   rw[hSim.ofd k hk fd,if_neg (fun e=>hfd ⟨e.1,e.2.1⟩)];decide
  rw[if_pos ho]at hd0;refine(Zs ((k:Int)+1) fl fd off n spare s s2 data drop w0 hp2 hpl hfd).mono ?_
  rintro e b ⟨q,i,A,c,W,⟨rfl,rfl,rfl,rfl,hb⟩,hO,rfl⟩;have hb2:Below w0.heap.size w0 b:=hb.trans (hO.below hb.size fun q hq e=>by omega);exact⟨Pz.er 16,none,0,0,[],rfl,Or.inl rfl,Or.inl rfl,Or.inr (Or.inl ⟨by decide,by decide,rfl,hd0,h.below hb2⟩)⟩
theorem JA(k:Nat)(hk:k<8)(fl fd off n spare:Int)(s s2 data:ByteArray)(drop:Bool)(hs:s.size≤100000)(h:PSt x t r S M Z 0 K w w0 Ls)(hp:(p,zL t x r D)∈Ls)(hM:Mx w)(hSim:Gd.Sim M T D Z φ)(hG:Pz.Good Kg Z):
 Calls prog 18 #[.pointer (some ⟨p,0,none⟩),akV ⟨(k:Int)+1,12,s,s2,fl,fd,off,n,data,spare,drop⟩] w0 (qz x t r S M T D Z K w Ls k ⟨(k:Int)+1,12,s,s2,fl,fd,off,n,data,spare,drop⟩):=by
 have hp2:=(zE (h.get hp)).2.2.1;have hpl:=za (h.get hp);have hd:doK Z k ⟨(k:Int)+1,12,s,s2,fl,fd,off,n,data,spare,drop⟩=Pz.tells Z 12 s.data.toList:=qk Z hk 12 _ _ _ _ _ _ _;have hte:∃e N,Pz.tells Z 12 s.data.toList=(Z,⟨e,0,[],N,0,0,0⟩)∧e≠18:=by
  unfold Pz.tells
  cases hf:Pz.find Z s.data.toList with
  |error e=>
   have:=Pz.find_err hf
   exact⟨e,[],rfl,by omega⟩
  |ok i=>
   dsimp only;rw[if_neg (by decide)];by_cases hdn:Pz.isDir Z.N i=true
   ·rw[if_pos hdn];exact⟨0,_,rfl,by decide⟩
   ·rw[if_neg hdn];exact⟨12,[],rfl,by decide⟩
 obtain⟨E,N,hE,h18⟩:=hte;refine(Qs ((k:Int)+1) fl fd off n spare s s2 data drop w0 (fun A cp N2 rr W=>N2=N∧rr=E∧jb W 0 A N∧∃Lq,(N=[]∨∃nb o ob,A=some ⟨nb,o,none⟩∧(nb,ob)∈Lq)∧(∀q∈Lq,w0.heap.size+4≤q.1)∧PSt x t r S M Z 0 K w W (Lq++(qJ ⟨(k:Int)+1,12,s,s2,fl,fd,off,n,data,spare,drop⟩ zM w0++Ls))) hp2 hpl fun W hb hA=> ?_).mono ?_
 ·have h4:=h.askw hb hA;obtain⟨F,hm,-,-⟩:=h4.open;have hsz:w0.heap.size+4≤W.heap.size:=za hA.c8;refine(XE s W hm hs (h4.mx hM) hSim hG).mono ?_
  rintro e W2 ⟨A,cp,rfl,hS,hb2⟩;rw[hE]at hS⊢;have h5:=h4.below hb2;rcases hS with e|⟨nb,o,e1,e2,e3,e4⟩
  ·refine⟨A,cp,N,E,rfl,⟨rfl,rfl,Or.inl e,[],Or.inl e,(fun q hq=>by cases hq),h5⟩,PSt.askW (Lq:=[]) h5,(zE (h5.get (List.mem_append_right _ hp))).2.2.1⟩
  ·obtain⟨ob,hob⟩:∃ob,W2.heap[nb]? =some ob:=⟨_,Array.getElem?_eq_getElem e3⟩;have h6:=h4.new hb2 e2 hob;refine⟨A,cp,N,E,rfl,⟨rfl,rfl,Or.inr ⟨nb,o,e1,Nat.zero_le _,e3,e4⟩,[(nb,ob)],Or.inr ⟨nb,o,ob,e1,List.mem_singleton.2 rfl⟩,(fun q hq=>by rw[List.mem_singleton.1 hq];exact Nat.le_trans hsz e2),h6⟩,PSt.askW (Lq:=[(nb,ob)]) h6,(zE (h5.get (List.mem_append_right _ hp))).2.2.1⟩
 ·rintro e b ⟨q,i,A,c,W,⟨rfl,N2,rr,rfl,rfl,rfl,hS,Lq,hN,hLq,hP⟩,hO,rfl⟩;have h7:=PSt.askEnd hP hO h.lts hLq;have hS7:jb b 0 A N2:=by
   rcases hN with e|⟨nb,o,ob,e1,e2⟩
   ·exact Or.inl e
   ·rcases hS with e|⟨b',o',g1,g2,g3,g4,g5⟩
    ·exact Or.inl e
    ·rw[e1]at g1
     cases g1
     have hbb:b.heap[nb]? =W.heap[nb]? :=(h7.get (List.mem_append_left _ e2)).trans (hP.get (List.mem_append_left _ e2)).symm;exact Or.inr ⟨nb,o,e1,Nat.zero_le _,za (h7.get (List.mem_append_left _ e2)),fun j x hx=>(World.cell?_of_block (w:=W) (a:=⟨nb,o+j,none⟩) hbb).trans (g4 j x hx),fun j=>(World.frozen?_of_block (w:=W) (a:=⟨nb,j,none⟩) hbb).trans (g5 j)⟩
  refine⟨_,A,c,0,Lq,rfl,hS7,hN,?_⟩;by_cases h0:rr=0
  ·refine Or.inr (Or.inr ⟨h0,by rw[hd,hE],fun e=>absurd e (show(12:Int)≠1 by decide),fun e=>absurd e (show(12:Int)≠2 by decide),M,T,φ,?_,?_⟩)
   ·obtain⟨F',G,g1,g2,g3,g4⟩:=h7;exact⟨F',G,g1.mono fun hi=>hi.more (by omega) (Nat.le_refl _),g2,g3,g4⟩
   ·rw[hd,hE];exact hSim
  ·exact Or.inr (Or.inl ⟨h0,h18,rfl,by rw[hd,hE],h7⟩)
theorem Jv(k:Nat)(hk:k<8)(fl fd off n spare:Int)(s s2 data:ByteArray)(drop:Bool)(hs:s.size≤100000)(h:PSt x t r S M Z 0 K w w0 Ls)(hp:(p,zL t x r D)∈Ls)(hM:Mx w)(hSim:Gd.Sim M T D Z φ)(hG:Pz.Good Kg Z):
 Calls prog 18 #[.pointer (some ⟨p,0,none⟩),akV ⟨(k:Int)+1,13,s,s2,fl,fd,off,n,data,spare,drop⟩] w0 (qz x t r S M T D Z K w Ls k ⟨(k:Int)+1,13,s,s2,fl,fd,off,n,data,spare,drop⟩):=by
 have hp2:=(zE (h.get hp)).2.2.1;have hpl:=za (h.get hp);have hd:doK Z k ⟨(k:Int)+1,13,s,s2,fl,fd,off,n,data,spare,drop⟩=Pz.tells Z 13 s.data.toList:=qk Z hk 13 _ _ _ _ _ _ _;have hte:∃e ik il is,Pz.tells Z 13 s.data.toList=(Z,⟨e,0,[],[],ik,il,is⟩)∧e≠18:=by
  unfold Pz.tells
  cases hf:Pz.find Z s.data.toList with
  |error e=>
   have:=Pz.find_err hf
   exact⟨e,0,0,0,rfl,by omega⟩
  |ok i=>
   dsimp only;rw[if_pos rfl];by_cases hdn:Pz.isDir Z.N i=true
   ·rw[if_pos hdn];exact⟨0,_,_,_,rfl,by decide⟩
   ·rw[if_neg hdn];exact⟨0,_,_,_,rfl,by decide⟩
 obtain⟨E,ik,il,is,hE,h18⟩:=hte;refine(Qp ((k:Int)+1) fl fd off n spare s s2 data drop w0 (fun a b c rr W=>a=ik∧b=il∧c=is∧rr=E∧PSt x t r S M Z 0 K w W (qJ ⟨(k:Int)+1,13,s,s2,fl,fd,off,n,data,spare,drop⟩ zM w0++Ls)) hp2 hpl fun W hb hA=> ?_).mono ?_
 ·have h4:=h.askw hb hA;obtain⟨F,hm,-,-⟩:=h4.open;refine(XB s W hm hs (h4.mx hM) hSim hG).mono ?_
  rintro e W2 ⟨rfl,hb2⟩;rw[hE];have h5:=h4.below hb2;exact⟨ik,il,is,E,rfl,⟨rfl,rfl,rfl,rfl,h5⟩,PSt.askW (Lq:=[]) h5,(zE (h5.get (List.mem_append_right _ hp))).2.2.1⟩
 ·rintro e b ⟨q,i,A,c,W,⟨rfl,rfl,rfl,a1,a2,a3,rr,rfl,rfl,rfl,rfl,rfl,hP⟩,hO,rfl⟩;have h7:=PSt.askEnd (Lq:=[]) hP hO h.lts fun _ e=>by cases e
  refine⟨_,none,0,0,[],rfl,Or.inl rfl,Or.inl rfl,?_⟩;by_cases h0:rr=0
  ·refine Or.inr (Or.inr ⟨h0,by rw[hd,hE],fun e=>absurd e (show(13:Int)≠1 by decide),fun e=>absurd e (show(13:Int)≠2 by decide),M,T,φ,?_,?_⟩)
   ·obtain⟨F',G,g1,g2,g3,g4⟩:=h7;exact⟨F',G,g1.mono fun hi=>hi.more (by omega) (Nat.le_refl _),g2,g3,g4⟩
   ·rw[hd,hE];exact hSim
  ·exact Or.inr (Or.inl ⟨h0,h18,rfl,by rw[hd,hE],h7⟩)
def j6(kind:Int):Prop:=kind=1∨kind=2∨kind=7∨kind=8∨kind=9∨kind=10∨kind=11∨kind=12∨kind=13
theorem Ye(k:Nat)(hk:k<8)(kind fl fd off n spare:Int)(s s2 data:ByteArray)(drop:Bool)(hkd:j6 kind)(hs:s.size≤100000)(hs2:s2.size≤100000)(h:PSt x t r S M Z 0 K w w0 Ls)(hp:(p,zL t x r D)∈Ls)(hM:Mx w)(hSim:Gd.Sim M T D Z φ)(hG:Pz.Good Kg Z):
 Calls prog 18 #[.pointer (some ⟨p,0,none⟩),akV ⟨(k:Int)+1,kind,s,s2,fl,fd,off,n,data,spare,drop⟩] w0 (qz x t r S M T D Z K w Ls k ⟨(k:Int)+1,kind,s,s2,fl,fd,off,n,data,spare,drop⟩):=by
 rcases hkd with rfl|rfl|h1|h1|h1|h1|h1|rfl|rfl
 ·exact Jy k hk fl fd off n spare s s2 data drop hs h hp hM hSim hG
 ·exact Zr k hk fl fd off n spare s s2 data drop h hp hSim
 ·exact qf k hk kind fl fd off n spare s s2 data drop (by omega) hs hs2 h hp hM hSim hG
 ·exact qf k hk kind fl fd off n spare s s2 data drop (by omega) hs hs2 h hp hM hSim hG
 ·exact qf k hk kind fl fd off n spare s s2 data drop (by omega) hs hs2 h hp hM hSim hG
 ·exact qf k hk kind fl fd off n spare s s2 data drop (by omega) hs hs2 h hp hM hSim hG
 ·exact qf k hk kind fl fd off n spare s s2 data drop (by omega) hs hs2 h hp hM hSim hG
 ·exact JA k hk fl fd off n spare s s2 data drop hs h hp hM hSim hG
 ·exact Jv k hk fl fd off n spare s s2 data drop hs h hp hM hSim hG
end
end
section
open Go.Shelf
attribute [local go_sem] Oper.semAt_some
theorem sizeCall14:(prog.info? 27).map (fun i=>i.size)=some 8:=by kernel_rfl
theorem infoAsk:(prog.info? 29).map (·.size)=some 11:=by kernel_rfl
theorem yu(kind fl fd off n:Int)(s s2 data:ByteArray):(#[.int .i64 kind,.string s,.string s2,.int .i64 fl,.int .i64 fd,.int .i64 off,.int .i64 n,.string data]:Array Value).all (·.oneCell')=true:=by
 refine all_oneCell_toArray fun v hv=> ?_;simp only[List.mem_cons,List.mem_nil_iff,or_false]at hv;rcases hv with rfl|rfl|rfl|rfl|rfl|rfl|rfl|rfl<;>rfl
theorem Zt{W:World}{b t:Nat}{a0 a1 a2 a3 a4 a5 a6 a7 a8 a9 a10:Value}(h:W.heap[b]? =some (.cells #[a0,a1,a2,a3,a4,a5,a6,a7,a8,a9,a10] t (0,0)))(v1 v2 v3 v4 v5 v6 v7 v8:Value):(W.setCells b 1 [v1,v2,v3,v4,v5,v6,v7,v8]).heap[b]? =some (.cells #[a0,v1,v2,v3,v4,v5,v6,v7,v8,a9,a10] t (0,0)):=by
 have h1:_=some (Obj.cells #[a0,v1,a2,a3,a4,a5,a6,a7,a8,a9,a10] t (0,0)):=heap_setCell_same W b 1 _ _ v1 h;have h2:_=some (Obj.cells #[a0,v1,v2,a3,a4,a5,a6,a7,a8,a9,a10] t (0,0)):=heap_setCell_same _ b 2 _ _ v2 h1;have h3:_=some (Obj.cells #[a0,v1,v2,v3,a4,a5,a6,a7,a8,a9,a10] t (0,0)):=heap_setCell_same _ b 3 _ _ v3 h2;have h4:_=some (Obj.cells #[a0,v1,v2,v3,v4,a5,a6,a7,a8,a9,a10] t (0,0)):=heap_setCell_same _ b 4 _ _ v4 h3;have h5:_=some (Obj.cells #[a0,v1,v2,v3,v4,v5,a6,a7,a8,a9,a10] t (0,0)):=heap_setCell_same _ b 5 _ _ v5 h4;have h6:_=some (Obj.cells #[a0,v1,v2,v3,v4,v5,v6,a7,a8,a9,a10] t (0,0)):=heap_setCell_same _ b 6 _ _ v6 h5;have h7:_=some (Obj.cells #[a0,v1,v2,v3,v4,v5,v6,v7,a8,a9,a10] t (0,0)):=heap_setCell_same _ b 7 _ _ v7 h6;have h8:_=some (Obj.cells #[a0,v1,v2,v3,v4,v5,v6,v7,v8,a9,a10] t (0,0)):=heap_setCell_same _ b 8 _ _ v8 h7;exact h8
theorem qS{W:World}{b t:Nat}{a0 a1 a2 a3 a4 a5 a6 a7 a8 a9 a10:Value}(h:W.heap[b]? =some (.cells #[a0,a1,a2,a3,a4,a5,a6,a7,a8,a9,a10] t (0,0))):W.cell? ⟨b,0,none⟩=some a0∧W.cell? ⟨b,1,none⟩=some a1∧W.cell? ⟨b,2,none⟩=some a2∧W.cell? ⟨b,3,none⟩=some a3∧W.cell? ⟨b,4,none⟩=some a4∧W.cell? ⟨b,5,none⟩=some a5∧W.cell? ⟨b,6,none⟩=some a6∧W.cell? ⟨b,7,none⟩=some a7∧W.cell? ⟨b,8,none⟩=some a8∧W.cell? ⟨b,9,none⟩=some a9∧W.cell? ⟨b,10,none⟩=some a10:=
 ⟨cell_of_row W b 0 _ _ _ h,cell_of_row W b 1 _ _ _ h,cell_of_row W b 2 _ _ _ h,cell_of_row W b 3 _ _ _ h,cell_of_row W b 4 _ _ _ h,cell_of_row W b 5 _ _ _ h,cell_of_row W b 6 _ _ _ h,cell_of_row W b 7 _ _ _ h,cell_of_row W b 8 _ _ _ h,cell_of_row W b 9 _ _ _ h,cell_of_row W b 10 _ _ _ h⟩
theorem ya{b3 p:Nat}{o1 o2 o3:Obj}(hne:p≠b3):∀q∈[(b3,o2),(p,o3)],q=(b3,o2)∨(q∈[(b3,o1),(p,o3)]∧q.1≠b3):=fun q hq=>by
 rcases List.mem_cons.1 hq with e|e
 ·exact Or.inl e
 ·refine Or.inr ⟨List.mem_cons_of_mem _ e,?_⟩;rw[List.mem_singleton.1 e];exact hne
theorem PSt.more[zg]{x t r c c2 K K2:Nat}{S:List UInt8}{M:Gd.Vol}{Z:Pz.Fil}{w a:World}{Ls:List (Nat×Obj)}(h:PSt x t r S M Z c K w a Ls)(hc:c≤c2)(hK:K≤K2):PSt x t r S M Z c2 K2 w a Ls:=by
 obtain⟨F',G,g1,g2,g3,g4⟩:=h;exact⟨F',G,g1.mono fun hi=>hi.more hc hK,g2,g3,g4⟩
def yy[zg](x t r p K g:Nat)(w b:World):Prop:=∃S N T' D' Z' φ',PSt x t r S N Z' 0 K w b [(p,zL t x r D')]∧Gd.Sim N T' D' Z' φ'∧Pz.Good g Z'∧Pz.Few Z'
theorem vU[zg]{t x r:Nat}{D:Nat→Nat→Nat}{k f i:Nat}(hk:k<8)(hf:f<8):(js t x r D).setIfInBounds (4+k*8+f) (.int .i64 (i:Nat))=js t x r (Gd.updD D k f i):=by
 rw[show 4+k*8+f=4+(8*k+f) by omega];exact Xq hk hf
theorem Z3[zg]{t x r:Nat}{D E:Nat→Nat→Nat}(h:∀k f,k<8→f<8→D k f=E k f):js t x r D=js t x r E:=by
 unfold js;refine congrArg (fun l:List Value=>_++l.toArray) (List.map_congr_left fun j hj=> ?_);rw[h (j/8) (j % 8) (by have:=List.mem_range.1 hj;omega) (by omega)]
theorem Vl[zg]{W:World}{p t x r k:Nat}{D:Nat→Nat→Nat}(hk:k<8)(h:W.heap[p]? =some (zL t x r D)):(W.setCells p (4+k*8) [.int .i64 0,.int .i64 0,.int .i64 0,.int .i64 0,.int .i64 0,.int .i64 0,.int .i64 0,.int .i64 0]).heap[p]? =some (zL t x r (Gd.dropD D k)):=by
 have st:∀(W:World) (E:Nat→Nat→Nat) (f:Nat),f<8→W.heap[p]? =some (zL t x r E)→(W.setCell ⟨p,4+k*8+f,none⟩ (.int .i64 0)).heap[p]? =some (zL t x r (Gd.updD E k f 0)):=fun W E f hf hW=>by
  have h1:=heap_setCell_same W p (4+k*8+f) _ _ (.int .i64 0) hW;rw[show(js t x r E).setIfInBounds (4+k*8+f) (.int .i64 0)=js t x r (Gd.updD E k f 0) from vU hk hf]at h1;exact h1
 have h8:=st _ _ 7 (by omega) (st _ _ 6 (by omega) (st _ _ 5 (by omega) (st _ _ 4 (by omega) (st _ _ 3 (by omega) (st _ _ 2 (by omega) (st _ _ 1 (by omega) (st _ _ 0 (by omega) h)))))));refine Eq.trans h8 (congrArg (fun C=>some (Obj.cells C _ (0,0))) (Z3 fun a f ha hf=> ?_));unfold Gd.dropD Gd.updD;by_cases e:a=k
 ·subst e;rcases(by omega:f=0∨f=1∨f=2∨f=3∨f=4∨f=5∨f=6∨f=7)with rfl|rfl|rfl|rfl|rfl|rfl|rfl|rfl<;>simp
 ·simp[e]
end
end Go.Proofs.YtjlpkbhgphjpeaaGreatDoor
