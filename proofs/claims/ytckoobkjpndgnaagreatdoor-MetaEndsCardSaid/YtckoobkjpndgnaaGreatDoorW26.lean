/- Walks: commonslaw14: asked, at one kind of call (what the volume does is a hypothesis). -/
import Derived.Test.YtckoobkjpndgnaaGreatDoorW18
set_option linter.unusedVariables false
set_option linter.unusedSimpArgs false
set_option linter.unusedSectionVars false
set_option maxHeartbeats 8000000
set_option maxRecDepth 100000
namespace Go.Proofs.YtckoobkjpndgnaaGreatDoor
open Go.RowKit
open Lib(hid)
open Go.Proofs.Tryz
attribute [local go_sem] Oper.semAt_some
structure Ak where
 cl:Int
 kind:Int
 p:ByteArray
 p2:ByteArray
 flags:Int
 fd:Int
 off:Int
 n:Int
 data:ByteArray
 spare:Int
 drop:Bool
def akC(a:Ak):Array Value:=#[.int .i64 a.cl,.int .i64 a.kind,.string a.p,.string a.p2,.int .i64 a.flags,.int .i64 a.fd,.int .i64 a.off,.int .i64 a.n,.string a.data,.int .i64 a.spare,.bool a.drop]
def akV(a:Ak):Value:= .agg (akC a)
def akCall(a:Ak):Array Value:=#[.int .i64 a.kind,.string a.p,.string a.p2,.int .i64 a.flags,.int .i64 a.fd,.int .i64 a.off,.int .i64 a.n,.string a.data]
def zRepC:Array Value:=#[.int .i64 0,.int .i64 0,.string ⟨#[]⟩,.slice none 0 0,.int .i64 0,.int .i64 0,.int .i64 0]
structure AskW(a:Ak)(R:Array Value)(w W:World):Prop where
 c3:W.heap[w.heap.size]? =some (.cells (akC a) 30 (0,0))
 c4:W.heap[w.heap.size+1]? =some (.cells zRepC 47 (0,0))
 c7:W.heap[w.heap.size+1+1]? =some (.cells (akCall a) 28 (0,0))
 c8:W.heap[w.heap.size+1+1+1]? =some (.cells R 47 (0,0))
theorem AskW.keep{a:Ak}{R:Array Value}{w V W:World}(h:AskW a R w V)(hb:Below V.heap.size V W):AskW a R w W:=
 ⟨(hb.block _ (lt_get h.c3)).trans h.c3,(hb.block _ (lt_get h.c4)).trans h.c4,(hb.block _ (lt_get h.c7)).trans h.c7,(hb.block _ (lt_get h.c8)).trans h.c8⟩
def askWorld(a:Ak)(w:World):World:=(((w.alloc (.cells (akC a) 30)).alloc (.cells zRepC 47)).alloc (.cells (akCall a) 28)).alloc (.cells zRepC 47)
theorem ask_start(a:Ak)(w:World):AskW a zRepC w (askWorld a w)∧Below w.heap.size w (askWorld a w):=by
 have hb1:∀(V:World) (o:Obj),Below V.heap.size V (V.alloc o):=fun V o=>(Below.refl _ V).alloc (Nat.le_refl _) o;have s1:∀(V:World) (o:Obj),(V.alloc o).heap.size=V.heap.size+1:=fun V o=>World.size_alloc V o;obtain⟨w1,h1⟩:=nm (w.alloc (.cells (akC a) 30));obtain⟨w2,h2⟩:=nm (w1.alloc (.cells zRepC 47));obtain⟨w3,h3⟩:=nm (w2.alloc (.cells (akCall a) 28));obtain⟨w4,h4⟩:=nm (w3.alloc (.cells zRepC 47));have e1:w1.heap.size=w.heap.size+1:=by rw[h1,s1]
 have e2:w2.heap.size=w.heap.size+1+1:=by rw[h2,s1,e1]
 have e3:w3.heap.size=w.heap.size+1+1+1:=by rw[h3,s1,e2]
 have b1:Below w.heap.size w w1:=by rw[h1];exact hb1 _ _
 have b2:Below w1.heap.size w1 w2:=by rw[h2];exact hb1 _ _
 have b3:Below w2.heap.size w2 w3:=by rw[h3];exact hb1 _ _
 have b4:Below w3.heap.size w3 w4:=by rw[h4];exact hb1 _ _
 have g1:w1.heap[w.heap.size]? =some (.cells (akC a) 30 (0,0)):=by rw[h1];exact heap_alloc_new _ _
 have g2:w2.heap[w1.heap.size]? =some (.cells zRepC 47 (0,0)):=by rw[h2];exact heap_alloc_new _ _
 have g3:w3.heap[w2.heap.size]? =some (.cells (akCall a) 28 (0,0)):=by rw[h3];exact heap_alloc_new _ _
 have g4:w4.heap[w3.heap.size]? =some (.cells zRepC 47 (0,0)):=by rw[h4];exact heap_alloc_new _ _
 have e:askWorld a w=w4:=by rw[h4,h3,h2,h1];rfl
 rw[e];refine⟨⟨?_,?_,?_,?_⟩,b1.trans ((b2.trans ((b3.trans (b4.mono b3.size)).mono b2.size)).mono b1.size)⟩
 ·rw[b4.block _ (by omega),b3.block _ (by omega),b2.block _ (by omega)];exact g1
 ·rw[b4.block _ (by omega),b3.block _ (by omega),←e1];exact g2
 ·rw[b4.block _ (by omega),←e2];exact g3
 ·rw[←e3];exact g4
theorem sizeRep:(prog.info? 47).map (fun i=>i.size)=some 7:=by kernel_rfl
theorem infoRep:(prog.info? 47).map (·.size)=some 7:=by kernel_rfl
theorem results_row_tmp2{P:Program}{fn:Func}{p u v:Tmp}{ty:TypeId}(h:fn.results=#[.cell p ty,.tmp u,.tmp v])(tmps:Array Value)(w:World)(g:Nat)(t:TypeId)(cs:Array Value)(fr:Nat×Nat)(d:TypeDesc)
 (hp:tmps.getD p undef= .pointer (some ⟨g,0,none⟩))(hg:w.heap[g]? =some (.cells cs t fr))
 (hu:P.underlying ty=some d)(hd:(match d with| .struct _| .array _ _=>true|_=>false)=true)(hi:(P.info? ty).map (·.size)=some cs.size):
 (results fn tmps).run P w= .ok (.tuple #[.agg cs,tmps.getD u undef,tmps.getD v undef]) w:=by
 have hp':tmps[p]?.getD undef= .pointer (some ⟨g,0,none⟩):=by simpa using hp
 simp[results,h,hp',asAddr,run_loadVar_row w g t ty cs fr d hg hu hd hi]
theorem rep_one(e fd k l s:Int)(d:ByteArray)(A:Option Addr)(n c:Nat):(#[.int .i64 e,.int .i64 fd,.string d,.slice A n c,.int .i64 k,.int .i64 l,.int .i64 s]:Array Value).all (·.oneCell')=true:=by
 refine all_oneCell_toArray fun v hv=> ?_;simp only[List.mem_cons,List.mem_nil_iff,or_false]at hv;rcases hv with rfl|rfl|rfl|rfl|rfl|rfl|rfl<;>rfl
def AskEnd(Q:Pz.Rep→Nat→Option Addr→Nat→World→Prop)(w:World)(e:Ending)(b:World):Prop:=
 ∃q i A c W,Q q i A c W∧Only (fun k=>k=w.heap.size+1∨k=w.heap.size+1+1+1) W b∧e= .returned (.tuple #[repV q A c,.int .i64 (i:Nat),.bool true])
theorem asked_mkdir{p x:Nat}(cl fl fd off n spare:Int)(s s2 data:ByteArray)(drop:Bool)(w:World)(Q:Int→World→Prop)(hp:w.cell? ⟨p,2,none⟩=some (.pointer (some ⟨x,0,none⟩)))(hpl:p<w.heap.size)
 (hC:∀W,Below w.heap.size w W→AskW ⟨cl,7,s,s2,fl,fd,off,n,data,spare,drop⟩ zRepC w W→Calls prog 29 #[.pointer (some ⟨x,0,none⟩),.string s,.int .i64 spare] W fun e W2=>∃r:Int,e= .returned (.int .i64 r)∧Q r W2∧AskW ⟨cl,7,s,s2,fl,fd,off,n,data,spare,drop⟩ zRepC w W2∧W2.cell? ⟨p,2,none⟩=some (.pointer (some ⟨x,0,none⟩))):
 Calls prog 9 #[.pointer (some ⟨p,0,none⟩),akV ⟨cl,7,s,s2,fl,fd,off,n,data,spare,drop⟩] w (AskEnd (fun q i A c W=>i=0∧A=none∧c=0∧∃r,q=Pz.er r∧Q r W) w):=by
 obtain⟨w4,hw4⟩:=nm (askWorld ⟨cl,7,s,s2,fl,fd,off,n,data,spare,drop⟩ w);obtain⟨ha4,hb4⟩:=ask_start ⟨cl,7,s,s2,fl,fd,off,n,data,spare,drop⟩ w;rw[←hw4]at ha4 hb4;have HA4:=hid ha4;have HC:=hid (hC _ (hb4.drew) (ha4.keep (Below.refl _ _).drew));have hp4:=(hb4.cell (p:=⟨p,2,none⟩) hpl).trans hp;have HP4:=hid hp4;have HPl:=hid hpl;have HW4:=hid hw4;have HSz:=hid hb4.size;unfold askWorld akC akCall zRepC at HW4;try dsimp only at HW4
 unfold akV akC;try dsimp only
 clear hC hpl hw4 ha4 hb4 hp hp4;go_enter func9,ntmps9;go_upto_region 16 with fail
 rw[←HW4.o];have ha4:=HA4.o;obtain⟨b3,hb3⟩:=nm w.heap.size;have Hb3:=hid hb3;have hs0:w4.cell? ⟨p,2,none⟩=some (.pointer (some ⟨x,0,none⟩))∧w4.cell? ⟨b3+1+1,1,none⟩=some (.string s)∧w4.cell? ⟨b3,9,none⟩=some (.int .i64 spare):=by
  rw[hb3];exact⟨HP4.o,cell_of_row w4 _ 1 _ _ _ ha4.c7,cell_of_row w4 _ 9 _ _ _ ha4.c3⟩
 rw[←hb3];clear ha4 hb3;refine wp_region_held_drew (S:=(fun W=>W.cell? ⟨p,2,none⟩=some (.pointer (some ⟨x,0,none⟩))∧W.cell? ⟨b3+1+1,1,none⟩=some (.string s)∧W.cell? ⟨b3,9,none⟩=some (.int .i64 spare))) (by kernel_rfl) ?_ (fun hHeld=> ?_)
 ·exact hs0
 refine tk 0 ?_;refine tk 1 ?_;refine tk 2 ?_;refine tk 3 ?_;refine tk 4 ?_;refine tk 5 ?_;refine tk 6 ?_;refine tk 7 ?_;refine rd 8 (fun K hK=> ?_);go_simp
 refine HC.o.mono ?_;rintro e w5 ⟨rr,rfl,hq5,ha5,hp5⟩;have HQ5:=hid hq5;have HA5:=hid ha5;have HP5:=hid hp5;have hs5:w5.cell? ⟨p,2,none⟩=some (.pointer (some ⟨x,0,none⟩))∧w5.cell? ⟨b3+1+1,1,none⟩=some (.string s)∧w5.cell? ⟨b3,9,none⟩=some (.int .i64 spare):=(by rw[Hb3.o];exact⟨hp5,cell_of_row w5 _ 1 _ _ _ ha5.c7,cell_of_row w5 _ 9 _ _ _ ha5.c3⟩);have z8:w5.cell? ⟨b3+1+1+1,0,none⟩=some (.int .i64 0):=(by rw[Hb3.o];exact cell_of_row w5 _ 0 _ _ _ ha5.c8);have f8:w5.frozen? ⟨b3+1+1+1,0,none⟩=false:=(by rw[Hb3.o];exact frozen_of_row w5 _ 0 _ _ ha5.c8);clear hq5 ha5 hp5;try dsimp only
 refine hK.o _ _ hs5 (fun hHeld=> ?_);clear hK K;try simp only[put]
 refine tk 9 ?_;refine rd 10 (fun K hK=> ?_);go_simp
 have hO6:Only (fun k=>k=b3+1+1+1) w5 (w5.setCell ⟨b3+1+1+1,0,none⟩ (.int .i64 rr)):=only_setCell w5 _ _ rfl;have h86:(w5.setCell ⟨b3+1+1+1,0,none⟩ (.int .i64 rr)).heap[b3+1+1+1]? =some (.cells #[.int .i64 rr,.int .i64 0,.string ⟨#[]⟩,.slice none 0 0,.int .i64 0,.int .i64 0,.int .i64 0] 47 (0,0)):=(by have:=HA5.o.c8;rw[←Hb3.o]at this;exact heap_setCell_same w5 _ 0 _ _ _ this);generalize (World.setCell w5 _ _)=w6 at hO6 h86⊢;have HO6:=hid hO6;have H86:=hid h86;have h46:w6.heap[b3+1]? =some (.cells zRepC 47 (0,0)):=(by have:=HA5.o.c4;rw[←Hb3.o]at this;exact(hO6.block _ (lt_get this) (by omega)).trans this);have H46:=hid h46
 have hs6:w6.cell? ⟨p,2,none⟩=some (.pointer (some ⟨x,0,none⟩))∧w6.cell? ⟨b3+1+1,1,none⟩=some (.string s)∧w6.cell? ⟨b3,9,none⟩=some (.int .i64 spare):=(by have h3:=HA5.o.c3;have h7:=HA5.o.c7;have hp:=HP5.o;have hpl:=HPl.o;have hsz:=HSz.o;rw[←Hb3.o]at h3 h7 hpl;have h36:=(hO6.block _ (lt_get h3) (by omega)).trans h3;have h76:=(hO6.block _ (lt_get h7) (by omega)).trans h7;exact⟨((hO6.cell (p:=⟨p,2,none⟩) (Nat.lt_trans hpl (lt_get h3)) (by show ¬p=b3+1+1+1;omega)).trans hp),cell_of_row w6 _ 1 _ _ _ h76,cell_of_row w6 _ 9 _ _ _ h36⟩);clear hO6 h86 h46 z8 f8;try dsimp only
 refine hK.o _ _ hs6 (fun hHeld=> ?_);clear hK K;try simp only[put]
 refine dn ?_
 (try simp only[Exit.then])
 have HS7:Hid ((#[.int .i64 rr,.int .i64 0,.string ⟨#[]⟩,.slice none 0 0,.int .i64 0,.int .i64 0,.int .i64 0]:Array Value).size=7):=hid rfl
 go_wp2_with(first|(refine wpList_load_row rfl 47 _ rfl (b3+1+1+1) rfl 47 _ (0,0) _ H86.o underlying47 rfl infoRep ?_)|(refine wpList_store_mid rfl 47 _ _ rfl (b3+1) 0 #[.int .i64 rr,.int .i64 0,.string ⟨#[]⟩,.slice none 0 0,.int .i64 0,.int .i64 0,.int .i64 0] rfl rfl (there_at H46.o rfl) sizeRep (rep_one _ _ _ _ _ _ _ _ _) ?_;obtain⟨hbw,hbg⟩:=whole_at H46.o (vs:=[.int .i64 rr,.int .i64 0,.string ⟨#[]⟩,.slice none 0 0,.int .i64 0,.int .i64 0,.int .i64 0]) (B:=b3+1) rfl (Nat.le_refl _);have hO7:Only (fun k=>k=b3+1) w6 (w6.setCells (b3+1) 0 [.int .i64 rr,.int .i64 0,.string ⟨#[]⟩,.slice none 0 0,.int .i64 0,.int .i64 0,.int .i64 0]):=grown_only (setCells_grownM _ _ _ _) fun q e=>(Option.some.inj e).symm;generalize (World.setCells _ _ _ _)=w7 at hbw hbg hO7⊢))
 refine bodyPost_ret (results_row_tmp2 rfl _ _ (b3+1) 47 _ (0,0) _ rfl hbg underlying47 rfl infoRep) rfl ?_;rw[Hb3.o]at hO7;have hO6:=HO6.o;rw[Hb3.o]at hO6;exact⟨Pz.er rr,0,none,0,w5,⟨rfl,rfl,rfl,rr,rfl,HQ5.o⟩,(hO6.mono fun k _ e=>Or.inr e).trans (hO7.mono fun k _ e=>Or.inl e) (fun _ _ e=>e),rfl⟩
theorem asked_rmdir{p x:Nat}(cl fl fd off n spare:Int)(s s2 data:ByteArray)(drop:Bool)(w:World)(Q:Int→World→Prop)(hp:w.cell? ⟨p,2,none⟩=some (.pointer (some ⟨x,0,none⟩)))(hpl:p<w.heap.size)
 (hC:∀W,Below w.heap.size w W→AskW ⟨cl,8,s,s2,fl,fd,off,n,data,spare,drop⟩ zRepC w W→Calls prog 30 #[.pointer (some ⟨x,0,none⟩),.string s] W fun e W2=>∃r:Int,e= .returned (.int .i64 r)∧Q r W2∧AskW ⟨cl,8,s,s2,fl,fd,off,n,data,spare,drop⟩ zRepC w W2∧W2.cell? ⟨p,2,none⟩=some (.pointer (some ⟨x,0,none⟩))):
 Calls prog 9 #[.pointer (some ⟨p,0,none⟩),akV ⟨cl,8,s,s2,fl,fd,off,n,data,spare,drop⟩] w (AskEnd (fun q i A c W=>i=0∧A=none∧c=0∧∃r,q=Pz.er r∧Q r W) w):=by
 obtain⟨w4,hw4⟩:=nm (askWorld ⟨cl,8,s,s2,fl,fd,off,n,data,spare,drop⟩ w);obtain⟨ha4,hb4⟩:=ask_start ⟨cl,8,s,s2,fl,fd,off,n,data,spare,drop⟩ w;rw[←hw4]at ha4 hb4;have HA4:=hid ha4;have HC:=hid (hC _ (hb4.drew) (ha4.keep (Below.refl _ _).drew));have hp4:=(hb4.cell (p:=⟨p,2,none⟩) hpl).trans hp;have HP4:=hid hp4;have HPl:=hid hpl;have HW4:=hid hw4;have HSz:=hid hb4.size;unfold askWorld akC akCall zRepC at HW4;try dsimp only at HW4
 unfold akV akC;try dsimp only
 clear hC hpl hw4 ha4 hb4 hp hp4;go_enter func9,ntmps9;go_upto_region 18 with fail
 rw[←HW4.o];have ha4:=HA4.o;obtain⟨b3,hb3⟩:=nm w.heap.size;have Hb3:=hid hb3;have hs0:w4.cell? ⟨p,2,none⟩=some (.pointer (some ⟨x,0,none⟩))∧w4.cell? ⟨b3+1+1,1,none⟩=some (.string s):=by
  rw[hb3];exact⟨HP4.o,cell_of_row w4 _ 1 _ _ _ ha4.c7⟩
 rw[←hb3];clear ha4 hb3;refine wp_region_held_drew (S:=(fun W=>W.cell? ⟨p,2,none⟩=some (.pointer (some ⟨x,0,none⟩))∧W.cell? ⟨b3+1+1,1,none⟩=some (.string s))) (by kernel_rfl) ?_ (fun hHeld=> ?_)
 ·exact hs0
 refine tk 0 ?_;refine tk 1 ?_;refine tk 2 ?_;refine tk 3 ?_;refine tk 4 ?_;refine tk 5 ?_;refine rd 6 (fun K hK=> ?_);go_simp
 refine HC.o.mono ?_;rintro e w5 ⟨rr,rfl,hq5,ha5,hp5⟩;have HQ5:=hid hq5;have HA5:=hid ha5;have HP5:=hid hp5;have hs5:w5.cell? ⟨p,2,none⟩=some (.pointer (some ⟨x,0,none⟩))∧w5.cell? ⟨b3+1+1,1,none⟩=some (.string s):=(by rw[Hb3.o];exact⟨hp5,cell_of_row w5 _ 1 _ _ _ ha5.c7⟩);have z8:w5.cell? ⟨b3+1+1+1,0,none⟩=some (.int .i64 0):=(by rw[Hb3.o];exact cell_of_row w5 _ 0 _ _ _ ha5.c8);have f8:w5.frozen? ⟨b3+1+1+1,0,none⟩=false:=(by rw[Hb3.o];exact frozen_of_row w5 _ 0 _ _ ha5.c8);clear hq5 ha5 hp5;try dsimp only
 refine hK.o _ _ hs5 (fun hHeld=> ?_);clear hK K;try simp only[put]
 refine tk 7 ?_;refine rd 8 (fun K hK=> ?_);go_simp
 have hO6:Only (fun k=>k=b3+1+1+1) w5 (w5.setCell ⟨b3+1+1+1,0,none⟩ (.int .i64 rr)):=only_setCell w5 _ _ rfl;have h86:(w5.setCell ⟨b3+1+1+1,0,none⟩ (.int .i64 rr)).heap[b3+1+1+1]? =some (.cells #[.int .i64 rr,.int .i64 0,.string ⟨#[]⟩,.slice none 0 0,.int .i64 0,.int .i64 0,.int .i64 0] 47 (0,0)):=(by have:=HA5.o.c8;rw[←Hb3.o]at this;exact heap_setCell_same w5 _ 0 _ _ _ this);generalize (World.setCell w5 _ _)=w6 at hO6 h86⊢;have HO6:=hid hO6;have H86:=hid h86;have h46:w6.heap[b3+1]? =some (.cells zRepC 47 (0,0)):=(by have:=HA5.o.c4;rw[←Hb3.o]at this;exact(hO6.block _ (lt_get this) (by omega)).trans this);have H46:=hid h46
 have hs6:w6.cell? ⟨p,2,none⟩=some (.pointer (some ⟨x,0,none⟩))∧w6.cell? ⟨b3+1+1,1,none⟩=some (.string s):=(by have h3:=HA5.o.c3;have h7:=HA5.o.c7;have hp:=HP5.o;have hpl:=HPl.o;have hsz:=HSz.o;rw[←Hb3.o]at h3 h7 hpl;have h36:=(hO6.block _ (lt_get h3) (by omega)).trans h3;have h76:=(hO6.block _ (lt_get h7) (by omega)).trans h7;exact⟨((hO6.cell (p:=⟨p,2,none⟩) (Nat.lt_trans hpl (lt_get h3)) (by show ¬p=b3+1+1+1;omega)).trans hp),cell_of_row w6 _ 1 _ _ _ h76⟩);clear hO6 h86 h46 z8 f8;try dsimp only
 refine hK.o _ _ hs6 (fun hHeld=> ?_);clear hK K;try simp only[put]
 refine dn ?_
 (try simp only[Exit.then])
 have HS7:Hid ((#[.int .i64 rr,.int .i64 0,.string ⟨#[]⟩,.slice none 0 0,.int .i64 0,.int .i64 0,.int .i64 0]:Array Value).size=7):=hid rfl
 go_wp2_with(first|(refine wpList_load_row rfl 47 _ rfl (b3+1+1+1) rfl 47 _ (0,0) _ H86.o underlying47 rfl infoRep ?_)|(refine wpList_store_mid rfl 47 _ _ rfl (b3+1) 0 #[.int .i64 rr,.int .i64 0,.string ⟨#[]⟩,.slice none 0 0,.int .i64 0,.int .i64 0,.int .i64 0] rfl rfl (there_at H46.o rfl) sizeRep (rep_one _ _ _ _ _ _ _ _ _) ?_;obtain⟨hbw,hbg⟩:=whole_at H46.o (vs:=[.int .i64 rr,.int .i64 0,.string ⟨#[]⟩,.slice none 0 0,.int .i64 0,.int .i64 0,.int .i64 0]) (B:=b3+1) rfl (Nat.le_refl _);have hO7:Only (fun k=>k=b3+1) w6 (w6.setCells (b3+1) 0 [.int .i64 rr,.int .i64 0,.string ⟨#[]⟩,.slice none 0 0,.int .i64 0,.int .i64 0,.int .i64 0]):=grown_only (setCells_grownM _ _ _ _) fun q e=>(Option.some.inj e).symm;generalize (World.setCells _ _ _ _)=w7 at hbw hbg hO7⊢))
 refine bodyPost_ret (results_row_tmp2 rfl _ _ (b3+1) 47 _ (0,0) _ rfl hbg underlying47 rfl infoRep) rfl ?_;rw[Hb3.o]at hO7;have hO6:=HO6.o;rw[Hb3.o]at hO6;exact⟨Pz.er rr,0,none,0,w5,⟨rfl,rfl,rfl,rr,rfl,HQ5.o⟩,(hO6.mono fun k _ e=>Or.inr e).trans (hO7.mono fun k _ e=>Or.inl e) (fun _ _ e=>e),rfl⟩
theorem asked_link{p x:Nat}(cl fl fd off n spare:Int)(s s2 data:ByteArray)(drop:Bool)(w:World)(Q:Int→World→Prop)(hp:w.cell? ⟨p,2,none⟩=some (.pointer (some ⟨x,0,none⟩)))(hpl:p<w.heap.size)
 (hC:∀W,Below w.heap.size w W→AskW ⟨cl,9,s,s2,fl,fd,off,n,data,spare,drop⟩ zRepC w W→Calls prog 31 #[.pointer (some ⟨x,0,none⟩),.string s,.string s2,.int .i64 spare] W fun e W2=>∃r:Int,e= .returned (.int .i64 r)∧Q r W2∧AskW ⟨cl,9,s,s2,fl,fd,off,n,data,spare,drop⟩ zRepC w W2∧W2.cell? ⟨p,2,none⟩=some (.pointer (some ⟨x,0,none⟩))):
 Calls prog 9 #[.pointer (some ⟨p,0,none⟩),akV ⟨cl,9,s,s2,fl,fd,off,n,data,spare,drop⟩] w (AskEnd (fun q i A c W=>i=0∧A=none∧c=0∧∃r,q=Pz.er r∧Q r W) w):=by
 obtain⟨w4,hw4⟩:=nm (askWorld ⟨cl,9,s,s2,fl,fd,off,n,data,spare,drop⟩ w);obtain⟨ha4,hb4⟩:=ask_start ⟨cl,9,s,s2,fl,fd,off,n,data,spare,drop⟩ w;rw[←hw4]at ha4 hb4;have HA4:=hid ha4;have HC:=hid (hC _ (hb4.drew) (ha4.keep (Below.refl _ _).drew));have hp4:=(hb4.cell (p:=⟨p,2,none⟩) hpl).trans hp;have HP4:=hid hp4;have HPl:=hid hpl;have HW4:=hid hw4;have HSz:=hid hb4.size;unfold askWorld akC akCall zRepC at HW4;try dsimp only at HW4
 unfold akV akC;try dsimp only
 clear hC hpl hw4 ha4 hb4 hp hp4;go_enter func9,ntmps9;go_upto_region 20 with fail
 rw[←HW4.o];have ha4:=HA4.o;obtain⟨b3,hb3⟩:=nm w.heap.size;have Hb3:=hid hb3;have hs0:w4.cell? ⟨p,2,none⟩=some (.pointer (some ⟨x,0,none⟩))∧w4.cell? ⟨b3+1+1,1,none⟩=some (.string s)∧w4.cell? ⟨b3+1+1,2,none⟩=some (.string s2)∧w4.cell? ⟨b3,9,none⟩=some (.int .i64 spare):=by
  rw[hb3];exact⟨HP4.o,cell_of_row w4 _ 1 _ _ _ ha4.c7,cell_of_row w4 _ 2 _ _ _ ha4.c7,cell_of_row w4 _ 9 _ _ _ ha4.c3⟩
 rw[←hb3];clear ha4 hb3;refine wp_region_held_drew (S:=(fun W=>W.cell? ⟨p,2,none⟩=some (.pointer (some ⟨x,0,none⟩))∧W.cell? ⟨b3+1+1,1,none⟩=some (.string s)∧W.cell? ⟨b3+1+1,2,none⟩=some (.string s2)∧W.cell? ⟨b3,9,none⟩=some (.int .i64 spare))) (by kernel_rfl) ?_ (fun hHeld=> ?_)
 ·exact hs0
 refine tk 0 ?_;refine tk 1 ?_;refine tk 2 ?_;refine tk 3 ?_;refine tk 4 ?_;refine tk 5 ?_;refine tk 6 ?_;refine tk 7 ?_;refine tk 8 ?_;refine tk 9 ?_;refine rd 10 (fun K hK=> ?_);go_simp
 refine HC.o.mono ?_;rintro e w5 ⟨rr,rfl,hq5,ha5,hp5⟩;have HQ5:=hid hq5;have HA5:=hid ha5;have HP5:=hid hp5;have hs5:w5.cell? ⟨p,2,none⟩=some (.pointer (some ⟨x,0,none⟩))∧w5.cell? ⟨b3+1+1,1,none⟩=some (.string s)∧w5.cell? ⟨b3+1+1,2,none⟩=some (.string s2)∧w5.cell? ⟨b3,9,none⟩=some (.int .i64 spare):=(by rw[Hb3.o];exact⟨hp5,cell_of_row w5 _ 1 _ _ _ ha5.c7,cell_of_row w5 _ 2 _ _ _ ha5.c7,cell_of_row w5 _ 9 _ _ _ ha5.c3⟩);have z8:w5.cell? ⟨b3+1+1+1,0,none⟩=some (.int .i64 0):=(by rw[Hb3.o];exact cell_of_row w5 _ 0 _ _ _ ha5.c8);have f8:w5.frozen? ⟨b3+1+1+1,0,none⟩=false:=(by rw[Hb3.o];exact frozen_of_row w5 _ 0 _ _ ha5.c8);clear hq5 ha5 hp5;try dsimp only
 refine hK.o _ _ hs5 (fun hHeld=> ?_);clear hK K;try simp only[put]
 refine tk 11 ?_;refine rd 12 (fun K hK=> ?_);go_simp
 have hO6:Only (fun k=>k=b3+1+1+1) w5 (w5.setCell ⟨b3+1+1+1,0,none⟩ (.int .i64 rr)):=only_setCell w5 _ _ rfl;have h86:(w5.setCell ⟨b3+1+1+1,0,none⟩ (.int .i64 rr)).heap[b3+1+1+1]? =some (.cells #[.int .i64 rr,.int .i64 0,.string ⟨#[]⟩,.slice none 0 0,.int .i64 0,.int .i64 0,.int .i64 0] 47 (0,0)):=(by have:=HA5.o.c8;rw[←Hb3.o]at this;exact heap_setCell_same w5 _ 0 _ _ _ this);generalize (World.setCell w5 _ _)=w6 at hO6 h86⊢;have HO6:=hid hO6;have H86:=hid h86;have h46:w6.heap[b3+1]? =some (.cells zRepC 47 (0,0)):=(by have:=HA5.o.c4;rw[←Hb3.o]at this;exact(hO6.block _ (lt_get this) (by omega)).trans this);have H46:=hid h46
 have hs6:w6.cell? ⟨p,2,none⟩=some (.pointer (some ⟨x,0,none⟩))∧w6.cell? ⟨b3+1+1,1,none⟩=some (.string s)∧w6.cell? ⟨b3+1+1,2,none⟩=some (.string s2)∧w6.cell? ⟨b3,9,none⟩=some (.int .i64 spare):=(by have h3:=HA5.o.c3;have h7:=HA5.o.c7;have hp:=HP5.o;have hpl:=HPl.o;have hsz:=HSz.o;rw[←Hb3.o]at h3 h7 hpl;have h36:=(hO6.block _ (lt_get h3) (by omega)).trans h3;have h76:=(hO6.block _ (lt_get h7) (by omega)).trans h7;exact⟨((hO6.cell (p:=⟨p,2,none⟩) (Nat.lt_trans hpl (lt_get h3)) (by show ¬p=b3+1+1+1;omega)).trans hp),cell_of_row w6 _ 1 _ _ _ h76,cell_of_row w6 _ 2 _ _ _ h76,cell_of_row w6 _ 9 _ _ _ h36⟩);clear hO6 h86 h46 z8 f8;try dsimp only
 refine hK.o _ _ hs6 (fun hHeld=> ?_);clear hK K;try simp only[put]
 refine dn ?_
 (try simp only[Exit.then])
 have HS7:Hid ((#[.int .i64 rr,.int .i64 0,.string ⟨#[]⟩,.slice none 0 0,.int .i64 0,.int .i64 0,.int .i64 0]:Array Value).size=7):=hid rfl
 go_wp2_with(first|(refine wpList_load_row rfl 47 _ rfl (b3+1+1+1) rfl 47 _ (0,0) _ H86.o underlying47 rfl infoRep ?_)|(refine wpList_store_mid rfl 47 _ _ rfl (b3+1) 0 #[.int .i64 rr,.int .i64 0,.string ⟨#[]⟩,.slice none 0 0,.int .i64 0,.int .i64 0,.int .i64 0] rfl rfl (there_at H46.o rfl) sizeRep (rep_one _ _ _ _ _ _ _ _ _) ?_;obtain⟨hbw,hbg⟩:=whole_at H46.o (vs:=[.int .i64 rr,.int .i64 0,.string ⟨#[]⟩,.slice none 0 0,.int .i64 0,.int .i64 0,.int .i64 0]) (B:=b3+1) rfl (Nat.le_refl _);have hO7:Only (fun k=>k=b3+1) w6 (w6.setCells (b3+1) 0 [.int .i64 rr,.int .i64 0,.string ⟨#[]⟩,.slice none 0 0,.int .i64 0,.int .i64 0,.int .i64 0]):=grown_only (setCells_grownM _ _ _ _) fun q e=>(Option.some.inj e).symm;generalize (World.setCells _ _ _ _)=w7 at hbw hbg hO7⊢))
 refine bodyPost_ret (results_row_tmp2 rfl _ _ (b3+1) 47 _ (0,0) _ rfl hbg underlying47 rfl infoRep) rfl ?_;rw[Hb3.o]at hO7;have hO6:=HO6.o;rw[Hb3.o]at hO6;exact⟨Pz.er rr,0,none,0,w5,⟨rfl,rfl,rfl,rr,rfl,HQ5.o⟩,(hO6.mono fun k _ e=>Or.inr e).trans (hO7.mono fun k _ e=>Or.inl e) (fun _ _ e=>e),rfl⟩
theorem asked_unlink{p x:Nat}(cl fl fd off n spare:Int)(s s2 data:ByteArray)(drop:Bool)(w:World)(Q:Int→World→Prop)(hp:w.cell? ⟨p,2,none⟩=some (.pointer (some ⟨x,0,none⟩)))(hpl:p<w.heap.size)
 (hC:∀W,Below w.heap.size w W→AskW ⟨cl,10,s,s2,fl,fd,off,n,data,spare,drop⟩ zRepC w W→Calls prog 32 #[.pointer (some ⟨x,0,none⟩),.string s] W fun e W2=>∃r:Int,e= .returned (.int .i64 r)∧Q r W2∧AskW ⟨cl,10,s,s2,fl,fd,off,n,data,spare,drop⟩ zRepC w W2∧W2.cell? ⟨p,2,none⟩=some (.pointer (some ⟨x,0,none⟩))):
 Calls prog 9 #[.pointer (some ⟨p,0,none⟩),akV ⟨cl,10,s,s2,fl,fd,off,n,data,spare,drop⟩] w (AskEnd (fun q i A c W=>i=0∧A=none∧c=0∧∃r,q=Pz.er r∧Q r W) w):=by
 obtain⟨w4,hw4⟩:=nm (askWorld ⟨cl,10,s,s2,fl,fd,off,n,data,spare,drop⟩ w);obtain⟨ha4,hb4⟩:=ask_start ⟨cl,10,s,s2,fl,fd,off,n,data,spare,drop⟩ w;rw[←hw4]at ha4 hb4;have HA4:=hid ha4;have HC:=hid (hC _ (hb4.drew) (ha4.keep (Below.refl _ _).drew));have hp4:=(hb4.cell (p:=⟨p,2,none⟩) hpl).trans hp;have HP4:=hid hp4;have HPl:=hid hpl;have HW4:=hid hw4;have HSz:=hid hb4.size;unfold askWorld akC akCall zRepC at HW4;try dsimp only at HW4
 unfold akV akC;try dsimp only
 clear hC hpl hw4 ha4 hb4 hp hp4;go_enter func9,ntmps9;go_upto_region 22 with fail
 rw[←HW4.o];have ha4:=HA4.o;obtain⟨b3,hb3⟩:=nm w.heap.size;have Hb3:=hid hb3;have hs0:w4.cell? ⟨p,2,none⟩=some (.pointer (some ⟨x,0,none⟩))∧w4.cell? ⟨b3+1+1,1,none⟩=some (.string s):=by
  rw[hb3];exact⟨HP4.o,cell_of_row w4 _ 1 _ _ _ ha4.c7⟩
 rw[←hb3];clear ha4 hb3;refine wp_region_held_drew (S:=(fun W=>W.cell? ⟨p,2,none⟩=some (.pointer (some ⟨x,0,none⟩))∧W.cell? ⟨b3+1+1,1,none⟩=some (.string s))) (by kernel_rfl) ?_ (fun hHeld=> ?_)
 ·exact hs0
 refine tk 0 ?_;refine tk 1 ?_;refine tk 2 ?_;refine tk 3 ?_;refine tk 4 ?_;refine tk 5 ?_;refine rd 6 (fun K hK=> ?_);go_simp
 refine HC.o.mono ?_;rintro e w5 ⟨rr,rfl,hq5,ha5,hp5⟩;have HQ5:=hid hq5;have HA5:=hid ha5;have HP5:=hid hp5;have hs5:w5.cell? ⟨p,2,none⟩=some (.pointer (some ⟨x,0,none⟩))∧w5.cell? ⟨b3+1+1,1,none⟩=some (.string s):=(by rw[Hb3.o];exact⟨hp5,cell_of_row w5 _ 1 _ _ _ ha5.c7⟩);have z8:w5.cell? ⟨b3+1+1+1,0,none⟩=some (.int .i64 0):=(by rw[Hb3.o];exact cell_of_row w5 _ 0 _ _ _ ha5.c8);have f8:w5.frozen? ⟨b3+1+1+1,0,none⟩=false:=(by rw[Hb3.o];exact frozen_of_row w5 _ 0 _ _ ha5.c8);clear hq5 ha5 hp5;try dsimp only
 refine hK.o _ _ hs5 (fun hHeld=> ?_);clear hK K;try simp only[put]
 refine tk 7 ?_;refine rd 8 (fun K hK=> ?_);go_simp
 have hO6:Only (fun k=>k=b3+1+1+1) w5 (w5.setCell ⟨b3+1+1+1,0,none⟩ (.int .i64 rr)):=only_setCell w5 _ _ rfl;have h86:(w5.setCell ⟨b3+1+1+1,0,none⟩ (.int .i64 rr)).heap[b3+1+1+1]? =some (.cells #[.int .i64 rr,.int .i64 0,.string ⟨#[]⟩,.slice none 0 0,.int .i64 0,.int .i64 0,.int .i64 0] 47 (0,0)):=(by have:=HA5.o.c8;rw[←Hb3.o]at this;exact heap_setCell_same w5 _ 0 _ _ _ this);generalize (World.setCell w5 _ _)=w6 at hO6 h86⊢;have HO6:=hid hO6;have H86:=hid h86;have h46:w6.heap[b3+1]? =some (.cells zRepC 47 (0,0)):=(by have:=HA5.o.c4;rw[←Hb3.o]at this;exact(hO6.block _ (lt_get this) (by omega)).trans this);have H46:=hid h46
 have hs6:w6.cell? ⟨p,2,none⟩=some (.pointer (some ⟨x,0,none⟩))∧w6.cell? ⟨b3+1+1,1,none⟩=some (.string s):=(by have h3:=HA5.o.c3;have h7:=HA5.o.c7;have hp:=HP5.o;have hpl:=HPl.o;have hsz:=HSz.o;rw[←Hb3.o]at h3 h7 hpl;have h36:=(hO6.block _ (lt_get h3) (by omega)).trans h3;have h76:=(hO6.block _ (lt_get h7) (by omega)).trans h7;exact⟨((hO6.cell (p:=⟨p,2,none⟩) (Nat.lt_trans hpl (lt_get h3)) (by show ¬p=b3+1+1+1;omega)).trans hp),cell_of_row w6 _ 1 _ _ _ h76⟩);clear hO6 h86 h46 z8 f8;try dsimp only
 refine hK.o _ _ hs6 (fun hHeld=> ?_);clear hK K;try simp only[put]
 refine dn ?_
 (try simp only[Exit.then])
 have HS7:Hid ((#[.int .i64 rr,.int .i64 0,.string ⟨#[]⟩,.slice none 0 0,.int .i64 0,.int .i64 0,.int .i64 0]:Array Value).size=7):=hid rfl
 go_wp2_with(first|(refine wpList_load_row rfl 47 _ rfl (b3+1+1+1) rfl 47 _ (0,0) _ H86.o underlying47 rfl infoRep ?_)|(refine wpList_store_mid rfl 47 _ _ rfl (b3+1) 0 #[.int .i64 rr,.int .i64 0,.string ⟨#[]⟩,.slice none 0 0,.int .i64 0,.int .i64 0,.int .i64 0] rfl rfl (there_at H46.o rfl) sizeRep (rep_one _ _ _ _ _ _ _ _ _) ?_;obtain⟨hbw,hbg⟩:=whole_at H46.o (vs:=[.int .i64 rr,.int .i64 0,.string ⟨#[]⟩,.slice none 0 0,.int .i64 0,.int .i64 0,.int .i64 0]) (B:=b3+1) rfl (Nat.le_refl _);have hO7:Only (fun k=>k=b3+1) w6 (w6.setCells (b3+1) 0 [.int .i64 rr,.int .i64 0,.string ⟨#[]⟩,.slice none 0 0,.int .i64 0,.int .i64 0,.int .i64 0]):=grown_only (setCells_grownM _ _ _ _) fun q e=>(Option.some.inj e).symm;generalize (World.setCells _ _ _ _)=w7 at hbw hbg hO7⊢))
 refine bodyPost_ret (results_row_tmp2 rfl _ _ (b3+1) 47 _ (0,0) _ rfl hbg underlying47 rfl infoRep) rfl ?_;rw[Hb3.o]at hO7;have hO6:=HO6.o;rw[Hb3.o]at hO6;exact⟨Pz.er rr,0,none,0,w5,⟨rfl,rfl,rfl,rr,rfl,HQ5.o⟩,(hO6.mono fun k _ e=>Or.inr e).trans (hO7.mono fun k _ e=>Or.inl e) (fun _ _ e=>e),rfl⟩
theorem asked_rename{p x:Nat}(cl fl fd off n spare:Int)(s s2 data:ByteArray)(drop:Bool)(w:World)(Q:Int→World→Prop)(hp:w.cell? ⟨p,2,none⟩=some (.pointer (some ⟨x,0,none⟩)))(hpl:p<w.heap.size)
 (hC:∀W,Below w.heap.size w W→AskW ⟨cl,11,s,s2,fl,fd,off,n,data,spare,drop⟩ zRepC w W→Calls prog 33 #[.pointer (some ⟨x,0,none⟩),.string s,.string s2,.int .i64 spare] W fun e W2=>∃r:Int,e= .returned (.int .i64 r)∧Q r W2∧AskW ⟨cl,11,s,s2,fl,fd,off,n,data,spare,drop⟩ zRepC w W2∧W2.cell? ⟨p,2,none⟩=some (.pointer (some ⟨x,0,none⟩))):
 Calls prog 9 #[.pointer (some ⟨p,0,none⟩),akV ⟨cl,11,s,s2,fl,fd,off,n,data,spare,drop⟩] w (AskEnd (fun q i A c W=>i=0∧A=none∧c=0∧∃r,q=Pz.er r∧Q r W) w):=by
 obtain⟨w4,hw4⟩:=nm (askWorld ⟨cl,11,s,s2,fl,fd,off,n,data,spare,drop⟩ w);obtain⟨ha4,hb4⟩:=ask_start ⟨cl,11,s,s2,fl,fd,off,n,data,spare,drop⟩ w;rw[←hw4]at ha4 hb4;have HA4:=hid ha4;have HC:=hid (hC _ (hb4.drew) (ha4.keep (Below.refl _ _).drew));have hp4:=(hb4.cell (p:=⟨p,2,none⟩) hpl).trans hp;have HP4:=hid hp4;have HPl:=hid hpl;have HW4:=hid hw4;have HSz:=hid hb4.size;unfold askWorld akC akCall zRepC at HW4;try dsimp only at HW4
 unfold akV akC;try dsimp only
 clear hC hpl hw4 ha4 hb4 hp hp4;go_enter func9,ntmps9;go_upto_region 24 with fail
 rw[←HW4.o];have ha4:=HA4.o;obtain⟨b3,hb3⟩:=nm w.heap.size;have Hb3:=hid hb3;have hs0:w4.cell? ⟨p,2,none⟩=some (.pointer (some ⟨x,0,none⟩))∧w4.cell? ⟨b3+1+1,1,none⟩=some (.string s)∧w4.cell? ⟨b3+1+1,2,none⟩=some (.string s2)∧w4.cell? ⟨b3,9,none⟩=some (.int .i64 spare):=by
  rw[hb3];exact⟨HP4.o,cell_of_row w4 _ 1 _ _ _ ha4.c7,cell_of_row w4 _ 2 _ _ _ ha4.c7,cell_of_row w4 _ 9 _ _ _ ha4.c3⟩
 rw[←hb3];clear ha4 hb3;refine wp_region_held_drew (S:=(fun W=>W.cell? ⟨p,2,none⟩=some (.pointer (some ⟨x,0,none⟩))∧W.cell? ⟨b3+1+1,1,none⟩=some (.string s)∧W.cell? ⟨b3+1+1,2,none⟩=some (.string s2)∧W.cell? ⟨b3,9,none⟩=some (.int .i64 spare))) (by kernel_rfl) ?_ (fun hHeld=> ?_)
 ·exact hs0
 refine tk 0 ?_;refine tk 1 ?_;refine tk 2 ?_;refine tk 3 ?_;refine tk 4 ?_;refine tk 5 ?_;refine tk 6 ?_;refine tk 7 ?_;refine tk 8 ?_;refine tk 9 ?_;refine rd 10 (fun K hK=> ?_);go_simp
 refine HC.o.mono ?_;rintro e w5 ⟨rr,rfl,hq5,ha5,hp5⟩;have HQ5:=hid hq5;have HA5:=hid ha5;have HP5:=hid hp5;have hs5:w5.cell? ⟨p,2,none⟩=some (.pointer (some ⟨x,0,none⟩))∧w5.cell? ⟨b3+1+1,1,none⟩=some (.string s)∧w5.cell? ⟨b3+1+1,2,none⟩=some (.string s2)∧w5.cell? ⟨b3,9,none⟩=some (.int .i64 spare):=(by rw[Hb3.o];exact⟨hp5,cell_of_row w5 _ 1 _ _ _ ha5.c7,cell_of_row w5 _ 2 _ _ _ ha5.c7,cell_of_row w5 _ 9 _ _ _ ha5.c3⟩);have z8:w5.cell? ⟨b3+1+1+1,0,none⟩=some (.int .i64 0):=(by rw[Hb3.o];exact cell_of_row w5 _ 0 _ _ _ ha5.c8);have f8:w5.frozen? ⟨b3+1+1+1,0,none⟩=false:=(by rw[Hb3.o];exact frozen_of_row w5 _ 0 _ _ ha5.c8);clear hq5 ha5 hp5;try dsimp only
 refine hK.o _ _ hs5 (fun hHeld=> ?_);clear hK K;try simp only[put]
 refine tk 11 ?_;refine rd 12 (fun K hK=> ?_);go_simp
 have hO6:Only (fun k=>k=b3+1+1+1) w5 (w5.setCell ⟨b3+1+1+1,0,none⟩ (.int .i64 rr)):=only_setCell w5 _ _ rfl;have h86:(w5.setCell ⟨b3+1+1+1,0,none⟩ (.int .i64 rr)).heap[b3+1+1+1]? =some (.cells #[.int .i64 rr,.int .i64 0,.string ⟨#[]⟩,.slice none 0 0,.int .i64 0,.int .i64 0,.int .i64 0] 47 (0,0)):=(by have:=HA5.o.c8;rw[←Hb3.o]at this;exact heap_setCell_same w5 _ 0 _ _ _ this);generalize (World.setCell w5 _ _)=w6 at hO6 h86⊢;have HO6:=hid hO6;have H86:=hid h86;have h46:w6.heap[b3+1]? =some (.cells zRepC 47 (0,0)):=(by have:=HA5.o.c4;rw[←Hb3.o]at this;exact(hO6.block _ (lt_get this) (by omega)).trans this);have H46:=hid h46
 have hs6:w6.cell? ⟨p,2,none⟩=some (.pointer (some ⟨x,0,none⟩))∧w6.cell? ⟨b3+1+1,1,none⟩=some (.string s)∧w6.cell? ⟨b3+1+1,2,none⟩=some (.string s2)∧w6.cell? ⟨b3,9,none⟩=some (.int .i64 spare):=(by have h3:=HA5.o.c3;have h7:=HA5.o.c7;have hp:=HP5.o;have hpl:=HPl.o;have hsz:=HSz.o;rw[←Hb3.o]at h3 h7 hpl;have h36:=(hO6.block _ (lt_get h3) (by omega)).trans h3;have h76:=(hO6.block _ (lt_get h7) (by omega)).trans h7;exact⟨((hO6.cell (p:=⟨p,2,none⟩) (Nat.lt_trans hpl (lt_get h3)) (by show ¬p=b3+1+1+1;omega)).trans hp),cell_of_row w6 _ 1 _ _ _ h76,cell_of_row w6 _ 2 _ _ _ h76,cell_of_row w6 _ 9 _ _ _ h36⟩);clear hO6 h86 h46 z8 f8;try dsimp only
 refine hK.o _ _ hs6 (fun hHeld=> ?_);clear hK K;try simp only[put]
 refine dn ?_
 (try simp only[Exit.then])
 have HS7:Hid ((#[.int .i64 rr,.int .i64 0,.string ⟨#[]⟩,.slice none 0 0,.int .i64 0,.int .i64 0,.int .i64 0]:Array Value).size=7):=hid rfl
 go_wp2_with(first|(refine wpList_load_row rfl 47 _ rfl (b3+1+1+1) rfl 47 _ (0,0) _ H86.o underlying47 rfl infoRep ?_)|(refine wpList_store_mid rfl 47 _ _ rfl (b3+1) 0 #[.int .i64 rr,.int .i64 0,.string ⟨#[]⟩,.slice none 0 0,.int .i64 0,.int .i64 0,.int .i64 0] rfl rfl (there_at H46.o rfl) sizeRep (rep_one _ _ _ _ _ _ _ _ _) ?_;obtain⟨hbw,hbg⟩:=whole_at H46.o (vs:=[.int .i64 rr,.int .i64 0,.string ⟨#[]⟩,.slice none 0 0,.int .i64 0,.int .i64 0,.int .i64 0]) (B:=b3+1) rfl (Nat.le_refl _);have hO7:Only (fun k=>k=b3+1) w6 (w6.setCells (b3+1) 0 [.int .i64 rr,.int .i64 0,.string ⟨#[]⟩,.slice none 0 0,.int .i64 0,.int .i64 0,.int .i64 0]):=grown_only (setCells_grownM _ _ _ _) fun q e=>(Option.some.inj e).symm;generalize (World.setCells _ _ _ _)=w7 at hbw hbg hO7⊢))
 refine bodyPost_ret (results_row_tmp2 rfl _ _ (b3+1) 47 _ (0,0) _ rfl hbg underlying47 rfl infoRep) rfl ?_;rw[Hb3.o]at hO7;have hO6:=HO6.o;rw[Hb3.o]at hO6;exact⟨Pz.er rr,0,none,0,w5,⟨rfl,rfl,rfl,rr,rfl,HQ5.o⟩,(hO6.mono fun k _ e=>Or.inr e).trans (hO7.mono fun k _ e=>Or.inl e) (fun _ _ e=>e),rfl⟩
end Go.Proofs.YtckoobkjpndgnaaGreatDoor
