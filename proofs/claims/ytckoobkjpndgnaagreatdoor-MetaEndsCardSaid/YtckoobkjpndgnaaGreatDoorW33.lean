/- Commit and Drop over any changes that wait. -/
import Derived.Test.YtckoobkjpndgnaaGreatDoorW32
import Derived.Test.YtckoobkjpndgnaaGreatDoorW28
import Derived.Test.YtckoobkjpndgnaaGreatDoorW25
set_option linter.unusedVariables false
set_option linter.unusedSimpArgs false
set_option linter.unusedSectionVars false
set_option maxHeartbeats 8000000
set_option maxRecDepth 100000
namespace Go.Proofs.YtckoobkjpndgnaaGreatDoor
open Go.RowKit
open Lib(hid)
open Go.Proofs.Tryz
section
open Go.Shelf
attribute [local go_sem] Oper.semAt_some
theorem append_full{g m sb lb ab n K:Nat}{S:List UInt8}(v:Value)(P:List Gd.Pa)(w:World)(h:MemAt w m sb lb ab n S K)(hL:LogAt w g m 2688 4096)(hv:PasAt w v P)(hP:∀p∈P,Gd.PaMay p)(hn:P.length≤64)(hS:S.length=23168)(he:Gd.part S 2688 8=Gd.le 0 8)(hfit:4088<(Gd.recB P).length)(hfit2:(Gd.recB P).length≤100000):
 Calls prog 45 #[.pointer (some ⟨g,0,none⟩),v] w fun e w'=>(∃E:Int,E≠0∧e= .returned (.int .i64 E))∧Below w.heap.size w w':=by
 have HEn:=hid (encode_any v P w hv hP hn);obtain⟨R,hR⟩:=nm (Gd.recB P);rw[←hR]at HEn hfit hfit2;have HM:=hid h;have HL:=hid hL;have HNo:=hid (hL.apart h);have HS:=hid (And.intro hS he);obtain⟨r,hr⟩:=nm R.length;have Hr:=hid hr;have hr2:(4088:Int)<r:=by omega
 have hr3:(r:Int)≤100000:=by omega
 clear h hL hv hP hn hS he hfit hfit2 hR hr;go_enter func45,ntmps45;go_wp2_with fail
 refine HEn.o.mono ?_;rintro e w1 ⟨v1,rfl,ho1,hb1⟩;have HO1:=hid ho1;have HB1:=hid hb1;have HM1:=hid (HM.o.below hb1);have HL1:Hid (LogAt w1 g m 2688 4096):=hid ((hb1.block g (lt_get HL.o)).trans HL.o);clear ho1 hb1 HEn;go_wp2_with fail
 refine(each_zero _ w1 HM1.o.toF HL1.o HS.o.1 HS.o.2).mono ?_
 rintro e w2 ⟨rfl,hb2⟩;have HO2:=hid (HO1.o.keep hb2);have HB2:=HB1.t hb2;have HM2:=hid (HM1.o.below hb2);have HL2:Hid (LogAt w2 g m 2688 4096):=hid ((hb2.block g (lt_get HL1.o)).trans HL1.o);clear hb2 HM1 HL1;obtain⟨A1,cap1,rfl,-⟩:=HO2.o.at_;obtain⟨c0,c1,c2⟩:=cell2 HL2.o;rw[←Hr.o];go_wp2_with fail
 go_ret
 exact⟨⟨_,by decide,rfl⟩,HB2.o⟩
theorem commit_full[MemNo]{t K:Nat}{S:List UInt8}{P:List Gd.Pa}{F:Nat→Prop}(w:World)(h:TxnF t S P K w F)(h0:P≠[])(hR:4088<(Gd.recB P).length)(hl:PaLight P 64)(hS:S.length=23168)(he:Gd.part S 2688 8=Gd.le 0 8):
 Calls prog 17 #[.pointer (some ⟨t,0,none⟩)] w fun e w'=>(∃E:Int,E≠0∧e= .returned (.int .i64 E))∧Below w.heap.size w w':=by
 obtain⟨m,g,pv,⟨sb,lb,ab,n,hM,fm,fsb,flb,fab⟩,hT,hL,ft,fg,fq,hP,hmn⟩:=h;obtain⟨A,c,rfl,hrow⟩:=row_pa hT.row;have hfit:Gd.Fit 23168 P:=by have:=hP.fit;rw[hS]at this;exact this
 have hR2:(Gd.recB P).length≤100000:=by
  have h1:=hl.wt;have h2:=hl.many;have h3:=Gd.up8_ge (6+Gd.wt P);rw[Gd.recB_length];omega
 have hmay:∀p∈P,Gd.PaMay p:=fun p hp=>⟨by have:=hfit p hp;omega,hP.len p hp⟩;have hbd:=(Below.refl w.heap.size w).drew;have hMd:=hM.below hbd;have hLd:LogAt w.drew g m 2688 4096:=(hbd.block g (lt_get hL)).trans hL;have hpv:PasAt w.drew (.slice A P.length c) P:=⟨A,c,rfl,hrow.imp id fun⟨b,h1,h2,h3⟩=>⟨b,h1,Nat.lt_of_lt_of_le h2 hbd.size,fun k p hp=>⟨(hbd.cell (p:=⟨b,k*2,none⟩) h2).trans (h3 k p hp).1,(hbd.cell (p:=⟨b,k*2+1,none⟩) h2).trans (h3 k p hp).2⟩⟩⟩;have HAp:=hid (append_full (.slice A P.length c) P w.drew hMd hLd hpv hmay hP.many hS he hR hR2);obtain⟨c0,c1,c2⟩:=cell2 hT.obj;have hd:w.drew.heap[t]? =_:=(hbd.block t (lt_get hT.obj)).trans hT.obj;obtain⟨d0,d1,d2⟩:=cell2 hd;obtain⟨r,hre⟩:=nm P.length;have hr0:(r:Int)≠0:=by
  intro e;exact h0 (List.eq_nil_of_length_eq_zero (by omega))
 rw[←hre]at c2 d2 HAp;have hs0:=And.intro d1 d2;have HTo:=hid hT.obj;have Hre:=hid hre;have HBd:Hid (Below w.heap.size w w.drew):=hid hbd;clear hM fm fsb flb fab hT hL ft fg fq hP hrow hfit hmay hR hR2 hbd hMd hLd hpv hd hS he hl h0 hre d0 hmn;go_enter func17,ntmps17;go_upto_region 3 with fail
 refine wp_region_held_drew (S:=(fun W=>W.cell? ⟨t,1,none⟩=some (.pointer (some ⟨g,0,none⟩))∧W.cell? ⟨t,2,none⟩=some (.slice A r c))) (by kernel_rfl) ?_ (fun hHeld=> ?_)
 ·exact hs0
 refine tk 0 ?_;refine tk 1 ?_;refine tk 2 ?_;refine tk 3 ?_;refine tk 4 ?_;refine tk 5 ?_;refine tk 6 ?_;refine tk 7 ?_;refine rd 8 (fun K hK=> ?_);go_simp
 refine HAp.o.mono ?_;rintro e w1 ⟨⟨E,hE,rfl⟩,hb1⟩;have hE2:(E !=0)=true:=by rw[bne_iff_ne];exact hE
 have HE:=hid hE;have HB1:=HBd.t hb1;have hx1:=(HB1.o.block t (lt_get HTo.o)).trans HTo.o;rw[←Hre.o]at hx1;have hs1:=And.intro (cell2 hx1).2.1 (cell2 hx1).2.2;clear hb1 hx1 hE;try dsimp only
 refine hK.o _ _ hs1 (fun hHeld=> ?_);clear hK K;try simp only[put]
 refine tk 9 ?_;refine dn ?_
 (try simp only[Exit.then])
 obtain⟨y0,y1⟩:=hs1;clear HAp hs0 c0 c1 c2 d1 d2;go_wp2_with fail
 go_ret
 exact⟨⟨E,HE.o,rfl⟩,HB1.o⟩
theorem MetaF.moreK[MemNo]{x t c K K':Nat}{S:List UInt8}{P:List Gd.Pa}{w:World}{F:Nat→Prop}(h:MetaF x t S P c K w F)(hK:K≤K'):MetaF x t S P c K' w F:=by
 obtain⟨⟨m,g,pv,⟨sb,lb,ab,n,h1,h2⟩,hr⟩,q1,q2,q3,q4,q5,q6⟩:=h;exact⟨⟨m,g,pv,⟨sb,lb,ab,n,h1.more hK,h2⟩,hr⟩,q1,q2,q3,q4,q5,q6⟩
def MTe[MemNo](x t K:Nat)(w:World)(F:Nat→Prop):Prop:=∃S,MT x t S K w F
theorem MTe.keep[MemNo]{x t K:Nat}{w w':World}{F:Nat→Prop}(h:MTe x t K w F)(hs:w.heap.size≤w'.heap.size)(hb:∀k,k<w.heap.size→F k→w'.heap[k]? =w.heap[k]?):MTe x t K w' F:=by
 obtain⟨S,P,h⟩:=h;exact⟨S,P,h.keep hs hb⟩
theorem MTe.below[MemNo]{x t K:Nat}{w w':World}{F:Nat→Prop}(h:MTe x t K w F)(hb:Below w.heap.size w w'):MTe x t K w' F:=h.elim fun S h=>⟨S,h.below hb⟩
theorem MTe.tight[MemNo]{x t K:Nat}{w:World}{F:Nat→Prop}(h:MTe x t K w F):∀k,F k→k<w.heap.size:=h.elim fun _ h=>h.tight
theorem MTe.more[MemNo]{x t K K':Nat}{w:World}{F:Nat→Prop}(h:MTe x t K w F)(hK:K≤K'):MTe x t K' w F:=by
 obtain⟨S,P,h⟩:=h;exact⟨S,P,h.moreK hK⟩
def Tue[MemNo](x t K:Nat)(F:Nat→Prop)(w w':World):Prop:=∃F',Step (MTe x t K) F w F' w'
theorem Tu.e[MemNo]{x t K:Nat}{S:List UInt8}{F:Nat→Prop}{w w':World}(h:Tu x t S K F w w'):Tue x t K F w w':=h.elim fun F' h=>⟨F',⟨S,h.inv⟩,h.old,h.only⟩
theorem tcommit_t[MemNo]{x t K:Nat}{F:Nat→Prop}(w:World)(h:MTe x t K w F)(hK:K<600000000000):
 Calls prog 17 #[.pointer (some ⟨t,0,none⟩)] w fun e w'=>∃E:Int,e= .returned (.int .i64 E)∧Tue x t (K+2000000) F w w':=by
 obtain⟨S,P,h⟩:=h;by_cases h0:P=[]
 ·subst h0;refine(commit_any w h.txn ⟨Nat.zero_le _,fun _ hp=>by cases hp⟩ h.len h.log hK).mono ?_
  rintro e w' ⟨rfl,⟨S',hl,he,hs,hT⟩,hO⟩;exact⟨0,rfl,F,⟨S',[],hT,(hO.block x (lt_get h.obj) fun e=>e.2 rfl).trans h.obj,h.inF,hl,he,⟨Nat.zero_le _,fun _ hp=>by cases hp⟩,fun k hk=>Nat.lt_of_lt_of_le (h.tight k hk) hO.size⟩,fun _ _ e=>e,hO.mono fun _ _ e=>e.1⟩
 by_cases hR:(Gd.recB P).length≤4088
 ·refine(commit_doneR w h.txn h0 hR h.len h.log hK).mono ?_
  rintro e w' ⟨rfl,⟨hl,he,hs,hT⟩,hO⟩;exact⟨0,rfl,F,⟨_,[],hT,(hO.block x (lt_get h.obj) fun e=>e.2 rfl).trans h.obj,h.inF,hl,he,⟨Nat.zero_le _,fun _ hp=>by cases hp⟩,fun k hk=>Nat.lt_of_lt_of_le (h.tight k hk) hO.size⟩,fun _ _ e=>e,hO.mono fun _ _ e=>e.1⟩
 ·refine(commit_full w h.txn h0 (by omega) h.light h.len h.log).mono ?_
  rintro e w' ⟨⟨E,-,rfl⟩,hb⟩;exact⟨E,rfl,F,⟨S,P,(h.below hb).moreK (by omega)⟩,fun _ _ e=>e,below_only hb F⟩
theorem tdrop_t[MemNo]{x t K:Nat}{F:Nat→Prop}(w:World)(h:MTe x t K w F):
 Calls prog 10 #[.pointer (some ⟨t,0,none⟩)] w fun e w'=>e= .returned (.tuple #[])∧Tue x t K F w w':=by
 obtain⟨S,P,h⟩:=h;refine(tdrop_any w h.txn).mono ?_
 rintro e w' ⟨rfl,hT,hO⟩;exact⟨rfl,F,⟨S,[],hT,(hO.block x (lt_get h.obj) fun e=>e.2 rfl).trans h.obj,h.inF,h.len,h.log,⟨Nat.zero_le _,fun _ hp=>by cases hp⟩,fun k hk=>Nat.lt_of_lt_of_le (h.tight k hk) hO.size⟩,fun _ _ e=>e,hO.mono fun _ _ e=>e.1⟩
end
section
open Go.Shelf
attribute [local go_sem] Oper.semAt_some
section
def Le[MemNo](x t r:Nat)(Z:Pz.Fil)(K:Nat)(w a:World)(Ls:List (Nat×Obj)):Prop:=
 ∃F' G,Step (MTe x t K) Nof w F' a∧RefF r Z a G∧(∀k,G k→w.heap.size≤k∧k<a.heap.size∧¬F' k)∧∀p∈Ls,w.heap.size≤p.1∧¬F' p.1∧¬G p.1∧a.heap[p.1]? =some p.2
variable {x t r K:Nat} {Z:Pz.Fil} {w a b:World} {Ls:List (Nat×Obj)}
theorem Le.belowW[MemNo](h:Le x t r Z K w a Ls):Below w.heap.size w a:=by
 obtain⟨F',G,h1,-,-,-⟩:=h;exact h1.only.below (Nat.le_refl _) fun _ _ e=>e
theorem Le.size[MemNo](h:Le x t r Z K w a Ls):w.heap.size≤a.heap.size:=h.belowW.size
theorem Le.get[MemNo](h:Le x t r Z K w a Ls){k:Nat}{o:Obj}(hk:(k,o)∈Ls):a.heap[k]? =some o:=by
 obtain⟨F',G,-,-,-,h4⟩:=h;exact(h4 _ hk).2.2.2
theorem Le.mx[MemNo](h:Le x t r Z K w a Ls)(hM:Mx w):Mx a:=by
 obtain⟨m,hm⟩:=hM;exact⟨m,(h.belowW.cell (p:=⟨0,0,none⟩) (mx_lt hm)).trans hm⟩
theorem Le.below[MemNo](h:Le x t r Z K w a Ls)(hb:Below a.heap.size a b):Le x t r Z K w b Ls:=by
 obtain⟨F',G,h1,h2,h3,h4⟩:=h;refine⟨F',G,⟨h1.inv.below hb,h1.old,h1.only.trans (below_only hb Nof) fun _ _ e=>e⟩,(RefF.held r Z).below h2 hb,fun k hk=>⟨(h3 k hk).1,Nat.lt_of_lt_of_le (h3 k hk).2.1 hb.size,(h3 k hk).2.2⟩,fun p hp=>⟨(h4 p hp).1,(h4 p hp).2.1,(h4 p hp).2.2.1,?_⟩⟩;rw[hb.block p.1 (lt_get (h4 p hp).2.2.2)];exact(h4 p hp).2.2.2
theorem Le.new[MemNo](h:Le x t r Z K w a Ls)(hb:Below a.heap.size a b){k:Nat}{o:Obj}(hk:a.heap.size≤k)(ho:b.heap[k]? =some o):Le x t r Z K w b ((k,o)::Ls):=by
 have hw:=h.size;obtain⟨F',G,h1,h2,h3,h4⟩:=h;refine⟨F',G,⟨h1.inv.below hb,h1.old,h1.only.trans (below_only hb Nof) fun _ _ e=>e⟩,(RefF.held r Z).below h2 hb,fun q hq=>⟨(h3 q hq).1,Nat.lt_of_lt_of_le (h3 q hq).2.1 hb.size,(h3 q hq).2.2⟩,fun p hp=> ?_⟩;rcases List.mem_cons.1 hp with rfl|hp
 ·exact⟨Nat.le_trans hw hk,fun e=>absurd (h1.inv.tight k e) (Nat.not_lt.2 hk),fun e=>absurd (h3 k e).2.1 (Nat.not_lt.2 hk),ho⟩
 ·exact⟨(h4 p hp).1,(h4 p hp).2.1,(h4 p hp).2.2.1,(hb.block p.1 (lt_get (h4 p hp).2.2.2)).trans (h4 p hp).2.2.2⟩
theorem Le.less[MemNo]{Ls':List (Nat×Obj)}(h:Le x t r Z K w a Ls)(hL:∀p∈Ls',p∈Ls):Le x t r Z K w a Ls':=by
 obtain⟨F',G,h1,h2,h3,h4⟩:=h;exact⟨F',G,h1,h2,h3,fun p hp=>h4 p (hL p hp)⟩
theorem Le.open[MemNo](h:Le x t r Z K w a Ls):∃F,MTe x t K a F∧(∀k,k<w.heap.size→¬F k)∧∀(K2:Nat) (b:World),Tue x t K2 F a b→Le x t r Z K2 w b Ls:=by
 obtain⟨F',G,h1,h2,h3,h4⟩:=h;refine⟨F',h1.inv,fun k hk hf=>h1.old k hk hf,fun K2 b ⟨F2,k2⟩=> ?_⟩;have hs:=k2.only.size;refine⟨F2,G,h1.trans k2,(RefF.held r Z).apart h2 k2.only fun k hk hg=>(h3 k hg).2.2,fun k hk=>⟨(h3 k hk).1,Nat.lt_of_lt_of_le (h3 k hk).2.1 hs,fun e=>(h3 k hk).2.2 (k2.old k (h3 k hk).2.1 e)⟩,fun p hp=> ?_⟩;obtain⟨e1,e2,e3,e4⟩:=h4 p hp;exact⟨e1,fun e=>e2 (k2.old _ (lt_get e4) e),e3,(k2.only.block _ (lt_get e4) e2).trans e4⟩
theorem Le.doc[MemNo](h:Le x t r Z K w a Ls):∃G,RefF r Z a G∧(∀k,G k→w.heap.size≤k∧k<a.heap.size)∧(∀p∈Ls,¬G p.1)∧∀(Z2:Pz.Fil) (b:World),RefF r Z2 b (Gr G a)→Only G a b→Le x t r Z2 K w b Ls:=by
 obtain⟨F',G,h1,h2,h3,h4⟩:=h;refine⟨G,h2,fun k hk=>⟨(h3 k hk).1,(h3 k hk).2.1⟩,fun p hp=>(h4 p hp).2.2.1,fun Z2 b hi ho=> ?_⟩;have hs:=ho.size;have hw:=h1.only.size;refine⟨F',fun k=>Gr G a k∧k<b.heap.size,⟨h1.inv.keep hs fun k hk hf=>ho.block k hk fun e=>(h3 k e).2.2 hf,h1.old,h1.only.trans (ho.mono fun k hk e=>e) ?_⟩,?_,fun k hk=> ?_,fun p hp=> ?_⟩
 ·intro j hj hg;exact absurd (h3 j hg).1 (Nat.not_le.2 hj)
 ·exact(RefF.held r Z2).mono hi fun k hk e=>⟨e,hk⟩
 ·rcases hk with⟨e|e,e2⟩
  ·exact⟨(h3 k e).1,e2,(h3 k e).2.2⟩
  ·exact⟨Nat.le_trans hw e,e2,fun hf=>absurd (h1.inv.tight k hf) (Nat.not_lt.2 e)⟩
 ·obtain⟨e1,e2,e3,e4⟩:=h4 p hp;refine⟨e1,e2,fun e=> ?_,(ho.block _ (lt_get e4) e3).trans e4⟩;rcases e.1 with e|e
  ·exact e3 e
  ·exact absurd (lt_get e4) (Nat.not_lt.2 e)
theorem Le.turn[MemNo](h:Le x t r Z K w a Ls){k:Nat}{o o2:Obj}(hk:(k,o)∈Ls)(hO:Only (fun q=>q=k) a b)(ho:b.heap[k]? =some o2)(Ls':List (Nat×Obj))(hL:∀p∈Ls',p=(k,o2)∨(p∈Ls∧p.1≠k)):
 Le x t r Z K w b Ls':=by
 obtain⟨F',G,h1,h2,h3,h4⟩:=h;obtain⟨e1,e2,e3,e4⟩:=h4 _ hk;dsimp only at e1 e2 e3 e4;have hs:=hO.size;refine⟨F',G,⟨h1.inv.keep hs fun q hq hf=>hO.block q hq fun e=>e2 (e▸hf),h1.old,h1.only.trans hO fun q hq e=>absurd e1 (by rw[←e];exact Nat.not_le.2 hq)⟩,(RefF.held r Z).apart h2 hO fun q hq hg e=>e3 (e▸hg),fun q hq=>⟨(h3 q hq).1,Nat.lt_of_lt_of_le (h3 q hq).2.1 hs,(h3 q hq).2.2⟩,fun p hp=> ?_⟩;rcases hL p hp with rfl|⟨hp,hne⟩
 ·exact⟨e1,e2,e3,ho⟩
 ·obtain⟨q1,q2,q3,q4⟩:=h4 p hp;exact⟨q1,q2,q3,(hO.block _ (lt_get q4) hne).trans q4⟩
theorem Le.set[MemNo](h:Le x t r Z K w a Ls){k j:Nat}{C:Array Value}{ty:TypeId}{v:Value}(hk:(k,Obj.cells C ty (0,0))∈Ls)(Ls':List (Nat×Obj))(hL:∀p∈Ls',p=(k,Obj.cells (C.setIfInBounds j v) ty (0,0))∨(p∈Ls∧p.1≠k)):
 Le x t r Z K w (a.setCell ⟨k,j,none⟩ v) Ls':=
 h.turn hk (only_setCell a _ _ rfl) (heap_setCell_same a k j C ty v (h.get hk)) Ls' hL
theorem Le.setAll[MemNo](h:Le x t r Z K w a Ls){k:Nat}{C:Array Value}{ty:TypeId}{vs:List Value}(hk:(k,Obj.cells C ty (0,0))∈Ls)(hC:C.size=vs.length)(Ls':List (Nat×Obj))(hL:∀p∈Ls',p=(k,Obj.cells vs.toArray ty (0,0))∨(p∈Ls∧p.1≠k)):
 Le x t r Z K w (a.setCells k 0 vs) Ls':=
 h.turn hk (grown_only (setCells_grownM k vs 0 a) fun q e=>(Option.some.inj e).symm) (whole_at (h.get hk) hC (Nat.le_refl k)).2 Ls' hL
theorem Le.alloc[MemNo](h:Le x t r Z K w a Ls)(C:Array Value)(ty:TypeId):Le x t r Z K w (a.alloc (.cells C ty)) ((a.heap.size,.cells C ty (0,0))::Ls):=
 h.new ((Below.refl _ _).alloc (Nat.le_refl _) _) (Nat.le_refl _) (heap_alloc_new _ _)
end
theorem pair_cells[MemNo]{W:World}{p t x r:Nat}{D:Nat→Nat→Nat}(h:W.heap[p]? =some (oPair t x r D)):W.cell? ⟨p,0,none⟩=some (.pointer (some ⟨MemNo.no,0,none⟩))∧W.cell? ⟨p,1,none⟩=some (.pointer (some ⟨t,0,none⟩))∧W.cell? ⟨p,2,none⟩=some (.pointer (some ⟨x,0,none⟩))∧W.cell? ⟨p,3,none⟩=some (.pointer (some ⟨r,0,none⟩))∧(∀k fd,k<8→fd<8→W.cell? ⟨p,4+k*8+fd,none⟩=some (.int .i64 (D k fd:Nat)))∧∀j,W.frozen? ⟨p,j,none⟩=false:=
 ⟨(cell_of_row W p 0 _ _ _ h).trans pairC_ptr.1,(cell_of_row W p 1 _ _ _ h).trans pairC_ptr.2.1,(cell_of_row W p 2 _ _ _ h).trans pairC_ptr.2.2.1,(cell_of_row W p 3 _ _ _ h).trans pairC_ptr.2.2.2,fun k fd hk hfd=>by
  rw[show 4+k*8+fd=4+(8*k+fd) by omega];exact(cell_of_row W p _ _ _ _ h).trans (pairC_fd hk hfd),fun j=>frozen_of_row W p j _ _ h⟩
theorem Le.news[MemNo]{x t r K:Nat}{Z:Pz.Fil}{w a b:World}{Ls:List (Nat×Obj)}(h:Le x t r Z K w a Ls)(hb:Below a.heap.size a b)(L2:List (Nat×Obj))(hL:∀q∈L2,a.heap.size≤q.1∧b.heap[q.1]? =some q.2):Le x t r Z K w b (L2++Ls):=by
 have hw:=h.size;obtain⟨F',G,h1,h2,h3,h4⟩:=h;refine⟨F',G,⟨h1.inv.below hb,h1.old,h1.only.trans (below_only hb Nof) fun _ _ e=>e⟩,(RefF.held r Z).below h2 hb,fun q hq=>⟨(h3 q hq).1,Nat.lt_of_lt_of_le (h3 q hq).2.1 hb.size,(h3 q hq).2.2⟩,fun p hp=> ?_⟩;rcases List.mem_append.1 hp with hp|hp
 ·obtain⟨e1,e2⟩:=hL p hp;exact⟨Nat.le_trans hw e1,fun e=>absurd (h1.inv.tight _ e) (Nat.not_lt.2 e1),fun e=>absurd (h3 _ e).2.1 (Nat.not_lt.2 e1),e2⟩
 ·exact⟨(h4 p hp).1,(h4 p hp).2.1,(h4 p hp).2.2.1,(hb.block p.1 (lt_get (h4 p hp).2.2.2)).trans (h4 p hp).2.2.2⟩
theorem Le.turnL[MemNo]{x t r K:Nat}{Z:Pz.Fil}{w a b:World}{Ls:List (Nat×Obj)}(h:Le x t r Z K w a Ls){U:Nat→Prop}(hO:Only U a b)(hU:∀q,U q→∃o,(q,o)∈Ls)(Ls':List (Nat×Obj))(hL:∀p∈Ls',p∈Ls∧¬U p.1):Le x t r Z K w b Ls':=by
 obtain⟨F',G,h1,h2,h3,h4⟩:=h;have hs:=hO.size;have hU2:∀q,U q→w.heap.size≤q∧¬F' q∧¬G q:=fun q hq=>by
  obtain⟨o,ho⟩:=hU q hq;obtain⟨e1,e2,e3,-⟩:=h4 _ ho;exact⟨e1,e2,e3⟩
 refine⟨F',G,⟨h1.inv.keep hs fun q hq hf=>hO.block q hq fun e=>(hU2 q e).2.1 hf,h1.old,h1.only.trans hO fun q hq e=>absurd (hU2 q e).1 (Nat.not_le.2 hq)⟩,(RefF.held r Z).apart h2 hO fun q hq hg e=>(hU2 q e).2.2 hg,fun q hq=>⟨(h3 q hq).1,Nat.lt_of_lt_of_le (h3 q hq).2.1 hs,(h3 q hq).2.2⟩,fun p hp=> ?_⟩;obtain⟨e1,e2⟩:=hL p hp;obtain⟨q1,q2,q3,q4⟩:=h4 p e1;exact⟨q1,q2,q3,(hO.block _ (lt_get q4) e2).trans q4⟩
def askL(a:Ak)(R:Array Value)(w0:World):List (Nat×Obj):=[(w0.heap.size+1+1+1,.cells R 47 (0,0)),(w0.heap.size+1+1,.cells (akCall a) 28 (0,0)),(w0.heap.size+1,.cells zRepC 47 (0,0)),(w0.heap.size,.cells (akC a) 30 (0,0))]
section
variable [MemNo] {x t r K p:Nat} {Z:Pz.Fil} {w w0 W b:World} {Ls Lq:List (Nat×Obj)} {a:Ak} {R:Array Value} {D:Nat→Nat→Nat}
theorem Le.askw(h:Le x t r Z K w w0 Ls)(hb:Below w0.heap.size w0 W)(hA:AskW a R w0 W):Le x t r Z K w W (askL a R w0++Ls):=by
 refine h.news hb _ fun q hq=> ?_;simp only[askL,List.mem_cons,List.mem_nil_iff,or_false]at hq;rcases hq with rfl|rfl|rfl|rfl
 ·exact⟨by show w0.heap.size≤w0.heap.size+1+1+1;omega,hA.c8⟩
 ·exact⟨by show w0.heap.size≤w0.heap.size+1+1;omega,hA.c7⟩
 ·exact⟨by show w0.heap.size≤w0.heap.size+1;omega,hA.c4⟩
 ·exact⟨Nat.le_refl _,hA.c3⟩
theorem Le.askW(h:Le x t r Z K w W (Lq++(askL a R w0++Ls))):AskW a R w0 W:=
 ⟨h.get (k:=w0.heap.size) (by simp[askL]),h.get (k:=w0.heap.size+1) (by simp[askL]),h.get (k:=w0.heap.size+1+1) (by simp[askL]),h.get (k:=w0.heap.size+1+1+1) (by simp[askL])⟩
theorem Le.askEnd(h:Le x t r Z K w W (Lq++(askL a R w0++Ls)))(hO:Only (fun k=>k=w0.heap.size+1∨k=w0.heap.size+1+1+1) W b)(hl:∀q∈Ls,q.1<w0.heap.size)(hq:∀q∈Lq,w0.heap.size+4≤q.1):Le x t r Z K w b (Lq++Ls):=by
 refine h.turnL hO (fun q hq=> ?_) _ fun q hq'=> ?_
 ·rcases hq with rfl|rfl
  ·exact⟨.cells zRepC 47 (0,0),by simp[askL]⟩
  ·exact⟨.cells R 47 (0,0),by simp[askL]⟩
 ·rcases List.mem_append.1 hq' with e|e
  ·refine⟨List.mem_append_left _ e,fun e2=> ?_⟩;have:=hq q e
   omega
  ·refine⟨List.mem_append_right _ (List.mem_append_right _ e),fun e2=> ?_⟩;have:=hl q e
   omega
theorem Le.lts(h:Le x t r Z K w w0 Ls):∀q∈Ls,q.1<w0.heap.size:=fun q hq=>lt_get (h.get (k:=q.1) (o:=q.2) hq)
end
namespace Gd
def freeEN(D:Nat→Nat→Nat)(k:Nat):Nat→Nat→Nat
 |0,b=>b
 |m+1,b=>if D k b≠0 then freeEN D k m (b+1)else b
def freeE(D:Nat→Nat→Nat)(k:Nat):Nat:=freeEN D k 8 0
theorem freeEN_is{D:Nat→Nat→Nat}{k:Nat}:∀(m b:Nat),b≤freeEN D k m b∧freeEN D k m b≤b+m∧(freeEN D k m b<b+m→D k (freeEN D k m b)=0)∧∀c,b≤c→c<freeEN D k m b→D k c≠0
 |0,b=>⟨Nat.le_refl _,Nat.le_refl _,fun h=>absurd h (Nat.lt_irrefl _),fun c h1 h2=>absurd h2 (Nat.not_lt.2 h1)⟩
 |m+1,b=>by
  unfold freeEN;by_cases h0:D k b≠0
  ·rw[if_pos h0];obtain⟨h1,h2,h3,h4⟩:=freeEN_is (k:=k) m (b+1);refine⟨by omega,by omega,fun h=>h3 (by omega),fun c c1 c2=> ?_⟩;by_cases e:c=b
   ·rw[e];exact h0
   ·exact h4 c (by omega) c2
  ·rw[if_neg h0];exact⟨Nat.le_refl _,by omega,fun _=>by omega,fun c h1 h2=>by omega⟩
def updE(D:Nat→Nat→Nat)(k fd i:Nat):Nat→Nat→Nat:=fun a b=>if a=k∧b=fd then i else D a b
def dropE(D:Nat→Nat→Nat)(k:Nat):Nat→Nat→Nat:=fun a b=>if a=k then 0 else D a b
end Gd
def AskedT[MemNo](x t r:Nat)(Z:Pz.Fil)(K:Nat)(w:World)(Ls:List (Nat×Obj))(a:Ak)(e:Ending)(b:World):Prop:=
 ∃(q:Pz.Rep) (A:Option Addr) (c i:Nat) (Lq:List (Nat×Obj)),e= .returned (.tuple #[repV q A c,.int .i64 (i:Nat),.bool true])∧Strs b 0 A q.names∧(q.names=[]∨∃nb o ob,A=some ⟨nb,o,none⟩∧(nb,ob)∈Lq)∧q.names.length≤16∧(a.kind=2→q.errno=0→0≤a.fd∧a.fd<8)∧Le x t r Z K w b (Lq++Ls)
section
variable [MemNo] {x t r K p:Nat} {Z:Pz.Fil} {D:Nat→Nat→Nat} {w w0 W:World} {Ls:List (Nat×Obj)}
theorem Le.openC{a:World}(h:Le x t r Z K w a Ls)(hM:Mx w):∃F S,MT x t S K a F∧Cx F a∧(∀b,Tu x t S K F a b→Le x t r Z K w b Ls):=by
 have hm:=h.mx hM;obtain⟨F,⟨S,h1⟩,h2,h3⟩:=h.open;obtain⟨m,hmx⟩:=hM;exact⟨F,S,h1,⟨hm,h2 _ (mx_lt hmx)⟩,fun b hb=>h3 _ _ hb.e⟩
theorem Le.erC{ak:Ak}{R:Array Value}{g:Nat}{args:Array Value}(h:Le x t r Z K w w0 Ls)(hb:Below w0.heap.size w0 W)(hA:AskW ak R w0 W)(hp:(p,oPair t x r D)∈Ls)(hM:Mx w)(hc:∀F S,MT x t S K W F→Cx F W→Calls prog g args W (ErR x t S K F W)):
 Calls prog g args W fun e W2=>∃rr:Int,e= .returned (.int .i64 rr)∧Le x t r Z K w W2 (askL ak R w0++Ls)∧AskW ak R w0 W2∧W2.cell? ⟨p,2,none⟩=some (.pointer (some ⟨x,0,none⟩)):=by
 obtain⟨F,S,h1,h2,h3⟩:=(h.askw hb hA).openC hM;refine(hc F S h1 h2).mono ?_
 rintro e W2 ⟨rr,rfl,ht⟩;have h5:=h3 W2 ht;exact⟨rr,rfl,h5,Le.askW (Lq:=[]) h5,(pair_cells (h5.get (List.mem_append_right _ hp))).2.2.1⟩
theorem asked_ofT{ak:Ak}{R:Array Value}(h:Le x t r Z K w w0 Ls)(hk2:∀rr:Int,ak.kind=2→rr=0→0≤ak.fd∧ak.fd<8){e:Ending}{b:World}(hE:AskEnd (fun q i A c W=>i=0∧A=none∧c=0∧∃rr:Int,q=Pz.er rr∧Le x t r Z K w W (askL ak R w0++Ls)) w0 e b):AskedT x t r Z K w Ls ak e b:=by
 obtain⟨q,i,A,c,W,⟨rfl,rfl,rfl,rr,rfl,hq⟩,hO,rfl⟩:=hE;exact⟨Pz.er rr,none,0,0,[],rfl,Or.inl rfl,Or.inl rfl,Nat.zero_le _,hk2 rr,Le.askEnd (Lq:=[]) hq hO h.lts fun _ e=>by cases e⟩
theorem askT_mkdir(k:Nat)(hk:k<8)(fl fd off n spare:Int)(s s2 data:ByteArray)(drop:Bool)(hs:s.size≤100000)(hs2:s2.size≤100000)(h:Le x t r Z K w w0 Ls)(hp:(p,oPair t x r D)∈Ls)(hM:Mx w):
 Calls prog 9 #[.pointer (some ⟨p,0,none⟩),akV ⟨(k:Int)+1,7,s,s2,fl,fd,off,n,data,spare,drop⟩] w0 (AskedT x t r Z K w Ls ⟨(k:Int)+1,7,s,s2,fl,fd,off,n,data,spare,drop⟩):=by
 have hp2:=(pair_cells (h.get hp)).2.2.1;have hpl:=lt_get (h.get hp);exact(asked_mkdir ((k:Int)+1) fl fd off n spare s s2 data drop w0 (fun _ W=>Le x t r Z K w W (askL ⟨(k:Int)+1,7,s,s2,fl,fd,off,n,data,spare,drop⟩ zRepC w0++Ls)) hp2 hpl fun W hb hA=>h.erC hb hA hp hM fun F S h1 h2=>mkdir_t s hs spare W h1 h2).mono fun e b hE=>asked_ofT h (fun _ e=>absurd e (show(7:Int)≠2 by decide)) hE
theorem askT_rmdir(k:Nat)(hk:k<8)(fl fd off n spare:Int)(s s2 data:ByteArray)(drop:Bool)(hs:s.size≤100000)(hs2:s2.size≤100000)(h:Le x t r Z K w w0 Ls)(hp:(p,oPair t x r D)∈Ls)(hM:Mx w):
 Calls prog 9 #[.pointer (some ⟨p,0,none⟩),akV ⟨(k:Int)+1,8,s,s2,fl,fd,off,n,data,spare,drop⟩] w0 (AskedT x t r Z K w Ls ⟨(k:Int)+1,8,s,s2,fl,fd,off,n,data,spare,drop⟩):=by
 have hp2:=(pair_cells (h.get hp)).2.2.1;have hpl:=lt_get (h.get hp);exact(asked_rmdir ((k:Int)+1) fl fd off n spare s s2 data drop w0 (fun _ W=>Le x t r Z K w W (askL ⟨(k:Int)+1,8,s,s2,fl,fd,off,n,data,spare,drop⟩ zRepC w0++Ls)) hp2 hpl fun W hb hA=>h.erC hb hA hp hM fun F S h1 h2=>rmdir_t s hs W h1 h2).mono fun e b hE=>asked_ofT h (fun _ e=>absurd e (show(8:Int)≠2 by decide)) hE
theorem askT_link(k:Nat)(hk:k<8)(fl fd off n spare:Int)(s s2 data:ByteArray)(drop:Bool)(hs:s.size≤100000)(hs2:s2.size≤100000)(h:Le x t r Z K w w0 Ls)(hp:(p,oPair t x r D)∈Ls)(hM:Mx w):
 Calls prog 9 #[.pointer (some ⟨p,0,none⟩),akV ⟨(k:Int)+1,9,s,s2,fl,fd,off,n,data,spare,drop⟩] w0 (AskedT x t r Z K w Ls ⟨(k:Int)+1,9,s,s2,fl,fd,off,n,data,spare,drop⟩):=by
 have hp2:=(pair_cells (h.get hp)).2.2.1;have hpl:=lt_get (h.get hp);exact(asked_link ((k:Int)+1) fl fd off n spare s s2 data drop w0 (fun _ W=>Le x t r Z K w W (askL ⟨(k:Int)+1,9,s,s2,fl,fd,off,n,data,spare,drop⟩ zRepC w0++Ls)) hp2 hpl fun W hb hA=>h.erC hb hA hp hM fun F S h1 h2=>link_t s s2 hs hs2 spare W h1 h2).mono fun e b hE=>asked_ofT h (fun _ e=>absurd e (show(9:Int)≠2 by decide)) hE
theorem askT_unlink(k:Nat)(hk:k<8)(fl fd off n spare:Int)(s s2 data:ByteArray)(drop:Bool)(hs:s.size≤100000)(hs2:s2.size≤100000)(h:Le x t r Z K w w0 Ls)(hp:(p,oPair t x r D)∈Ls)(hM:Mx w):
 Calls prog 9 #[.pointer (some ⟨p,0,none⟩),akV ⟨(k:Int)+1,10,s,s2,fl,fd,off,n,data,spare,drop⟩] w0 (AskedT x t r Z K w Ls ⟨(k:Int)+1,10,s,s2,fl,fd,off,n,data,spare,drop⟩):=by
 have hp2:=(pair_cells (h.get hp)).2.2.1;have hpl:=lt_get (h.get hp);exact(asked_unlink ((k:Int)+1) fl fd off n spare s s2 data drop w0 (fun _ W=>Le x t r Z K w W (askL ⟨(k:Int)+1,10,s,s2,fl,fd,off,n,data,spare,drop⟩ zRepC w0++Ls)) hp2 hpl fun W hb hA=>h.erC hb hA hp hM fun F S h1 h2=>unlink_t s hs W h1 h2).mono fun e b hE=>asked_ofT h (fun _ e=>absurd e (show(10:Int)≠2 by decide)) hE
theorem askT_rename(k:Nat)(hk:k<8)(fl fd off n spare:Int)(s s2 data:ByteArray)(drop:Bool)(hs:s.size≤100000)(hs2:s2.size≤100000)(h:Le x t r Z K w w0 Ls)(hp:(p,oPair t x r D)∈Ls)(hM:Mx w):
 Calls prog 9 #[.pointer (some ⟨p,0,none⟩),akV ⟨(k:Int)+1,11,s,s2,fl,fd,off,n,data,spare,drop⟩] w0 (AskedT x t r Z K w Ls ⟨(k:Int)+1,11,s,s2,fl,fd,off,n,data,spare,drop⟩):=by
 have hp2:=(pair_cells (h.get hp)).2.2.1;have hpl:=lt_get (h.get hp);exact(asked_rename ((k:Int)+1) fl fd off n spare s s2 data drop w0 (fun _ W=>Le x t r Z K w W (askL ⟨(k:Int)+1,11,s,s2,fl,fd,off,n,data,spare,drop⟩ zRepC w0++Ls)) hp2 hpl fun W hb hA=>h.erC hb hA hp hM fun F S h1 h2=>rename_t s s2 hs hs2 spare W h1 h2).mono fun e b hE=>asked_ofT h (fun _ e=>absurd e (show(11:Int)≠2 by decide)) hE
theorem askT_open(k:Nat)(hk:k<8)(fl fd off n spare:Int)(s s2 data:ByteArray)(drop:Bool)(hs:s.size≤100000)(hs2:s2.size≤100000)(h:Le x t r Z K w w0 Ls)(hp:(p,oPair t x r D)∈Ls)(hM:Mx w):
 Calls prog 9 #[.pointer (some ⟨p,0,none⟩),akV ⟨(k:Int)+1,1,s,s2,fl,fd,off,n,data,spare,drop⟩] w0 (AskedT x t r Z K w Ls ⟨(k:Int)+1,1,s,s2,fl,fd,off,n,data,spare,drop⟩):=by
 have hp2:=(pair_cells (h.get hp)).2.2.1;have hpl:=lt_get (h.get hp);have hfull:(((Gd.freeE D k:Nat):Int)==8)=decide (Gd.freeE D k=8):=by
  rw[Bool.eq_iff_iff];simp only[beq_iff_eq,decide_eq_true_eq];omega
 refine(asked_open ((k:Int)+1) fl fd off n spare s s2 data drop w0 (fun _ _ W=>Le x t r Z K w W (askL ⟨(k:Int)+1,1,s,s2,fl,fd,off,n,data,spare,drop⟩ zRepC w0++Ls)) hp2 hpl (Gd.freeE D k) _ hfull (fun W hb=> ?_) fun W hb hA=> ?_).mono ?_
 ·have hc:=(pair_cells ((h.below hb).get hp)).2.2.2.2.1;refine(pfree_any k hk (D k) W fun f hf=>hc k f hk hf).mono ?_
  rintro e W2 ⟨⟨f,rfl,h1,h2,h3⟩,rfl⟩;have:Gd.freeE D k=f:=by
   obtain⟨-,e1,e2,e3⟩:=Gd.freeEN_is (D:=D) (k:=k) 8 0;unfold Gd.freeE;rcases Nat.lt_trichotomy (Gd.freeEN D k 8 0) f with e|e|e
   ·exact absurd (e2 (by omega)) (h2 _ e)
   ·exact e
   ·exact absurd (h3 (by omega)) (e3 f (Nat.zero_le _) e)
  rw[this];exact⟨rfl,rfl⟩
 ·obtain⟨F,S,h1,h2,h3⟩:=(h.askw hb hA).openC hM;refine(mopen_t k hk s hs fl _ spare W h1 h2).mono ?_
  rintro e W2 ⟨i,rr,hi,rfl,ht⟩;have h5:=h3 W2 ht;obtain⟨i,rfl⟩:∃j:Nat,i=j:=⟨i.toNat,by omega⟩;exact⟨i,rr,rfl,h5,Le.askW (Lq:=[]) h5,(pair_cells (h5.get (List.mem_append_right _ hp))).2.2.1⟩
 ·rintro e b ⟨q,i,A,c,W,⟨rfl,rfl,rr,hq,hqe⟩,hO,rfl⟩;have hnm:q.names=[]:=by
   rw[hqe];split<;>rfl
  exact⟨q,none,0,i,[],rfl,Or.inl hnm,Or.inl hnm,by rw[hnm];exact Nat.zero_le _,fun e=>absurd e (show(1:Int)≠2 by decide),Le.askEnd (Lq:=[]) hq hO h.lts fun _ e=>by cases e⟩
theorem askT_close(k:Nat)(hk:k<8)(fl fd off n spare:Int)(s s2 data:ByteArray)(drop:Bool)(hs:s.size≤100000)(hs2:s2.size≤100000)(h:Le x t r Z K w w0 Ls)(hp:(p,oPair t x r D)∈Ls)(hM:Mx w):
 Calls prog 9 #[.pointer (some ⟨p,0,none⟩),akV ⟨(k:Int)+1,2,s,s2,fl,fd,off,n,data,spare,drop⟩] w0 (AskedT x t r Z K w Ls ⟨(k:Int)+1,2,s,s2,fl,fd,off,n,data,spare,drop⟩):=by
 have hp2:=(pair_cells (h.get hp)).2.2.1;have hpl:=lt_get (h.get hp);by_cases hfd:0≤fd∧fd<8
 ·obtain⟨f,rfl⟩:∃f:Nat,fd=f:=⟨fd.toNat,by omega⟩;have hf8:f<8:=by omega
  have hd4:=(pair_cells (h.get hp)).2.2.2.2.1 k f hk hf8;refine(asked_close fl off n spare s s2 data drop w0 (fun _ W=>Le x t r Z K w W (askL ⟨(k:Int)+1,2,s,s2,fl,(f:Int),off,n,data,spare,drop⟩ rep16C w0++Ls)) hp2 hpl k f (D k f) hk hf8 hd4 fun W hb hA=> ?_).mono fun e b hE=>asked_ofT h (fun _ _ _=>hfd) hE
  refine(h.erC hb hA hp hM fun F S h1 h2=>mclose_t k hk (D k f:Nat) W h1).mono ?_
  rintro e W2 ⟨rr,rfl,h5,hA5,-⟩;exact⟨rr,rfl,h5,hA5,fun j=>World.cell?_of_block (w:=w0) (a:=⟨p,j,none⟩) ((h5.get (List.mem_append_right _ hp)).trans (h.get hp).symm)⟩
 ·refine(asked_closeN ((k:Int)+1) fl fd off n spare s s2 data drop w0 hp2 hpl hfd).mono ?_
  rintro e b ⟨q,i,A,c,W,⟨rfl,rfl,rfl,rfl,hb⟩,hO,rfl⟩;have hb2:Below w0.heap.size w0 b:=hb.trans (hO.below hb.size fun q hq e=>by omega);exact⟨Pz.er 16,none,0,0,[],rfl,Or.inl rfl,Or.inl rfl,Nat.zero_le _,fun _ e=>absurd e (show(16:Int)≠0 by decide),h.below hb2⟩
theorem askT_list(k:Nat)(hk:k<8)(fl fd off n spare:Int)(s s2 data:ByteArray)(drop:Bool)(hs:s.size≤100000)(hs2:s2.size≤100000)(h:Le x t r Z K w w0 Ls)(hp:(p,oPair t x r D)∈Ls)(hM:Mx w):
 Calls prog 9 #[.pointer (some ⟨p,0,none⟩),akV ⟨(k:Int)+1,12,s,s2,fl,fd,off,n,data,spare,drop⟩] w0 (AskedT x t r Z K w Ls ⟨(k:Int)+1,12,s,s2,fl,fd,off,n,data,spare,drop⟩):=by
 have hp2:=(pair_cells (h.get hp)).2.2.1;have hpl:=lt_get (h.get hp);refine(asked_list ((k:Int)+1) fl fd off n spare s s2 data drop w0 (fun A cp N rr W=>N.length≤16∧Strs W 0 A N∧∃Lq,(N=[]∨∃nb o ob,A=some ⟨nb,o,none⟩∧(nb,ob)∈Lq)∧(∀q∈Lq,w0.heap.size+4≤q.1)∧Le x t r Z K w W (Lq++(askL ⟨(k:Int)+1,12,s,s2,fl,fd,off,n,data,spare,drop⟩ zRepC w0++Ls))) hp2 hpl fun W hb hA=> ?_).mono ?_
 ·have h4:=h.askw hb hA;obtain⟨F,S,h1,h2,-⟩:=h4.openC hM;have hsz:w0.heap.size+4≤W.heap.size:=lt_get hA.c8;refine(mlist_t s hs W h1 h2).mono ?_
  rintro e W2 ⟨N,A,cp,E,hl,-,rfl,hS,hb2⟩;have h5:=h4.below hb2;rcases hS with e|⟨nb,o,e1,e2,e3,e4⟩
  ·exact⟨A,cp,N,E,rfl,⟨hl,Or.inl e,[],Or.inl e,(fun q hq=>by cases hq),h5⟩,Le.askW (Lq:=[]) h5,(pair_cells (h5.get (List.mem_append_right _ hp))).2.2.1⟩
  ·obtain⟨ob,hob⟩:∃ob,W2.heap[nb]? =some ob:=⟨_,Array.getElem?_eq_getElem e3⟩;have h6:=h4.new hb2 e2 hob;exact⟨A,cp,N,E,rfl,⟨hl,Or.inr ⟨nb,o,e1,Nat.zero_le _,e3,e4⟩,[(nb,ob)],Or.inr ⟨nb,o,ob,e1,List.mem_singleton.2 rfl⟩,(fun q hq=>by rw[List.mem_singleton.1 hq];exact Nat.le_trans hsz e2),h6⟩,Le.askW (Lq:=[(nb,ob)]) h6,(pair_cells (h5.get (List.mem_append_right _ hp))).2.2.1⟩
 ·rintro e b ⟨q,i,A,c,W,⟨rfl,N2,rr,rfl,hl,hS,Lq,hN,hLq,hP⟩,hO,rfl⟩;have h7:=Le.askEnd hP hO h.lts hLq;have hS7:Strs b 0 A N2:=by
   rcases hN with e|⟨nb,o,ob,e1,e2⟩
   ·exact Or.inl e
   ·rcases hS with e|⟨b',o',g1,g2,g3,g4,g5⟩
    ·exact Or.inl e
    ·rw[e1]at g1
     cases g1
     have hbb:b.heap[nb]? =W.heap[nb]? :=(h7.get (List.mem_append_left _ e2)).trans (hP.get (List.mem_append_left _ e2)).symm;exact Or.inr ⟨nb,o,e1,Nat.zero_le _,lt_get (h7.get (List.mem_append_left _ e2)),fun j x hx=>(World.cell?_of_block (w:=W) (a:=⟨nb,o+j,none⟩) hbb).trans (g4 j x hx),fun j=>(World.frozen?_of_block (w:=W) (a:=⟨nb,j,none⟩) hbb).trans (g5 j)⟩
  exact⟨_,A,c,0,Lq,rfl,hS7,hN,hl,fun e=>absurd e (show(12:Int)≠2 by decide),h7⟩
theorem askT_stat(k:Nat)(hk:k<8)(fl fd off n spare:Int)(s s2 data:ByteArray)(drop:Bool)(hs:s.size≤100000)(hs2:s2.size≤100000)(h:Le x t r Z K w w0 Ls)(hp:(p,oPair t x r D)∈Ls)(hM:Mx w):
 Calls prog 9 #[.pointer (some ⟨p,0,none⟩),akV ⟨(k:Int)+1,13,s,s2,fl,fd,off,n,data,spare,drop⟩] w0 (AskedT x t r Z K w Ls ⟨(k:Int)+1,13,s,s2,fl,fd,off,n,data,spare,drop⟩):=by
 have hp2:=(pair_cells (h.get hp)).2.2.1;have hpl:=lt_get (h.get hp);refine(asked_stat ((k:Int)+1) fl fd off n spare s s2 data drop w0 (fun _ _ _ _ W=>Le x t r Z K w W (askL ⟨(k:Int)+1,13,s,s2,fl,fd,off,n,data,spare,drop⟩ zRepC w0++Ls)) hp2 hpl fun W hb hA=> ?_).mono ?_
 ·have h4:=h.askw hb hA;obtain⟨F,S,h1,h2,-⟩:=h4.openC hM;refine(mstat_t s hs W h1 h2).mono ?_
  rintro e W2 ⟨ik,il,is,E,rfl,hb2⟩;have h5:=h4.below hb2;exact⟨ik,il,is,E,rfl,h5,Le.askW (Lq:=[]) h5,(pair_cells (h5.get (List.mem_append_right _ hp))).2.2.1⟩
 ·rintro e b ⟨q,i,A,c,W,⟨rfl,rfl,rfl,a1,a2,a3,rr,rfl,hP⟩,hO,rfl⟩;exact⟨_,none,0,0,[],rfl,Or.inl rfl,Or.inl rfl,Nat.zero_le _,fun e=>absurd e (show(13:Int)≠2 by decide),Le.askEnd (Lq:=[]) hP hO h.lts fun _ e=>by cases e⟩
def layerE(kind:Int):Prop:=kind=1∨kind=2∨kind=7∨kind=8∨kind=9∨kind=10∨kind=11∨kind=12∨kind=13
theorem askT_any(k:Nat)(hk:k<8)(kind fl fd off n spare:Int)(s s2 data:ByteArray)(drop:Bool)(hl:layerE kind)(hs:s.size≤100000)(hs2:s2.size≤100000)(h:Le x t r Z K w w0 Ls)(hp:(p,oPair t x r D)∈Ls)(hM:Mx w):
 Calls prog 9 #[.pointer (some ⟨p,0,none⟩),akV ⟨(k:Int)+1,kind,s,s2,fl,fd,off,n,data,spare,drop⟩] w0 (AskedT x t r Z K w Ls ⟨(k:Int)+1,kind,s,s2,fl,fd,off,n,data,spare,drop⟩):=by
 rcases hl with rfl|rfl|rfl|rfl|rfl|rfl|rfl|rfl|rfl
 ·exact askT_open k hk fl fd off n spare s s2 data drop hs hs2 h hp hM
 ·exact askT_close k hk fl fd off n spare s s2 data drop hs hs2 h hp hM
 ·exact askT_mkdir k hk fl fd off n spare s s2 data drop hs hs2 h hp hM
 ·exact askT_rmdir k hk fl fd off n spare s s2 data drop hs hs2 h hp hM
 ·exact askT_link k hk fl fd off n spare s s2 data drop hs hs2 h hp hM
 ·exact askT_unlink k hk fl fd off n spare s s2 data drop hs hs2 h hp hM
 ·exact askT_rename k hk fl fd off n spare s s2 data drop hs hs2 h hp hM
 ·exact askT_list k hk fl fd off n spare s s2 data drop hs hs2 h hp hM
 ·exact askT_stat k hk fl fd off n spare s s2 data drop hs hs2 h hp hM
end
end
section
open Go.Shelf
attribute [local go_sem] Oper.semAt_some
section
variable [MemNo] {x t r K:Nat} {Z:Pz.Fil} {w a b:World} {Ls:List (Nat×Obj)}
theorem Le.tdrop(h:Le x t r Z K w a Ls):Calls prog 10 #[.pointer (some ⟨t,0,none⟩)] a fun e b=>e= .returned (.tuple #[])∧Le x t r Z K w b Ls:=by
 obtain⟨F,h1,h2,h3⟩:=h.open;exact(tdrop_t a h1).mono fun e b hq=>⟨hq.1,h3 _ _ hq.2⟩
theorem Le.tcommit(h:Le x t r Z K w a Ls)(hK:K<600000000000):Calls prog 17 #[.pointer (some ⟨t,0,none⟩)] a fun e b=>∃E:Int,e= .returned (.int .i64 E)∧Le x t r Z (K+2000000) w b Ls:=by
 obtain⟨F,h1,h2,h3⟩:=h.open;exact(tcommit_t a h1 hK).mono fun e b ⟨E,he,ht⟩=>⟨E,he,h3 _ _ ht⟩
theorem Le.xdrop(k:Nat)(hk:k<8)(h:Le x t r Z K w a Ls):Calls prog 8 #[.pointer (some ⟨x,0,none⟩),.int .i64 ((k:Int)+1)] a fun e b=>∃E:Int,e= .returned (.int .i64 E)∧Le x t r Z K w b Ls:=by
 obtain⟨F,⟨S,h1⟩,h2,h3⟩:=h.open;exact(mdrop_t k hk a h1).mono fun e b ⟨E,he,ht⟩=>⟨E,he,h3 _ _ ht.e⟩
theorem Le.more{K2:Nat}(h:Le x t r Z K w a Ls)(hK:K≤K2):Le x t r Z K2 w a Ls:=by
 obtain⟨F',G,g1,g2,g3,g4⟩:=h;exact⟨F',G,⟨g1.inv.more hK,g1.old,g1.only⟩,g2,g3,g4⟩
theorem Le.rdrop(cl:Int)(h:Le x t r Z K w a Ls)(hO:Z.O.length≤1000000):Calls prog 19 #[.pointer (some ⟨r,0,none⟩),.int .i64 cl] a fun e b=>e= .returned (.tuple #[])∧Le x t r {Z with O:=Pz.drop Z.O cl} K w b Ls:=by
 obtain⟨G,h1,h2,h3,h4⟩:=h.doc;refine(drop_any r Z cl a G hO h1).mono ?_
 rintro e b ⟨rfl,hi,ho⟩;exact⟨rfl,h4 _ _ hi ho⟩
theorem Le.rdo(cl kind fl fd off n:Int)(s s2 data:ByteArray)(hs:s.size≤100000)(hs2:s2.size≤100000)(hq:kind<3∨6<kind)(h:Le x t r Z K w a Ls)(hG:Pz.Good 1000 Z):Calls prog 20 #[.pointer (some ⟨r,0,none⟩),.int .i64 cl,callV kind s s2 fl fd off n data] a fun e b=>∃A cp,e= .returned (repV (Pz.doA Z cl kind s.data.toList s2.data.toList fl fd off n data.data.toList).2 A cp)∧Strs b a.heap.size A (Pz.doA Z cl kind s.data.toList s2.data.toList fl fd off n data.data.toList).2.names∧Le x t r (Pz.doA Z cl kind s.data.toList s2.data.toList fl fd off n data.data.toList).1 K w b Ls:=by
 obtain⟨G,h1,h2,h3,h4⟩:=h.doc;refine(rdo_any r Z cl kind fl fd off n s s2 data a G hs hs2 hq hG h1).mono ?_
 rintro e b ⟨A,cp,rfl,hS,hi,ho⟩;exact⟨A,cp,rfl,hS,h4 _ _ hi ho⟩
theorem Strs.ownE{W W2:World}{A:Option Addr}{N:List (List UInt8)}{Z2:Pz.Fil}{K2:Nat}{Ls2:List (Nat×Obj)}(h:Strs W 0 A N)(hN:N=[]∨∃nb o ob,A=some ⟨nb,o,none⟩∧(nb,ob)∈Ls∧(nb,ob)∈Ls2)(h1:Le x t r Z K w W Ls)(h2:Le x t r Z2 K2 w W2 Ls2):Strs W2 0 A N:=by
 rcases hN with e|⟨nb,o,ob,e,e2,e3⟩
 ·exact Or.inl e
 ·rcases h with h|⟨b,o',g1,g2,g3,g4,g5⟩
  ·exact Or.inl h
  ·rw[e]at g1
   cases g1
   have hb:W2.heap[nb]? =W.heap[nb]? :=(h2.get e3).trans (h1.get e2).symm;exact Or.inr ⟨nb,o,e,Nat.zero_le _,lt_get (h2.get e3),fun j x hx=>(World.cell?_of_block (w:=W) (a:=⟨nb,o+j,none⟩) hb).trans (g4 j x hx),fun j=>(World.frozen?_of_block (w:=W) (a:=⟨nb,j,none⟩) hb).trans (g5 j)⟩
end
theorem do_namesE(S:Pz.Fil)(cl kind:Int)(p p2:List UInt8)(flags fd off m:Int)(d:List UInt8)(hk:kind=1∨kind=2∨7≤kind):(Pz.doA S cl kind p p2 flags fd off m d).2.names.length≤S.E.length:=by
 unfold Pz.doA;split
 ·exact Nat.zero_le _
 split
 ·have:(Pz.opens S cl flags p).2.names=[]:=by
   unfold Pz.opens;repeat' split
   all_goals rfl
  rw[this];exact Nat.zero_le _
 split
 ·split
  ·exact Nat.zero_le _
  ·have e2:kind=2:=by omega
   subst e2;exact Nat.zero_le _
 split
 ·have:(Pz.mkdir S p).2.names=[]:=by
   unfold Pz.mkdir;repeat' split
   all_goals rfl
  rw[this];exact Nat.zero_le _
 split
 ·have:(Pz.rmdirR S p).2.names=[]:=by
   unfold Pz.rmdirR;repeat' split
   all_goals rfl
  rw[this];exact Nat.zero_le _
 split
 ·have:(Pz.link S p p2).2.names=[]:=by
   unfold Pz.link;repeat' split
   all_goals rfl
  rw[this];exact Nat.zero_le _
 split
 ·have:(Pz.unlink S p).2.names=[]:=by
   unfold Pz.unlink;repeat' split
   all_goals rfl
  rw[this];exact Nat.zero_le _
 split
 ·have:(Pz.rename S p p2).2.names=[]:=by
   unfold Pz.rename;repeat' split
   all_goals rfl
  rw[this];exact Nat.zero_le _
 split
 ·unfold Pz.tells;simp only
  split
  ·exact Nat.zero_le _
  ·split
   ·split<;>exact Nat.zero_le _
   ·split
    ·exact Pz.namesOf_le _ _
    ·exact Nat.zero_le _
 ·exact Nat.zero_le _
theorem sizeCall14:(prog.info? 28).map (fun i=>i.size)=some 8:=by kernel_rfl
theorem infoAsk:(prog.info? 30).map (·.size)=some 11:=by kernel_rfl
theorem call_one(kind fl fd off n:Int)(s s2 data:ByteArray):(#[.int .i64 kind,.string s,.string s2,.int .i64 fl,.int .i64 fd,.int .i64 off,.int .i64 n,.string data]:Array Value).all (·.oneCell')=true:=by
 refine all_oneCell_toArray fun v hv=> ?_;simp only[List.mem_cons,List.mem_nil_iff,or_false]at hv;rcases hv with rfl|rfl|rfl|rfl|rfl|rfl|rfl|rfl<;>rfl
theorem ak_put{W:World}{b t:Nat}{a0 a1 a2 a3 a4 a5 a6 a7 a8 a9 a10:Value}(h:W.heap[b]? =some (.cells #[a0,a1,a2,a3,a4,a5,a6,a7,a8,a9,a10] t (0,0)))(v1 v2 v3 v4 v5 v6 v7 v8:Value):(W.setCells b 1 [v1,v2,v3,v4,v5,v6,v7,v8]).heap[b]? =some (.cells #[a0,v1,v2,v3,v4,v5,v6,v7,v8,a9,a10] t (0,0)):=by
 have h1:_=some (Obj.cells #[a0,v1,a2,a3,a4,a5,a6,a7,a8,a9,a10] t (0,0)):=heap_setCell_same W b 1 _ _ v1 h;have h2:_=some (Obj.cells #[a0,v1,v2,a3,a4,a5,a6,a7,a8,a9,a10] t (0,0)):=heap_setCell_same _ b 2 _ _ v2 h1;have h3:_=some (Obj.cells #[a0,v1,v2,v3,a4,a5,a6,a7,a8,a9,a10] t (0,0)):=heap_setCell_same _ b 3 _ _ v3 h2;have h4:_=some (Obj.cells #[a0,v1,v2,v3,v4,a5,a6,a7,a8,a9,a10] t (0,0)):=heap_setCell_same _ b 4 _ _ v4 h3;have h5:_=some (Obj.cells #[a0,v1,v2,v3,v4,v5,a6,a7,a8,a9,a10] t (0,0)):=heap_setCell_same _ b 5 _ _ v5 h4;have h6:_=some (Obj.cells #[a0,v1,v2,v3,v4,v5,v6,a7,a8,a9,a10] t (0,0)):=heap_setCell_same _ b 6 _ _ v6 h5;have h7:_=some (Obj.cells #[a0,v1,v2,v3,v4,v5,v6,v7,a8,a9,a10] t (0,0)):=heap_setCell_same _ b 7 _ _ v7 h6;have h8:_=some (Obj.cells #[a0,v1,v2,v3,v4,v5,v6,v7,v8,a9,a10] t (0,0)):=heap_setCell_same _ b 8 _ _ v8 h7;exact h8
theorem ak_cells{W:World}{b t:Nat}{a0 a1 a2 a3 a4 a5 a6 a7 a8 a9 a10:Value}(h:W.heap[b]? =some (.cells #[a0,a1,a2,a3,a4,a5,a6,a7,a8,a9,a10] t (0,0))):W.cell? ⟨b,0,none⟩=some a0∧W.cell? ⟨b,1,none⟩=some a1∧W.cell? ⟨b,2,none⟩=some a2∧W.cell? ⟨b,3,none⟩=some a3∧W.cell? ⟨b,4,none⟩=some a4∧W.cell? ⟨b,5,none⟩=some a5∧W.cell? ⟨b,6,none⟩=some a6∧W.cell? ⟨b,7,none⟩=some a7∧W.cell? ⟨b,8,none⟩=some a8∧W.cell? ⟨b,9,none⟩=some a9∧W.cell? ⟨b,10,none⟩=some a10:=
 ⟨cell_of_row W b 0 _ _ _ h,cell_of_row W b 1 _ _ _ h,cell_of_row W b 2 _ _ _ h,cell_of_row W b 3 _ _ _ h,cell_of_row W b 4 _ _ _ h,cell_of_row W b 5 _ _ _ h,cell_of_row W b 6 _ _ _ h,cell_of_row W b 7 _ _ _ h,cell_of_row W b 8 _ _ _ h,cell_of_row W b 9 _ _ _ h,cell_of_row W b 10 _ _ _ h⟩
theorem two_turn{b3 p:Nat}{o1 o2 o3:Obj}(hne:p≠b3):∀q∈[(b3,o2),(p,o3)],q=(b3,o2)∨(q∈[(b3,o1),(p,o3)]∧q.1≠b3):=fun q hq=>by
 rcases List.mem_cons.1 hq with e|e
 ·exact Or.inl e
 ·refine Or.inr ⟨List.mem_cons_of_mem _ e,?_⟩;rw[List.mem_singleton.1 e];exact hne
theorem fd_cells[MemNo]{t x r:Nat}{D:Nat→Nat→Nat}{k f i:Nat}(hk:k<8)(hf:f<8):(pairC t x r D).setIfInBounds (4+k*8+f) (.int .i64 (i:Nat))=pairC t x r (Gd.updE D k f i):=by
 rw[show 4+k*8+f=4+(8*k+f) by omega];exact pairC_set hk hf
theorem pairC_congr[MemNo]{t x r:Nat}{D E:Nat→Nat→Nat}(h:∀k f,k<8→f<8→D k f=E k f):pairC t x r D=pairC t x r E:=by
 unfold pairC;refine congrArg (fun l:List Value=>_++l.toArray) (List.map_congr_left fun j hj=> ?_);rw[h (j/8) (j % 8) (by have:=List.mem_range.1 hj;omega) (by omega)]
theorem fd_zeros[MemNo]{W:World}{p t x r k:Nat}{D:Nat→Nat→Nat}(hk:k<8)(h:W.heap[p]? =some (oPair t x r D)):(W.setCells p (4+k*8) [.int .i64 0,.int .i64 0,.int .i64 0,.int .i64 0,.int .i64 0,.int .i64 0,.int .i64 0,.int .i64 0]).heap[p]? =some (oPair t x r (Gd.dropE D k)):=by
 have st:∀(W:World) (E:Nat→Nat→Nat) (f:Nat),f<8→W.heap[p]? =some (oPair t x r E)→(W.setCell ⟨p,4+k*8+f,none⟩ (.int .i64 0)).heap[p]? =some (oPair t x r (Gd.updE E k f 0)):=fun W E f hf hW=>by
  have h1:=heap_setCell_same W p (4+k*8+f) _ _ (.int .i64 0) hW;rw[show(pairC t x r E).setIfInBounds (4+k*8+f) (.int .i64 0)=pairC t x r (Gd.updE E k f 0) from fd_cells hk hf]at h1;exact h1
 have h8:=st _ _ 7 (by omega) (st _ _ 6 (by omega) (st _ _ 5 (by omega) (st _ _ 4 (by omega) (st _ _ 3 (by omega) (st _ _ 2 (by omega) (st _ _ 1 (by omega) (st _ _ 0 (by omega) h)))))));refine Eq.trans h8 (congrArg (fun C=>some (Obj.cells C _ (0,0))) (pairC_congr fun a f ha hf=> ?_));unfold Gd.dropE Gd.updE;by_cases e:a=k
 ·subst e;rcases(by omega:f=0∨f=1∨f=2∨f=3∨f=4∨f=5∨f=6∨f=7)with rfl|rfl|rfl|rfl|rfl|rfl|rfl|rfl<;>simp
 ·simp[e]
theorem opens_fd(S:Pz.Fil)(cl fl:Int)(p:List UInt8):0≤(Pz.opens S cl fl p).2.fd∧(Pz.opens S cl fl p).2.fd<8:=by
 have hfr:=Pz.free_le (O:=S.O) (cl:=cl);unfold Pz.opens;repeat' split
 all_goals first|exact⟨Int.le_refl 0,show(0:Int)<8 by decide⟩|(show 0≤((Pz.free S.O cl:Nat):Int)∧((Pz.free S.O cl:Nat):Int)<8;omega)
theorem samereplyT(q z:Pz.Rep)(A A':Option Addr)(c c':Nat)(w:World)(hl:q.names.length≤1000000)(hl':z.names.length≤1000000)(hS:Strs w 0 A q.names)(hS':Strs w 0 A' z.names):
 Calls prog 21 #[repV q A c,repV z A' c'] w (BoolR w):=by
 obtain⟨e0,e1,e2,e3,e4,e5,e6⟩:=q;obtain⟨z0,z1,z2,z3,z4,z5,z6⟩:=z;unfold repV;dsimp only at hl hl' hS hS'⊢;obtain⟨w2,hw2⟩:=nm (((w.alloc (.cells #[.int .i64 e0,.int .i64 e1,.string ⟨e2.toArray⟩,.slice A e3.length c,.int .i64 e4,.int .i64 e5,.int .i64 e6] 47)).alloc (.cells #[.int .i64 z0,.int .i64 z1,.string ⟨z2.toArray⟩,.slice A' z3.length c',.int .i64 z4,.int .i64 z5,.int .i64 z6] 47)));have hb2:Below w.heap.size w w2:=by rw[hw2];exact((Below.refl _ _).alloc (Nat.le_refl _) _).alloc (by simp) _
 have h1:w2.heap[w.heap.size]? =some (.cells #[.int .i64 e0,.int .i64 e1,.string ⟨e2.toArray⟩,.slice A e3.length c,.int .i64 e4,.int .i64 e5,.int .i64 e6] 47 (0,0)):=by
  rw[hw2,Below.heap_alloc _ _ _ (by simp)];exact heap_alloc_new _ _
 have h2:w2.heap[w.heap.size+1]? =some (.cells #[.int .i64 z0,.int .i64 z1,.string ⟨z2.toArray⟩,.slice A' z3.length c',.int .i64 z4,.int .i64 z5,.int .i64 z6] 47 (0,0)):=by
  rw[hw2];exact heap_alloc2_new _ _ _
 have hs2:w2.heap.size=w.heap.size+2:=by rw[hw2];simp
 have hq:=same_any A A' e3 z3 c c' 0 w2 hl hl' (hS.keep hb2) (hS'.keep hb2);obtain⟨bn,hbn⟩:=nm (decide (e3=z3));rw[←hbn]at hq;obtain⟨s1,hs1⟩:∃s1:ByteArray,s1=⟨e2.toArray⟩:=⟨_,rfl⟩;obtain⟨s2,hs3⟩:∃s2:ByteArray,s2=⟨z2.toArray⟩:=⟨_,rfl⟩;rw[←hs1,←hs3]at hw2;rw[←hs1]at h1⊢;rw[←hs3]at h2⊢;have HQ:=hid hq;have HW2:=hid hw2;have HB:=hid (fun(W:World) (hb:Below w2.heap.size w2 W)=>And.intro ((hb.block w.heap.size (by omega)).trans h1) (And.intro ((hb.block (w.heap.size+1) (by omega)).trans h2) (hb2.trans (hb.mono (by omega)))));clear hl hl' hS hS' hq hw2 h1 h2 hb2 hs2 hbn hs1 hs3;go_enter func21,ntmps21;go_wp2_with fail
 rw[←HW2.o];refine HQ.o.mono ?_;rintro e w3 ⟨rfl,hb3⟩;obtain⟨h1,h2,h3⟩:=HB.o _ hb3;have HB3:=hid h3;have a0:=cell_of_row w3 _ 0 _ _ _ h1;have a1:=cell_of_row w3 _ 1 _ _ _ h1;have a2:=cell_of_row w3 _ 2 _ _ _ h1;have a4:=cell_of_row w3 _ 4 _ _ _ h1;have a5:=cell_of_row w3 _ 5 _ _ _ h1;have a6:=cell_of_row w3 _ 6 _ _ _ h1;have b0:=cell_of_row w3 _ 0 _ _ _ h2;have b1:=cell_of_row w3 _ 1 _ _ _ h2;have b2:=cell_of_row w3 _ 2 _ _ _ h2;have b4:=cell_of_row w3 _ 4 _ _ _ h2;have b5:=cell_of_row w3 _ 5 _ _ _ h2;have b6:=cell_of_row w3 _ 6 _ _ _ h2;clear h1 h2 h3 hb3
 cases bn with
 |false=>
  go_wp2_with fail
  go_ret
  exact⟨_,rfl,HB3.o⟩
 |true=>
 by_cases h0:e0=z0
 rotate_left
 ·have g0:(e0==z0)=false:=by rw[beq_eq_false_iff_ne];exact h0
  clear h0;go_wp2_with fail
  go_ret
  exact⟨_,rfl,HB3.o⟩
 subst h0;by_cases h0:e1=z1
 rotate_left
 ·have g0:(e1==z1)=false:=by rw[beq_eq_false_iff_ne];exact h0
  clear h0;go_wp2_with fail
  go_ret
  exact⟨_,rfl,HB3.o⟩
 subst h0;by_cases h0:s1.toList=s2.toList
 rotate_left
 ·have g0:(s1.toList==s2.toList)=false:=by rw[beq_eq_false_iff_ne];exact h0
  clear h0;go_wp2_with fail
  go_ret
  exact⟨_,rfl,HB3.o⟩
 have g0:(s1.toList==s2.toList)=true:=by rw[beq_iff_eq];exact h0
 clear h0;go_wp2_with fail
 all_goals go_ret
 all_goals exact⟨_,rfl,HB3.o⟩
end
end Go.Proofs.YtckoobkjpndgnaaGreatDoor
