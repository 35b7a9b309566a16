/- Walk: commonsref17.New. -/
import Derived.Test.YtccpdkjonepoiaaGreatDoorT21
import Derived.Test.YtccpdkjonepoiaaGreatDoorProg
set_option linter.unusedVariables false
set_option linter.unusedSimpArgs false
set_option linter.unusedSectionVars false
set_option maxHeartbeats 8000000
set_option maxRecDepth 100000
namespace Go.Proofs.YtccpdkjonepoiaaGreatDoor
open Go.RowKit
open Lib(hid)
open Go.Proofs.Tryz
section
open Go.Shelf
attribute [local go_sem] Oper.semAt_some
theorem infoSlotZ:(prog.info? 48).map (fun i=>(i.zero,i.size,i.bytes))=some (some (.agg #[.int .i64 0,.int .i64 0,.int .i64 0,.int .i64 0,.int .i64 0,.int .i64 0]),6,48):=by kernel_rfl
theorem infoByS:(prog.info? 22).map (fun i=>(i.zero,i.size,i.bytes))=some (some (.slice none 0 0),1,24):=by kernel_rfl
theorem Je(n:Nat):madeCells (Value.int .u8 0).cells n=ze (List.replicate n 0):=by
 have hc:(Value.int .u8 0).cells=Array.replicate 1 (.int .u8 0):=by kernel_rfl
 rw[hc];unfold madeCells ze Lib.byteCells;apply Array.ext
 ·simp
 ·intro i h1 h2;simp only[Array.getElem_map,Array.getElem_range,List.getElem_toArray,List.getElem_map,List.getElem_replicate];rw[getElem!_pos _ _ (by simp;omega)];simp
theorem Yu(W:World):(Instr.makeSlice 22 (.int .i64 1024) (.int .i64 1024)).run prog W= .ok (.slice (some ⟨W.heap.size,0,none⟩) 1024 1024) (W.alloc (.cells (ze (List.replicate 1024 0)) 5)):=by
 obtain⟨i0,hi,hz0,hz1,hz2⟩:=info_parts infoU8;have:=run_makeSlice (P:=prog) (w:=W) 22 5 i0 _ underlying22 hi hz0 .i64 .i64 1024 1024 (by omega) (by omega) (by rw[hz1];decide) (by rw[hz2];omega) (by omega)
 rw[hz1,show madeCells (Value.int .u8 0).cells (Int.toNat 1024*1)=ze (List.replicate 1024 0) from Je 1024]at this;exact this
theorem Qb(w:World)(l:List Value)(t:TypeId):∀j u,l[j]? =some u→(w.alloc (.cells l.toArray t)).cell? ((⟨w.heap.size,0,none⟩:Addr).add j)=some u:=by
 intro j u hj;have h:=cell_of_row (w.alloc (.cells l.toArray t)) w.heap.size j _ _ _ (heap_alloc_new w _);have h2:l.toArray[j]? =some u:=by simpa using hj
 by_cases h0:j=0
 ·subst h0;simpa [Addr.add]using h.trans h2
 ·simpa [Addr.add,h0]using h.trans h2
theorem qE{w:World}{B e size n:Nat}{v:Value}{xs:List Value}(h:w.ownsRow B e size v n xs):∃A c,v= .slice A n c:=by
 rcases h.2 with⟨rfl,rfl⟩|⟨g,cap,cur,rfl,-⟩
 ·exact⟨none,0,rfl⟩
 ·exact⟨_,_,rfl⟩
def qo:Gd.Slot:=⟨0,0,0,0,0,0⟩
def vF:List UInt8:=List.replicate 1024 0
theorem Zz:vF.length=1024:=List.length_replicate
def RvN(r k:Nat)(w0 w:World):Prop:=RvF r (List.replicate k qo) 4 [[],[],[],[]] (List.replicate k vF) w (fun q=>w0.heap.size≤q)∧Below w0.heap.size w0 w
def uN:Array Value:=#[.string ⟨#[]⟩,.string ⟨#[]⟩,.string ⟨#[]⟩,.string ⟨#[]⟩]
theorem X5(w:World):RvN (w.heap.size+1) 0 w ((w.alloc (.cells uN 9)).alloc (.cells #[.slice none 0 0,.int .i64 4,.slice (some ⟨w.heap.size,0,none⟩) 4 4,.slice none 0 0] 91)):=by
 have hb1:=(Below.refl w.heap.size w).alloc (Nat.le_refl _) (.cells uN 9);have hn1:=heap_alloc_new w (.cells uN 9);generalize hw1:w.alloc (.cells uN 9)=w1 at hb1 hn1⊢;have hs1:w1.heap.size=w.heap.size+1:=by rw[←hw1];simp
 have hb2:=(Below.refl w1.heap.size w1).alloc (Nat.le_refl _) (.cells #[.slice none 0 0,.int .i64 4,.slice (some ⟨w.heap.size,0,none⟩) 4 4,.slice none 0 0] 91);have hn2:=heap_alloc_new w1 (.cells #[.slice none 0 0,.int .i64 4,.slice (some ⟨w.heap.size,0,none⟩) 4 4,.slice none 0 0] 91);rw[hs1]at hn2;refine⟨⟨.slice none 0 0,.slice (some ⟨w.heap.size,0,none⟩) 4 4,.slice none 0 0,[],⟨hn2,World.ownsRow_nil _ _ _ _,⟨rfl,Or.inr ⟨w.heap.size,4,uN,rfl,Nat.zero_le _,(hb2.block _ (za hn1)).trans hn1,Nat.le_refl _,by unfold maxLen;omega,rfl,rfl⟩⟩,World.ownsRow_nil _ _ _ _,fun j b hj=>by simp at hj,rfl,List.nodup_nil⟩,(by omega),(fun q hq=>by cases hq),(fun q hq=>by cases hq;exact Nat.le_refl _),(fun q hq=>by cases hq),(fun b hb=>by cases hb)⟩,hb1.trans (hb2.mono hb1.size)⟩
theorem X6{w wr w5 w6:World}{r j:Nat}{v v':Value}{o:Obj}(hB:Below w.heap.size w wr)(hr:r<wr.heap.size)(hg:(wr.alloc o).grownBy w5 v.ownBlock)(hv:∀q,v.ownBlock=some q→w.heap.size≤q)(hr2:w.heap.size≤r)(hw6:w6=w5.setCell ⟨r,j,none⟩ v'):Below w.heap.size w w6∧wr.heap.size≤w6.heap.size:=by
 have h1:Below w.heap.size w (wr.alloc o):=hB.trans ((Below.refl wr.heap.size wr).alloc (Nat.le_refl _) o |>.mono hB.size);have h2:=(zK (F:=fun k=>w.heap.size≤k) hg fun k e=>hv k e);have h3:Below w.heap.size w w5:=h1.trans (h2.below h1.size fun k hk e=>by omega);have hs:=h2.size;have hs2:(wr.alloc o).heap.size=wr.heap.size+1:=by simp
 subst hw6;exact⟨h3.setCell hr2 v',by rw[show(w5.setCell ⟨r,j,none⟩ v').heap.size=w5.heap.size by simp];omega⟩
theorem V1{w wr:World}{v:Value}{gq:Nat}{n c:Nat}(hv:∀q,v.ownBlock=some q→w.heap.size≤q)(h:v.ownBlock=some gq∨gq=wr.heap.size+1)(hB:w.heap.size≤wr.heap.size):∀q,(Value.slice (some ⟨gq,0,none⟩) n c).ownBlock=some q→w.heap.size≤q:=by
 intro q hq
 cases hq
 rcases h with h|h
 ·exact hv _ h
 ·show _≤gq
  omega
theorem Zj{n:Nat}{v:Value}{gq m k c:Nat}(hv:∀q,v.ownBlock=some q→n≤q)(h:v.ownBlock=some gq∨gq=m)(hB:n≤m):∀q,(Value.slice (some ⟨gq,0,none⟩) k c).ownBlock=some q→n≤q:=by
 intro q hq
 cases hq
 rcases h with h|h
 ·exact hv _ h
 ·show _≤gq
  omega
theorem V3{w wd wn:World}{r k b:Nat}{sv fv:Value}{lA:Option Addr}{lc:Nat}{bs:List Nat}(h:xv r (List.replicate (k+1) qo) 4 [[],[],[],[]] (List.replicate k vF) sv fv (.slice lA k lc) bs wd)(hB:Below w.heap.size w wd)(hbl:bs.length=k)(hb:Below wd.heap.size wd wn)(hbn:wd.heap.size≤b)(hbb:wn.heap[b]? =some (.cells (ze vF) 5 (0,0)))(f1:w.heap.size≤r)(f2:∀q,sv.ownBlock=some q→w.heap.size≤q)(f3:∀q,fv.ownBlock=some q→w.heap.size≤q)(f4:∀q,(Value.slice lA k lc).ownBlock=some q→w.heap.size≤q)(f5:∀q∈bs,w.heap.size≤q):
 ∀(w7:World) (v':Value),w7.ownsRow 0 22 1 v' (k+1) (uV bs++[.slice (some ⟨b,0,none⟩) 1024 1024])→wn.grownBy w7 (Value.slice lA k lc).ownBlock→(∀q,v'.ownBlock=some q→w.heap.size≤q)→RvN r (k+1) w (w7.setCell ⟨r,3,none⟩ v'):=by
 intro w7 v' hown hg hv';have hp:=h.log_put hb hbn hbb Zz (by rw[hbl];exact hown) hg;rw[show List.replicate k vF++[vF]=List.replicate (k+1) vF from(List.replicate_succ' ..).symm]at hp;have hBn:Below w.heap.size w wn:=hB.trans (hb.mono hB.size);have h2:=(zK (F:=fun q=>w.heap.size≤q) hg fun q e=>f4 q e);refine⟨⟨sv,fv,v',bs++[b],hp,f1,f2,f3,hv',fun q hq=> ?_⟩,(hBn.trans (h2.below hBn.size fun q hq e=>by omega)).setCell f1 v'⟩;rcases List.mem_append.1 hq with hq|hq
 ·exact f5 q hq
 ·rw[List.mem_singleton.1 hq];exact Nat.le_trans hB.size hbn
theorem JK(w:World):Calls prog 51 #[.int .i64 4] w fun e w'=>∃r,e= .returned (.pointer (some ⟨r,0,none⟩))∧RvN r 8 w w':=by
 obtain⟨i0,hi,hz0,hz1,hz2⟩:=info_parts infoSlotZ;obtain⟨j0,hj,hy0,hy1,hy2⟩:=info_parts infoByS;have Hmk:=hid Yu;have hst:=hid (X5 w);unfold uN at hst;go_enter func51,ntmps51;go_upto_region 2 with fail
 generalize ((w.alloc _).alloc _)=w2 at hst⊢;generalize w.heap.size+1=r at hst⊢;go_wp2;go_loopw[4] (fun i wr=>∃k:Nat,i= .int .i64 k∧k≤8∧Hid (RvN r k w wr)) (fun i _=>8-(intOf i).toNat)
 case atStart=>exact⟨0,rfl,by omega,hst⟩
 case round=>
  obtain⟨k,rfl,hk,HR⟩:=hrel;by_cases hlt:k<8
  ·obtain⟨⟨sv,fv,lv,bs,hR,f1,f2,f3,f4,f5⟩,hB⟩:=HR.o;have hkI:(k:Int)<8:=by omega
   have hk0:(0:Int)≤k:=by omega
   obtain⟨sA,sc,hsv⟩:=qE hR.slots;rw[List.length_replicate]at hsv;have hbl:bs.length=k:=by rw[hR.len,List.length_replicate]
   obtain⟨lA,lc,hlv⟩:=qE hR.logs;rw[hbl]at hlv;subst hsv;subst hlv;have HSl:Hid (wr.ownsRow 0 48 6 (.slice sA k sc) k (yj (List.replicate k qo))):=hid (by
    have:=hR.slots
    rw[List.length_replicate]at this;exact this)
   have HObj5:=hid fun(w5:World) hg=>hR.obj5 (w5:=w5) ((Below.refl wr.heap.size wr).alloc (Nat.le_refl _) (.cells #[.int .i64 0,.int .i64 0,.int .i64 0,.int .i64 0,.int .i64 0,.int .i64 0] 48)) hg;have HPut:=hid fun(w5:World) (v':Value) (hown:w5.ownsRow 0 48 6 v' (k+1) (yj (List.replicate k qo)++(zm qo).toList)) hg=>hR.slot_put (x:=qo) (w5:=w5) ((Below.refl wr.heap.size wr).alloc (Nat.le_refl _) (.cells #[.int .i64 0,.int .i64 0,.int .i64 0,.int .i64 0,.int .i64 0,.int .i64 0] 48)) (by rw[List.length_replicate];exact hown) hg;have Hf:=hid (And.intro f1 (And.intro f2 (And.intro f3 (And.intro f4 f5))));have HB:=hid hB;have Hbl:=hid hbl;have c0:wr.cell? ⟨r,0,none⟩=some (.slice sA k sc):=cell_of_row wr r 0 _ _ _ hR.obj;have HRlt:=hid (za hR.obj);clear HR hR hB f1 f2 f3 f4 f5 hbl hlt
   go_upto_region 6 with(at_builtin;go_loud (refine wpList_append_lies _ rfl _ _ 87 rfl 0 48 i0 _ 6 48 underlying87 hi hz0 hz1 hz2 rfl (by decide) (.slice sA k sc) k _ rfl (HSl.o.alloc _) ⟨wr.heap.size,0,none⟩ 1 1 [.int .i64 0,.int .i64 0,.int .i64 0,.int .i64 0,.int .i64 0,.int .i64 0] rfl rfl (Qb _ _ _) (by intro u hu;simp at hu;subst hu;rfl) (by omega) (by unfold maxLen;omega) (by omega) (Nat.zero_le _) (wr.heap.size+1) (by simp) ?_);intro gq cap w5 hown5 hgrow5 hat5 hlt5;have hr5:=HObj5.o w5 hgrow5;have g0:w5.frozen? ⟨r,0,none⟩=false:=frozen_of_row w5 r 0 _ _ hr5;have d0:w5.cell? ⟨r,0,none⟩=some (.slice sA k sc):=cell_of_row w5 r 0 _ _ _ hr5;have HP5:=hid (HPut.o w5 _ hown5 hgrow5);have HG5:=hid (And.intro hgrow5 hat5);clear hr5 hown5 hgrow5 hat5 hlt5)
   obtain⟨w6,hw6⟩:=nm (w5.setCell ⟨r,0,none⟩ (.slice (some ⟨gq,0,none⟩) (k+1) cap));have h6:=HP5.o;rw[←hw6]at h6⊢;rw[show List.replicate k qo++[qo]=List.replicate (k+1) qo from(List.replicate_succ' ..).symm]at h6;have hB6:Below w.heap.size w w6∧wr.heap.size≤w6.heap.size:=X6 HB.o HRlt.o HG5.o.1 (fun q hq=>Hf.o.2.1 q hq) Hf.o.1 hw6;obtain⟨hB6a,hB6b⟩:=hB6;obtain⟨wd,hwd⟩:=nm w6.drew;have h6d:xv r (List.replicate (k+1) qo) 4 [[],[],[],[]] (List.replicate k vF) (.slice (some ⟨gq,0,none⟩) (k+1) cap) fv (.slice lA k lc) bs wd:=by rw[hwd];exact h6.keep fun _ _=>rfl
   have hBd:Below w.heap.size w wd:=by rw[hwd];exact hB6a.drew
   have HWd:=hid hwd.symm;have hc3:wd.cell? ⟨r,3,none⟩=some (.slice lA k lc):=cell_of_row wd r 3 _ _ _ h6d.obj;have hba:=(Below.refl wd.heap.size wd).alloc (Nat.le_refl _) (.cells (ze (List.replicate 1024 0)) 5);have hnb:=heap_alloc_new wd (.cells (ze (List.replicate 1024 0)) 5);have hkd:=Hmk.o wd;obtain⟨wm,hwm⟩:=nm (wd.alloc (.cells (ze (List.replicate 1024 0)) 5));rw[←hwm]at hba hnb hkd;have hsm:wm.heap.size=wd.heap.size+1:=by rw[hwm];simp
   have hmc3:wm.cell? ⟨r,3,none⟩=some (.slice lA k lc):=(hba.cell (p:=⟨r,3,none⟩) (za h6d.obj)).trans hc3;have hbn:=(Below.refl wm.heap.size wm).alloc (Nat.le_refl _) (.cells #[.slice (some ⟨wd.heap.size,0,none⟩) 1024 1024] 22);have hnc3:(wm.alloc (.cells #[.slice (some ⟨wd.heap.size,0,none⟩) 1024 1024] 22)).cell? ⟨r,3,none⟩=some (.slice lA k lc):=(hbn.cell (p:=⟨r,3,none⟩) (Nat.lt_of_lt_of_le (za h6d.obj) hba.size)).trans hmc3;have hbdn:Below wd.heap.size wd (wm.alloc (.cells #[.slice (some ⟨wd.heap.size,0,none⟩) 1024 1024] 22)):=hba.trans (hbn.mono hba.size);have HObj:=hid fun(w7:World) hg=>h6d.obj5l (w5:=w7) hbdn hg;have HLr:Hid ((wm.alloc (.cells #[.slice (some ⟨wd.heap.size,0,none⟩) 1024 1024] 22)).ownsRow 0 22 1 (.slice lA k lc) k (uV bs)):=hid (by
    have:=h6d.logs
    rw[Hbl.o]at this;exact zT this fun q cur _ hq=>hbdn.block q (za hq))
   have HFin:=hid (V3 (w:=w) h6d hBd Hbl.o hbdn (Nat.le_refl _) (show(wm.alloc (.cells #[.slice (some ⟨wd.heap.size,0,none⟩) 1024 1024] 22)).heap[wd.heap.size]? =some (.cells (ze vF) 5 (0,0)) from(hbn.block _ (by omega)).trans hnb) Hf.o.1 (V1 (fun q hq=>Hf.o.2.1 q hq) HG5.o.2 HB.o.size) Hf.o.2.2.1 Hf.o.2.2.2.1 Hf.o.2.2.2.2);have HSz:Hid (w.heap.size≤wm.heap.size+1):=hid (by have:=hBd.size;omega);clear h6 h6d hB6a hB6b hBd hwd hba hnb hwm hbn hbdn hw6 g0 d0 c0 hsm;refine wp_region_held_drew (S:=fun _=>True) (by kernel_rfl) trivial (fun hHeld=> ?_);refine tk 0 ?_;refine tk 1 ?_;refine tk 2 ?_;refine tk 3 ?_;change wpAnyH _ _ _ _ _ _ _ _ w6.drew;rw[HWd.o];refine wpAnyH_ready (rs:=[4,5]) (by kernel_rfl) (by simp) ?_;refine AllReadyH.cons (o:=_) rfl (fun K hK=> ?_) (AllReadyH.cons (o:=_) rfl (fun K hK=> ?_) AllReadyH.nil)
   ·go_simp
    try dsimp only
    refine hK.o _ _ trivial (fun hHeld=> ?_);clear hK K;try simp only[put]
    refine rd 5 (fun K hK=> ?_);go_simp
    try dsimp only
    refine hK.o _ _ trivial (fun hHeld=> ?_);clear hK K;try simp only[put]
    refine rd 6 (fun K hK=> ?_);go_simp
    try dsimp only
    refine hK.o _ _ trivial (fun hHeld=> ?_);clear hK K;try simp only[put]
    refine rd 7 (fun K hK=> ?_);refine step_append_lies _ (by rfl) _ _ 89 (by rfl) 0 22 j0 _ 1 24 underlying89 hj hy0 hy1 hy2 rfl (by decide) (.slice lA k lc) k _ rfl HLr.o ⟨wm.heap.size,0,none⟩ 1 1 [.slice (some ⟨wd.heap.size,0,none⟩) 1024 1024] rfl rfl (cell_one_new _ _ _) (by intro u hu;simp at hu;subst hu;rfl) (by omega) (by unfold maxLen;omega) (by omega) (Nat.zero_le _) (wm.heap.size+1) (by simp) ?_;intro gq cap w7 hown7 hgrow7 hat7 hlt7;try dsimp only
    refine hK.o _ _ trivial (fun hHeld=> ?_);clear hK K;try simp only[put]
    have hr7:=HObj.o w7 hgrow7;have g3:w7.frozen? ⟨r,3,none⟩=false:=frozen_of_row w7 r 3 _ _ hr7;have d3:w7.cell? ⟨r,3,none⟩=some (.slice lA k lc):=cell_of_row w7 r 3 _ _ _ hr7;have HF7:=hid (HFin.o w7 _ hown7 hgrow7 (Zj Hf.o.2.2.2.1 hat7 HSz.o));clear hr7;refine tk 8 ?_;refine tk 9 ?_;refine rd 10 (fun K hK=> ?_);go_simp
    try dsimp only
    refine hK.o _ _ trivial (fun hHeld=> ?_);clear hK K;try simp only[put]
    refine dn ?_
    (try simp only[Exit.then])
    clear g3 d3 hown7 hgrow7 hat7 hlt7;go_wp2;go_roundw
    case rel=>exact⟨k+1,by go_num,by omega,HF7⟩
    case measure=>simp[intOf];omega
   ·go_simp
    try dsimp only
    refine hK.o _ _ trivial (fun hHeld=> ?_);clear hK K;try simp only[put]
    refine wpAnyH_ready (rs:=[4,6]) (by kernel_rfl) (by simp) ?_;refine AllReadyH.cons (o:=_) rfl (fun K hK=> ?_) (AllReadyH.cons (o:=_) rfl (fun K hK=> ?_) AllReadyH.nil)
    ·go_simp
     try dsimp only
     refine hK.o _ _ trivial (fun hHeld=> ?_);clear hK K;try simp only[put]
     refine rd 6 (fun K hK=> ?_);go_simp
     try dsimp only
     refine hK.o _ _ trivial (fun hHeld=> ?_);clear hK K;try simp only[put]
     refine rd 7 (fun K hK=> ?_);refine step_append_lies _ (by rfl) _ _ 89 (by rfl) 0 22 j0 _ 1 24 underlying89 hj hy0 hy1 hy2 rfl (by decide) (.slice lA k lc) k _ rfl HLr.o ⟨wm.heap.size,0,none⟩ 1 1 [.slice (some ⟨wd.heap.size,0,none⟩) 1024 1024] rfl rfl (cell_one_new _ _ _) (by intro u hu;simp at hu;subst hu;rfl) (by omega) (by unfold maxLen;omega) (by omega) (Nat.zero_le _) (wm.heap.size+1) (by simp) ?_;intro gq cap w7 hown7 hgrow7 hat7 hlt7;try dsimp only
     refine hK.o _ _ trivial (fun hHeld=> ?_);clear hK K;try simp only[put]
     have hr7:=HObj.o w7 hgrow7;have g3:w7.frozen? ⟨r,3,none⟩=false:=frozen_of_row w7 r 3 _ _ hr7;have d3:w7.cell? ⟨r,3,none⟩=some (.slice lA k lc):=cell_of_row w7 r 3 _ _ _ hr7;have HF7:=hid (HFin.o w7 _ hown7 hgrow7 (Zj Hf.o.2.2.2.1 hat7 HSz.o));clear hr7;refine tk 8 ?_;refine tk 9 ?_;refine rd 10 (fun K hK=> ?_);go_simp
     try dsimp only
     refine hK.o _ _ trivial (fun hHeld=> ?_);clear hK K;try simp only[put]
     refine dn ?_
     (try simp only[Exit.then])
     clear g3 d3 hown7 hgrow7 hat7 hlt7;go_wp2;go_roundw
     case rel=>exact⟨k+1,by go_num,by omega,HF7⟩
     case measure=>simp[intOf];omega
    ·go_simp
     try dsimp only
     refine hK.o _ _ trivial (fun hHeld=> ?_);clear hK K;try simp only[put]
     refine rd 4 (fun K hK=> ?_);go_simp
     try dsimp only
     refine hK.o _ _ trivial (fun hHeld=> ?_);clear hK K;try simp only[put]
     refine rd 7 (fun K hK=> ?_);refine step_append_lies _ (by rfl) _ _ 89 (by rfl) 0 22 j0 _ 1 24 underlying89 hj hy0 hy1 hy2 rfl (by decide) (.slice lA k lc) k _ rfl HLr.o ⟨wm.heap.size,0,none⟩ 1 1 [.slice (some ⟨wd.heap.size,0,none⟩) 1024 1024] rfl rfl (cell_one_new _ _ _) (by intro u hu;simp at hu;subst hu;rfl) (by omega) (by unfold maxLen;omega) (by omega) (Nat.zero_le _) (wm.heap.size+1) (by simp) ?_;intro gq cap w7 hown7 hgrow7 hat7 hlt7;try dsimp only
     refine hK.o _ _ trivial (fun hHeld=> ?_);clear hK K;try simp only[put]
     have hr7:=HObj.o w7 hgrow7;have g3:w7.frozen? ⟨r,3,none⟩=false:=frozen_of_row w7 r 3 _ _ hr7;have d3:w7.cell? ⟨r,3,none⟩=some (.slice lA k lc):=cell_of_row w7 r 3 _ _ _ hr7;have HF7:=hid (HFin.o w7 _ hown7 hgrow7 (Zj Hf.o.2.2.2.1 hat7 HSz.o));clear hr7;refine tk 8 ?_;refine tk 9 ?_;refine rd 10 (fun K hK=> ?_);go_simp
     try dsimp only
     refine hK.o _ _ trivial (fun hHeld=> ?_);clear hK K;try simp only[put]
     refine dn ?_
     (try simp only[Exit.then])
     clear g3 d3 hown7 hgrow7 hat7 hlt7;go_wp2;go_roundw
     case rel=>exact⟨k+1,by go_num,by omega,HF7⟩
     case measure=>simp[intOf];omega
  ·obtain rfl:k=8:=by omega
   clear hlt;go_wp2;go_ret
   exact⟨r,rfl,HR.o⟩
end
namespace Gd
def Zr(S:List UInt8):Prop:=∀i,6784≤i→i<14976→S[i]? =some 0
theorem Zr.splice{S b:List UInt8}{k:Nat}(h:Zr S)(hf:k+b.length≤S.length)(hb:k+b.length≤6784∨∀x∈b,x=0):Zr (splice S k b):=fun i h1 h2=>by
 rw[splice_get hf];split
 ·rename_i hh
  rcases hb with hb|hb
  ·omega
  ·rw[List.getElem?_eq_getElem (by omega),hb _ (List.getElem_mem _)]
 ·exact h i h1 h2
theorem Zr.views:∀{P:List Pa} {S:List UInt8},Zr S→Fit S.length P→(∀p∈P,p.1+p.2.length≤6784∨∀x∈p.2,x=0)→Zr (Gd.view S P)
 |[],_,h,_,_=>h
 |p::P,S,h,hf,hp=>by
  have h0:=hf p (List.mem_cons_self ..);show Zr (Gd.view (Gd.splice S p.1 p.2) P)
  refine Zr.views (P:=P) (h.splice h0 (hp p (List.mem_cons_self ..))) (fun q hq=> ?_) fun q hq=>hp q (List.mem_cons_of_mem _ hq);rw[splice_length h0];exact hf q (List.mem_cons_of_mem _ hq)
theorem fmtS_zero{k:Nat}(hk:k≤8){p:Pa}(h:p∈fmtS k):p.1+p.2.length≤6784∨∀x∈p.2,x=0:=by
 unfold fmtS at h;obtain⟨c,hc,hp⟩:=List.mem_flatMap.1 h;have hc2:=List.mem_range.1 hc;simp only[List.mem_cons,List.mem_nil_iff,or_false]at hp;rcases hp with rfl|rfl
 ·left
  show 64+64*c+(slotB slot0).length≤6784
  rw[slotB_length];omega
 ·right
  intro x hx;exact List.eq_of_mem_replicate hx
theorem fmtP_zero{p:Pa}(h:p∈fmtP):p.1+p.2.length≤6784∨∀x∈p.2,x=0:=by
 unfold fmtP at h;simp only[List.mem_append,List.mem_singleton]at h;rcases h with(((rfl|h)|rfl)|rfl)|h
 ·left
  show 0+(headB 0).length≤6784
  rw[headB_length];omega
 ·exact fmtS_zero (Nat.le_refl 8) h
 ·left
  show 576+(List.replicate 16 (0:UInt8)).length≤6784
  rw[List.length_replicate];omega
 ·left
  show inoAt 1+(inoB rootI).length≤6784
  rw[root_len];unfold inoAt;omega
 ·obtain⟨i,hi,h1,h2⟩:=fmtN_mem h;left
  rw[h1,h2];unfold inoAt;omega
theorem part_zerosN{n m:Nat}(hn:6784+m≤n):part (List.replicate n (0:UInt8)) 6784 m=List.replicate m 0:=by
 apply List.ext_getElem?
 intro i;rw[part_get?,List.getElem?_replicate,List.getElem?_replicate];by_cases h:i<m
 ·rw[if_pos h,if_pos h,if_pos (by omega)]
 ·rw[if_neg h,if_neg h]
theorem part_zeros{n:Nat}(hn:14976≤n):part (List.replicate n (0:UInt8)) 6784 8192=List.replicate 8192 0:=part_zerosN hn
theorem zr_ofN{S:List UInt8}{m:Nat}(hm:m=8192)(h:part S 6784 m=List.replicate m 0):Zr S:=fun i h1 h2=>by
 have h3:=part_get (S:=S) (k:=6784) (n:=m) (i:=i-6784) (by omega);rw[h,List.getElem?_replicate,if_pos (by omega),show 6784+(i-6784)=i by omega]at h3;exact h3.symm
theorem zr_partN{S:List UInt8}{m:Nat}(hm:m=8192)(h:Zr S):part S 6784 m=List.replicate m 0:=by
 apply List.ext_getElem?
 intro i;rw[part_get?,List.getElem?_replicate];by_cases hi:i<m
 ·rw[if_pos hi,if_pos hi];exact h _ (by omega) (by omega)
 ·rw[if_neg hi,if_neg hi]
theorem fresh_logs{Z:List UInt8}(hZ:Z.length=23168)(h:Gd.part Z 6784 8192=List.replicate 8192 0):(freshV Z).logs=List.replicate 8192 0:=by
 have h1:Zr (Gd.view Z fmtP):=(zr_ofN rfl h).views (fmtP_fit (by omega)) fun p hp=>fmtP_zero hp;have h2:(freshV Z).logs=Gd.part (Gd.view Z fmtP) 6784 8192:=by dsimp only[freshV]
 rw[h2];generalize Gd.view Z fmtP=V at h1⊢;exact zr_partN rfl h1
end Gd
section
open Go.Shelf
attribute [local go_sem] Oper.semAt_some
theorem QI{o t x f:Nat}(w:World)(h:jU w o t x f):Calls prog 15 #[.pointer (some ⟨o,0,none⟩)] w fun e w'=>e= .returned (.pointer (some ⟨x,0,none⟩))∧w'=w:=by
 obtain⟨c0,c1,c2⟩:=zl h;clear h;go_enter func15,ntmps15;go_wp2;go_ret
 exact⟨rfl,rfl⟩
theorem vG{o t x f:Nat}(w:World)(h:jU w o t x f):Calls prog 40 #[.pointer (some ⟨o,0,none⟩)] w fun e w'=>e= .returned (.pointer (some ⟨f,0,none⟩))∧w'=w:=by
 obtain⟨c0,c1,c2⟩:=zl h;clear h;go_enter func40,ntmps40;go_wp2;go_ret
 exact⟨rfl,rfl⟩
def JR:Array Value:=#[.string ⟨#[47,97]⟩,.string ⟨#[47,98]⟩,.string ⟨#[47,99]⟩,.string ⟨#[47,100]⟩]
def Qq:Obj:= .cells JR 9 (0,0)
theorem Jb{a:World}{nb k:Nat}(h:a.heap[nb]? =some Qq)(hk:k<4):a.cell? ⟨nb,k,none⟩=some (.string ⟨(47::Gd.vname4 k).toArray⟩):=by
 match k,hk with
 |0,_=>exact cell_of_row a nb 0 _ _ _ h
 |1,_=>exact cell_of_row a nb 1 _ _ _ h
 |2,_=>exact cell_of_row a nb 2 _ _ _ h
 |3,_=>exact cell_of_row a nb 3 _ _ _ h
theorem Vq.new[zc]{o x t f c K n:Nat}{S:List UInt8}{P:List Gd.Pa}{M:Gd.Vol}{s:Nat→Gd.Slot}{w a b:World}{Ls:List (Nat×Obj)}(h:Vq o x t f S P M n s c K w a Ls)(hb:Below a.heap.size a b){k:Nat}{o':Obj}(hk:a.heap.size≤k)(ho:b.heap[k]? =some o'):Vq o x t f S P M n s c K w b ((k,o')::Ls):=⟨h.1.new hb hk ho,h.2⟩
theorem Vq.opens[zc]{o x t f K n:Nat}{S:List UInt8}{M:Gd.Vol}{s:Nat→Gd.Slot}{w a:World}{Ls:List (Nat×Obj)}(k:Nat)(hk:k<4)(h:Vq o x t f S [] M n s 0 K w a Ls)(hB:Gd.VBegan M k)(hM:Mx w):
 Calls prog 50 #[.pointer (some ⟨x,0,none⟩),.int .i64 1,.string ⟨(47::Gd.vname4 k).toArray⟩,.int .i64 1,.bool false,.int .i64 0] a fun e b=>e= .returned (.tuple #[.int .i64 ((k+2:Nat):Int),.int .i64 0])∧∃(N:Gd.Vol) (P:List Gd.Pa) (c:Nat),Gd.VBegan N (k+1)∧(P≠[]∧N.logs=M.logs)∧c≤5∧Vq o x t f S P N n s c K w b Ls:=by
 obtain⟨mx,hmx⟩:=hM;refine(h.1.opens k hk mx h.2.1 hB ((h.1.belowW.cell (p:=⟨0,0,none⟩) (Yq hmx)).trans hmx) (Nat.lt_of_lt_of_le (Yq hmx) h.1.size)).mono ?_
 rintro e b ⟨he,N,P,c,hN,hh,hl,hP,hc,hV,hG⟩;exact⟨he,N,P,c,hN,⟨hP,hl⟩,hc,hV,hG,h.2.2.same hh⟩
def QE[zc](p:Nat)(w a:World):Prop:=∃(o x t f r:Nat) (S:List UInt8) (M:Gd.Vol) (wr w9:World),Vq o x t f S [] M 4 (fun _=>Gd.slot0) 0 665100000 w wr []∧(Gd.VBegan M 4∧M.logs=List.replicate 8192 0)∧RvN r 8 wr w9∧a=w9.alloc (zo o r)∧p=w9.heap.size
theorem vq(w:World)(hM:Mx w):Calls prog 12 #[] w fun e w'=>∃(mn:zc) (p:Nat),e= .returned (.pointer (some ⟨p,0,none⟩))∧QE p w w':=by
 have HP:Hid (Calls prog 9 #[.int .i64 23168] w (Zy w 2896 23168)):=hid (Z3 2896 (by omega) (by omega) (by omega) w);have HMx:=hid hM;clear hM;go_enter func12,ntmps12;go_wp2_with fail
 refine HP.o.mono ?_;rintro e w1 ⟨m,sb,lb,ab,rfl,hM1,hb1,hlow1,hge1⟩;obtain⟨mn,hmn⟩:∃mn:zc,m=mn.no:=⟨⟨m⟩,rfl⟩;subst hmn;have h1:Mst (List.replicate 23168 0) 0 w w1 []:=⟨sb,lb,ab,2896,hM1,hge1,hb1,fun p hp=>by cases hp⟩;have HFm:=hid (vj h1 List.length_replicate (by omega));clear hM1 hb1 hlow1 hge1 h1 HP;go_wp2_with fail
 refine HFm.o.mono ?_;rintro e w2 ⟨rfl,S,Z,hZ,hG,⟨he,hz⟩,h2⟩;have HZ:=hid (Gd.fresh_logs hZ (hz.trans (Gd.part_zeros (by omega))));have HMo:=hid (yc h2 hG.len (by omega));have HH:=hid (Gd.HeadIs.fresh hZ);have HG:=hid (And.intro hG he);have HSo:=hid (HH.o.sound hG rfl);clear h2 hG he hz hZ HFm;go_wp2_with fail
 refine HMo.o.mono ?_;rintro e w3 ⟨S2,hl2,he2,hs2,hor⟩;obtain rfl:=hs2 HG.o.2
 rcases hor with⟨-,o,x,t,f,rfl,h3⟩|⟨hno,-⟩
 rotate_left
 ·exact absurd HSo.o hno
 have HV:Hid (Vq o x t f S2 [] (Gd.freshV Z) 0 (fun _=>Gd.slot0) 0 657100000 w w3 []):=hid ⟨h3,HG.o.1,HH.o⟩;have HMe:=hid (QI w3 h3.vol);have HFi:=hid (vG w3 h3.vol);clear hl2 he2 h3 HMo;go_wp2_with fail
 refine HMe.o.mono ?_;rintro e w4 ⟨rfl,rfl⟩;clear HMe;go_wp2_with fail
 refine HFi.o.mono ?_;rintro e w5 ⟨rfl,rfl⟩;clear HFi;obtain⟨w8,hw8⟩:=nm (w5.alloc (.cells JR 9));obtain⟨nb,hnb⟩:=nm w5.heap.size;have HT8:Hid (Vq o x t f S2 [] (Gd.freshV Z) 0 (fun _=>Gd.slot0) 0 657100000 w w8 [(nb,Qq)]):=hid (by
  rw[hw8,hnb];exact HV.o.new ((Below.refl _ _).alloc (Nat.le_refl _) _) (Nat.le_refl _) (heap_alloc_new _ _))
 have HW8:=hid hw8.symm;have Hnb:=hid hnb.symm;unfold JR at HW8;clear hw8 hnb HV;go_upto_region 11 with fail
 rw[HW8.o,Hnb.o];go_wp2;go_loopw[6,7,8] (fun i _ _ wr=>∃(k:Nat) (M:Gd.Vol) (S:List UInt8),i= .int .i64 k∧k≤4∧Hid (Gd.VBegan M k∧M.logs=List.replicate 8192 0)∧Hid (Vq o x t f S [] M k (fun _=>Gd.slot0) 0 (657100000+2000000*k) w wr [(nb,Qq)])) (fun i _ _ _=>4-(intOf i).toNat)
 case atStart=>exact⟨0,Gd.freshV Z,S2,rfl,by omega,hid ⟨Gd.vbegan_fresh Z,HZ.o⟩,HT8⟩
 case round=>
  obtain⟨k,M,S3,rfl,hk,HBg,HTr⟩:=hrel;by_cases hlt:k<4
  ·have h1:(k:Int)<4:=by omega
   have h0:(0:Int)≤k:=by omega
   have c0:=Jb (HTr.o.1.get (k:=nb) (o':=Qq) (by simp)) hlt;have HOp:=hid (HTr.o.opens k hlt HBg.o.1 HMx.o);rw[show((k+2:Nat):Int)=(k:Int)+2 by omega]at HOp;have Hlt:=hid hlt;clear hlt;go_wp2_with fail
   refine HOp.o.mono ?_;rintro e w9 ⟨rfl,N,P,c,hN,⟨hP,hlg⟩,hc,h9⟩;have HN:=hid (And.intro hN (hlg.trans HBg.o.2));have HCm:=hid (h9.commit hP (by omega) (by have:=Hlt.o;omega) (by have:=Hlt.o;omega));rw[show 657100000+2000000*k+2000000=657100000+2000000*(k+1) by omega]at HCm;clear hN hP hlg hc h9 HOp;go_wp2_with fail
   refine HCm.o.mono ?_;rintro e w10 ⟨rfl,S4,h10⟩;have H10:=hid h10;have HN2:=hid (show Gd.VBegan (N.setHead 0 (Gd.headB (k+1))) (k+1)∧(N.setHead 0 (Gd.headB (k+1))).logs=List.replicate 8192 0 from⟨Gd.VBegan.setHead HN.o.1,HN.o.2⟩);clear h10 HCm;go_wp2;go_roundw
   case rel=>exact⟨k+1,_,S4,by go_num,by have:=Hlt.o;omega,HN2,H10⟩
   case measure=>simp[intOf];have:=Hlt.o;omega
  ·obtain rfl:k=4:=by omega
   clear hlt;go_wp2_with fail
   refine(JK wr).mono ?_
   rintro e w9 ⟨r,rfl,hrn⟩;have HRn:=hid hrn;have HB:=HBg;have HT:=HTr;clear hrn HTr;go_wp2;go_ret
   exact⟨mn,_,rfl,o,x,t,f,r,S3,M,wr,w9,⟨HT.o.1.less (fun p hp=>by cases hp),HT.o.2⟩,HB.o,HRn.o,rfl,rfl⟩
end
section
attribute [local go_sem] Oper.semAt_some
theorem Xf(n:Nat)(hn:n≤100000)(w:World):Calls prog 153 #[.int .i64 n] w fun e w'=>e= .returned (.int .i64 ((n+63)/64:Nat))∧w'=w:=by
 by_cases h0:n=0
 ·subst h0;go_enter func153,ntmps153;go_wp2;go_ret
  exact⟨rfl,rfl⟩
 ·obtain⟨k,rfl⟩:∃k,n=k+1:=⟨n-1,by omega⟩;have h1:¬((k:Int)+1<1):=by omega
  have h2:(k:Int)≤100000:=by omega
  go_enter func153,ntmps153;go_wp2;go_ret
  refine⟨?_,rfl⟩;rw[show((k:Int)+1+63)/64=(k:Int)/64+1 by omega];rfl
end
namespace Fp
def sizedL(l:List UInt8)(n:Nat):List UInt8:=if n≤l.length then l.take n else l++List.replicate (n-l.length) 0
theorem sizedL_length(l:List UInt8)(n:Nat):(sizedL l n).length=n:=by
 unfold sizedL;split
 ·rw[List.length_take];omega
 ·rw[List.length_append,List.length_replicate];omega
theorem sizedL_self(l:List UInt8)(n:Nat)(h:l.length=n):sizedL l n=l:=by
 unfold sizedL;rw[if_pos (by omega),List.take_of_length_le (by omega)]
def mayB(call inode:Int)(tr:Bool)(off:Int)(d:List UInt8):Bool:=
 decide (0≤call∧call≤1099511627776∧1≤inode∧inode≤32∧0≤off∧off≤256∧d.length≤64∧off+d.length≤256)&& !(tr&& !d.isEmpty)
theorem mayB_no{call inode:Int}{tr:Bool}{off:Int}{d:List UInt8}(h:¬(0≤call∧call≤1099511627776∧1≤inode∧inode≤32∧0≤off∧off≤256∧d.length≤64∧off+d.length≤256)):
 mayB call inode tr off d=false:=by
 unfold mayB;rw[decide_eq_false h];rfl
theorem mayB_if{call inode:Int}{tr:Bool}{off:Int}{d:List UInt8}(h:0≤call∧call≤1099511627776∧1≤inode∧inode≤32∧0≤off∧off≤256∧d.length≤64∧off+d.length≤256):
 mayB call inode tr off d= !(tr&& !d.isEmpty):=by
 unfold mayB;rw[decide_eq_true h];rfl
def outL(s:List UInt8)(tr:Bool)(off:Nat)(d:List UInt8):List UInt8:=
 if tr then sizedL s off else if d.isEmpty then s else sizedL s off++d++s.drop (off+d.length)
def chg(s:List UInt8)(call inode:Int)(tr:Bool)(off:Int)(d:List UInt8):List UInt8×Int:=
 if mayB call inode tr off d then
  (if(outL s tr off.toNat d).length≤256 then(outL s tr off.toNat d,0)else([],19))
 else([],1)
end Fp
section
namespace Fl
open Go.RowKit
theorem in_yes(n a b:Int)(w:World)(h1:a≤n)(h2:n≤b):
 Calls prog 151 #[.int .i64 n,.int .i64 a,.int .i64 b] w fun e w'=>e= .returned (.bool true)∧w=w':=by
 go_enter func151,ntmps151;go_wp2;go_ret
 exact⟨rfl,rfl⟩
theorem in_no1(n a b:Int)(w:World)(h1:n<a):
 Calls prog 151 #[.int .i64 n,.int .i64 a,.int .i64 b] w fun e w'=>e= .returned (.bool false)∧w=w':=by
 have h1':¬a≤n:=by omega
 go_enter func151,ntmps151;go_wp2;go_ret
 exact⟨rfl,rfl⟩
theorem in_no2(n a b:Int)(w:World)(h1:a≤n)(h2:b<n):
 Calls prog 151 #[.int .i64 n,.int .i64 a,.int .i64 b] w fun e w'=>e= .returned (.bool false)∧w=w':=by
 have h2':¬n≤b:=by omega
 go_enter func151,ntmps151;go_wp2;go_ret
 exact⟨rfl,rfl⟩
def inB(n a b:Int):Bool:=decide (a≤n)&&decide (n≤b)
theorem in_any(n a b:Int)(w:World):
 Calls prog 151 #[.int .i64 n,.int .i64 a,.int .i64 b] w fun e w'=>e= .returned (.bool (inB n a b))∧w=w':=by
 unfold inB;by_cases h1:a≤n
 ·by_cases h2:n≤b
  ·simpa [h1,h2]using in_yes n a b w h1 h2
  ·simpa [h1,h2]using in_no2 n a b w h1 (by omega)
 ·simpa [h1]using in_no1 n a b w (by omega)
end Fl
end
section
namespace Fl
open Go.RowKit
def recV(call inode:Int)(tr:Bool)(off:Int)(d:ByteArray):Value:= .agg #[.int .i64 call,.int .i64 inode,.bool tr,.int .i64 off,.string d]
theorem may_any(call inode:Int)(tr:Bool)(off:Int)(d:ByteArray)(w:World)(hd:d.size≤9223372036854775807):
 Calls prog 121 #[recV call inode tr off d] w fun e w'=>e= .returned (.bool (Fp.mayB call inode tr off d.data.toList))∧Below w.heap.size w w':=by
 unfold recV;go_enter func121,ntmps121;go_wp2_with(go_at_call 151;refine(in_any _ _ _ _).mono ?_;rintro e w' ⟨rfl,rfl⟩)
 all_goals go_ret
 all_goals refine⟨zn ?_,(Below.refl _ _).alloc (Nat.le_refl _) _⟩
 all_goals (try unfold wrap64 at*)
 all_goals (simp only[inB,Bool.and_eq_true,decide_eq_true_eq]at*)
 all_goals (have hs:=Lib.size_eq d)
 ·have htr:tr=true:=by assumption
  subst htr;rw[Fp.mayB_if (by omega),Lib.toList_data];simp
 ·have htr:¬tr=true:=by assumption
  rw[Fp.mayB_if (by omega)];simp[htr]
 all_goals (rw[Fp.mayB_no (by omega)])
theorem rmay_any(call inode:Int)(tr:Bool)(off:Int)(d:ByteArray)(w:World)(hd:d.size≤9223372036854775807):
 Calls prog 145 #[recV call inode tr off d] w fun e w'=>e= .returned (.bool (Fp.mayB call inode tr off d.data.toList))∧Below w.heap.size w w':=by
 unfold recV;go_enter func145,ntmps145;go_wp2;all_goals go_ret
 all_goals refine⟨zn ?_,(Below.refl _ _).alloc (Nat.le_refl _) _⟩
 all_goals (try unfold wrap64 at*)
 all_goals (have hs:=Lib.size_eq d)
 all_goals first
  |(rw[Fp.mayB_no (by omega)])
  |(have htr:tr=true:=by assumption
    subst htr;rw[Fp.mayB_if (by omega),Lib.toList_data];simp;done)
  |(have htr:¬tr=true:=by assumption
    rw[Fp.mayB_if (by omega)];simp[htr];done)
theorem sized_snoc(l:List UInt8)(n:Nat)(h:l.length<n):Fp.sizedL (l++[0]) n=Fp.sizedL l n:=by
 unfold Fp.sizedL;rw[if_neg (by omega:¬n≤l.length)];by_cases h2:n≤(l++[0]).length
 ·rw[if_pos h2];simp only[List.length_append,List.length_cons,List.length_nil]at h2;rw[List.take_of_length_le (by simp;omega),show n-l.length=1 by omega];rfl
 ·rw[if_neg h2];simp only[List.length_append,List.length_cons,List.length_nil]at h2⊢;rw[List.append_assoc,show n-l.length=(n-(l.length+(0+1)))+1 by omega,List.replicate_succ];rfl
theorem sized_head(l:List UInt8)(n:Nat)(h:n≤l.length):l.take n=Fp.sizedL l n:=by
 unfold Fp.sizedL;rw[if_pos h]
def szOf:Value→Nat| .string u=>u.size|_=>0
theorem rsized_any(s:ByteArray)(n:Nat)(w:World)(hn:n≤1000000):
 Calls prog 146 #[.string s,.int .i64 n] w fun e w'=>e= .returned (.string ⟨(Fp.sizedL s.data.toList n).toArray⟩)∧w=w':=by
 have hl:=Lib.size_eq s;have Hl:=hid hl;clear hl;by_cases hlt:n<s.size
 ·go_enter func146,ntmps146;go_wp2;go_ret
  refine⟨vx ?_,rfl⟩;have:=Hl.o
  rw[vD,sized_head _ _ (by omega)]
 ·go_enter func146,ntmps146;go_wp2;go_loop [0] (fun t=>∃u:ByteArray,u.size≤n∧t= .string u∧Hid (Fp.sizedL u.data.toList n=Fp.sizedL s.data.toList n)) (fun t=>n-szOf t)
  case atStart=>exact⟨s,by omega,rfl,rfl⟩
  case round=>
   obtain⟨u,hu,rfl,He⟩:=hrel;by_cases hlu:u.size<n
   ·go_wp2;go_round
    case rel=>
     refine⟨_,?_,rfl,?_⟩
     ·rw[ByteArray.size_append];show u.size+1≤n;omega
     ·show Fp.sizedL _ n=_
      rw[xK,←He.o];exact sized_snoc _ _ (by rw[←Qi];exact hlu)
    case measure=>show n-(u++⟨#[0]⟩:ByteArray).size<n-u.size;rw[ByteArray.size_append];show n-(u.size+1)<_;omega
   ·go_wp2;go_ret
    refine⟨vx ?_,rfl⟩;rw[←He.o,Fp.sizedL_self];rw[←Qi];omega
end Fl
end
section
namespace Fl
open Go.RowKit
theorem sized_tail(l:List UInt8)(n:Nat)(h:¬n≤l.length):l++Lib.repeatL [0] (n-l.length)=Fp.sizedL l n:=by
 unfold Fp.sizedL;rw[if_neg h,show([0]:List UInt8)=List.replicate 1 0 from rfl,Lib.repeatL_replicate,Nat.mul_one]
theorem sized_any(s:ByteArray)(n:Nat)(w:World)(hs:s.size≤1000000)(hn:n≤1000000):
 Calls prog 152 #[.string s,.int .i64 n] w fun e w'=>e= .returned (.string ⟨(Fp.sizedL s.data.toList n).toArray⟩)∧Below w.heap.size w w':=by
 have hl:=Lib.size_eq s;have Hl:=hid hl;clear hl;by_cases hlt:n≤s.size
 ·go_enter func152,ntmps152;go_wp2;go_ret
  refine⟨vx ?_,Below.refl _ _⟩;have:=Hl.o
  rw[vD,sized_head _ _ (by omega)]
 ·obtain⟨k,hk⟩:∃k:Nat,k=n-s.size:=⟨_,rfl⟩;have hk2:(n:Int)-(s.size:Int)=(k:Int):=by omega
  have Hk:=hid hk;have hkb:k≤1000000:=by omega
  clear hk;go_enter func152,ntmps152;have hr:=strings_Repeat ⟨#[0]⟩ k w (by omega) (by show 1*k≤_;omega);have HR:=hid hr;clear hr;have hrl:(Lib.repeatL [0] k).length≤1000000:=by rw[Lib.repeatL_length];simp;omega
  go_wp2_with(go_at_call 181;refine HR.o.mono ?_;rintro e w' ⟨rfl,hb⟩)
  go_ret
  refine⟨vx ?_,by assumption⟩;have:=Hl.o
  have h2:=Hk.o;rw[xK,←sized_tail _ _ (by omega),h2,←Qi]
theorem sized_int(s:ByteArray)(m:Int)(w:World)(hs:s.size≤1000000)(h0:0≤m)(hn:m≤1000000):
 Calls prog 152 #[.string s,.int .i64 m] w fun e w'=>∃u:ByteArray,e= .returned (.string u)∧Hid (u.data.toList=Fp.sizedL s.data.toList m.toNat)∧(u.size:Int)≤m∧m≤u.size∧Below w.heap.size w w':=by
 obtain⟨n,rfl⟩:=Int.eq_ofNat_of_zero_le h0;refine(sized_any s n w hs (by omega)).mono fun e w' ⟨he,hb⟩=>⟨_,he,hid rfl,?_,?_,hb⟩
 all_goals (rw[Lib.size_eq];simp[Fp.sizedL_length])
def chgV(r:List UInt8×Int):Value:= .tuple #[.string ⟨r.1.toArray⟩,.int .i64 r.2]
theorem ret_chg{u:ByteArray}{c:Int}{r:List UInt8×Int}(h1:u.data.toList=r.1)(h2:c=r.2):Ending.returned (.tuple #[.string u,.int .i64 c])= .returned (chgV r):=by
 unfold chgV;rw[←h1,←h2,vr]
def capL(l:List UInt8):List UInt8×Int:=if l.length≤256 then(l,0)else([],19)
theorem capL_yes{l:List UInt8}(h:l.length≤256):capL l=(l,0):=by unfold capL;rw[if_pos h]
theorem capL_no{l:List UInt8}(h:¬l.length≤256):capL l=([],19):=by unfold capL;rw[if_neg h]
theorem change_no(s:ByteArray)(call inode:Int)(tr:Bool)(off:Int)(d:ByteArray)(w:World)(hd:d.size≤80)(hm:Fp.mayB call inode tr off d.data.toList=false):
 Calls prog 122 #[.string s,recV call inode tr off d] w fun e w'=>e= .returned (chgV ([],1))∧Below w.heap.size w w':=by
 unfold recV;go_enter func122,ntmps122;go_wp2_with(go_at_call 121;refine(may_any call inode tr off d _ (by omega)).mono ?_;rintro e w' ⟨rfl,hb⟩)
 go_ret2
 refine⟨rfl,?_⟩;exact((Below.refl _ _).alloc (Nat.le_refl _) _).trans (hb.mono (by simp))
theorem change_trunc(s:ByteArray)(call inode:Int)(off:Nat)(w:World)(hs:s.size≤300)(hm:Fp.mayB call inode true off []=true)(ho:off≤256):
 Calls prog 122 #[.string s,recV call inode true off ⟨#[]⟩] w fun e w'=>e= .returned (chgV (capL (Fp.outL s.data.toList true off [])))∧Below w.heap.size w w':=by
 have hfin:Fp.outL s.data.toList true off []=Fp.sizedL s.data.toList off:=rfl;rw[hfin,capL_yes (by rw[Fp.sizedL_length];exact ho)];clear hfin;unfold recV;go_enter func122,ntmps122;go_wp2_with(first|(go_at_call 121;refine(may_any call inode true off ⟨#[]⟩ _ (by show 0≤_;omega)).mono ?_;rintro e w' ⟨rfl,hb⟩;obtain⟨hc,hf⟩:=yM hb))
 refine(sized_int s off _ (by omega) (by omega) (by omega)).mono ?_
 rintro e w2 ⟨u,rfl,hu,hu1,hu2,hb2⟩;go_wp2;go_ret2
 refine⟨ret_chg (by have:=hu.o;simpa using this) rfl,?_⟩;exact(((Below.refl _ _).alloc (Nat.le_refl _) _).trans (hb.mono (by simp))).trans (hb2.mono (by have:=hb.size;simp at this;omega))
theorem change_none(s:ByteArray)(call inode:Int)(off:Int)(w:World)(hs:s.size≤300)(hm:Fp.mayB call inode false off []=true):
 Calls prog 122 #[.string s,recV call inode false off ⟨#[]⟩] w fun e w'=>e= .returned (chgV (capL s.data.toList))∧Below w.heap.size w w':=by
 have hl:=Lib.size_eq s;have Hl:=hid hl;clear hl;by_cases hlt:s.size≤256
 ·rw[capL_yes (by rw[←Hl.o];exact hlt)];unfold recV;go_enter func122,ntmps122;go_wp2_with(first|(go_at_call 121;refine(may_any call inode false off ⟨#[]⟩ _ (by show 0≤_;omega)).mono ?_;rintro e w' ⟨rfl,hb⟩;obtain⟨hc,hf⟩:=yM hb))
  go_ret2
  exact⟨ret_chg rfl rfl,((Below.refl _ _).alloc (Nat.le_refl _) _).trans (hb.mono (by simp))⟩
 ·rw[capL_no (by rw[←Hl.o];exact hlt)];unfold recV;go_enter func122,ntmps122;go_wp2_with(first|(go_at_call 121;refine(may_any call inode false off ⟨#[]⟩ _ (by show 0≤_;omega)).mono ?_;rintro e w' ⟨rfl,hb⟩;obtain⟨hc,hf⟩:=yM hb))
  go_ret2
  exact⟨ret_chg rfl rfl,((Below.refl _ _).alloc (Nat.le_refl _) _).trans (hb.mono (by simp))⟩
theorem outL_write(l:List UInt8)(off:Nat)(d:List UInt8)(hd:d.isEmpty=false):
 (Fp.sizedL l (max (off+d.length) l.length)).take off++d++(Fp.sizedL l (max (off+d.length) l.length)).drop (off+d.length)=Fp.outL l false off d:=by
 unfold Fp.outL;rw[if_neg (by simp),hd,if_neg (by simp)];unfold Fp.sizedL;by_cases h1:off+d.length≤l.length
 ·rw[Nat.max_eq_right h1,if_pos (Nat.le_refl _),if_pos (by omega),List.take_length]
 ·rw[Nat.max_eq_left (by omega),if_neg (by omega),List.drop_eq_nil_of_le (by simp;omega)];rw[List.drop_eq_nil_of_le (by omega:l.length≤off+d.length)];congr 2
  by_cases h2:off≤l.length
  ·rw[if_pos h2,List.take_append_of_le_length h2]
  ·rw[if_neg h2,List.take_append,List.take_of_length_le (by omega),List.take_replicate];congr 2;omega
theorem change_write(s:ByteArray)(call inode:Int)(off:Nat)(d:ByteArray)(w:World)(hs:s.size≤300)(hm:Fp.mayB call inode false off d.data.toList=true)(ho:off+d.size≤256)(hd:0<d.size):
 Calls prog 122 #[.string s,recV call inode false off d] w fun e w'=>e= .returned (chgV (capL (Fp.outL s.data.toList false off d.data.toList)))∧Below w.heap.size w w':=by
 have hd0:d.toList.isEmpty=false:=by
  rw[Lib.toList_data];rw[Lib.size_eq]at hd;cases h:d.data.toList with|nil=>rw[h]at hd;simp at hd|cons _ _=>rfl
 have hw:=outL_write s.data.toList off d.data.toList (by rw[←Lib.toList_data];exact hd0);rw[←Lib.size_eq,←Lib.size_eq]at hw;have HW:=hid hw;clear hw;unfold recV;go_enter func122,ntmps122;go_wp2_with(first|(go_at_call 121;refine(may_any call inode false off d _ (by omega)).mono ?_;rintro e w' ⟨rfl,hb⟩;obtain⟨hc,hf⟩:=yM hb))
 refine(sized_int s _ _ (by omega) (by omega) (by omega)).mono ?_
 rintro e w2 ⟨u,rfl,hu,hu1,hu2,hb2⟩;obtain⟨hc2,hf2⟩:=yM hb2;have hz:=hb.size;simp only[World.size_alloc]at hz;have hz1:w.heap.size<w'.heap.size:=by omega
 have hu3:(off:Int)≤u.size:=by omega
 have hu4:(off:Int)+d.size≤u.size:=by omega
 go_wp2;go_quiet (fail)
 go_wp2;all_goals
  have hB:Below w.heap.size w (w2.drewN nq):=below_drewN ((((Below.refl _ _).alloc (Nat.le_refl _) _).trans (hb.mono (by simp))).trans (hb2.mono (by omega))) _;have hd1:(u.extract 0 off++d++u.extract (off+d.size) u.size).data.toList=Fp.outL s.data.toList false off d.data.toList:=by
   rw[xK,xK,vD,Zw,hu.o,←HW.o];rw[show(max ((off:Int)+(d.size:Int)) (s.size:Int)).toNat=max (off+d.size) s.size from by omega]
  have hl:(Fp.outL s.data.toList false off d.data.toList).length=min off u.size+d.size+(u.size-(off+d.size)):=by
   rw[←hd1,←Lib.size_eq];simp
  go_ret2
  refine⟨?_,hB⟩
 ·rw[capL_no (by omega)];exact ret_chg rfl rfl
 ·rw[capL_yes (by omega)];exact ret_chg hd1 rfl
theorem chg_def(s:List UInt8)(call inode:Int)(tr:Bool)(off:Int)(d:List UInt8)(h:Fp.mayB call inode tr off d=true):
 Fp.chg s call inode tr off d=capL (Fp.outL s tr off.toNat d):=by unfold Fp.chg capL;rw[h];rfl
theorem mayB_off{call inode:Int}{tr:Bool}{off:Int}{d:List UInt8}(h:Fp.mayB call inode tr off d=true):
 0≤off∧off≤256∧off+d.length≤256∧d.length≤64∧(tr=true→d=[]):=by
 unfold Fp.mayB at h;simp only[Bool.and_eq_true,decide_eq_true_eq]at h;obtain⟨⟨_,_,_,_,h1,h2,h3,h4⟩,h5⟩:=h;refine⟨h1,h2,h4,h3,fun ht=> ?_⟩;subst ht
 cases d with
 |nil=>rfl
 |cons _ _=>simp at h5
theorem ba_nil{d:ByteArray}(h:d.data.toList=[]):d=⟨#[]⟩:=va h
theorem change_any(s:ByteArray)(call inode:Int)(tr:Bool)(off:Int)(d:ByteArray)(w:World)(hs:s.size≤300)(hd:d.size≤80):
 Calls prog 122 #[.string s,recV call inode tr off d] w fun e w'=>e= .returned (chgV (Fp.chg s.data.toList call inode tr off d.data.toList))∧Below w.heap.size w w':=by
 by_cases hm:Fp.mayB call inode tr off d.data.toList=true
 ·rw[chg_def _ _ _ _ _ _ hm];obtain⟨h0,h1,h2,h3,h4⟩:=mayB_off hm;obtain⟨o,rfl⟩:=Int.eq_ofNat_of_zero_le h0;rw[Int.toNat_natCast];by_cases hn:d.data.toList=[]
  ·obtain rfl:=ba_nil hn
   cases tr with
   |true=>exact change_trunc s call inode o w hs hm (by omega)
   |false=>exact change_none s call inode o w hs hm
  ·cases tr with
   |true=>exact absurd (h4 rfl) hn
   |false=>
    have:=List.length_pos_iff.2 hn
    rw[←Lib.size_eq]at this h2;exact change_write s call inode o d w hs hm (by omega) this
 ·have hm':Fp.mayB call inode tr off d.data.toList=false:=by simpa using hm
  have hfin:Fp.chg s.data.toList call inode tr off d.data.toList=([],1):=by unfold Fp.chg;rw[hm'];rfl
  rw[hfin];exact change_no s call inode tr off d w hd hm'
end Fl
end
section
namespace Fl
open Go.RowKit
theorem rsized_int(s:ByteArray)(m:Int)(w:World)(h0:0≤m)(hn:m≤1000000):
 Calls prog 146 #[.string s,.int .i64 m] w fun e w'=>∃u:ByteArray,e= .returned (.string u)∧Hid (u.data.toList=Fp.sizedL s.data.toList m.toNat)∧(u.size:Int)≤m∧m≤u.size∧w=w':=by
 obtain⟨n,rfl⟩:=Int.eq_ofNat_of_zero_le h0;refine(rsized_any s n w (by omega)).mono fun e w' ⟨he,hb⟩=>⟨_,he,hid rfl,?_,?_,hb⟩
 all_goals (rw[Lib.size_eq];simp[Fp.sizedL_length])
theorem rchange_no(s:ByteArray)(call inode:Int)(tr:Bool)(off:Int)(d:ByteArray)(w:World)(hd:d.size≤80)(hm:Fp.mayB call inode tr off d.data.toList=false):
 Calls prog 111 #[.string s,recV call inode tr off d] w fun e w'=>e= .returned (chgV ([],1))∧Below w.heap.size w w':=by
 unfold recV;go_enter func111,ntmps111;go_wp2_with(go_at_call 145;refine(rmay_any call inode tr off d _ (by omega)).mono ?_;rintro e w' ⟨rfl,hb⟩)
 go_ret2
 exact⟨rfl,((Below.refl _ _).alloc (Nat.le_refl _) _).trans (hb.mono (by simp))⟩
theorem rchange_trunc(s:ByteArray)(call inode:Int)(off:Nat)(w:World)(hm:Fp.mayB call inode true off []=true)(ho:off≤256):
 Calls prog 111 #[.string s,recV call inode true off ⟨#[]⟩] w fun e w'=>e= .returned (chgV (capL (Fp.outL s.data.toList true off [])))∧Below w.heap.size w w':=by
 have hfin:Fp.outL s.data.toList true off []=Fp.sizedL s.data.toList off:=rfl;rw[hfin,capL_yes (by rw[Fp.sizedL_length];exact ho)];clear hfin;unfold recV;go_enter func111,ntmps111;go_wp2_with(first|(go_at_call 145;refine(rmay_any call inode true off ⟨#[]⟩ _ (by show 0≤_;omega)).mono ?_;rintro e w' ⟨rfl,hb⟩;obtain⟨hc,hf⟩:=yM hb))
 refine(rsized_int s off _ (by omega) (by omega)).mono ?_
 rintro e w2 ⟨u,rfl,hu,hu1,hu2,rfl⟩;go_wp2;go_ret2
 refine⟨ret_chg (by have:=hu.o;simpa using this) rfl,?_⟩;exact((Below.refl _ _).alloc (Nat.le_refl _) _).trans (hb.mono (by simp))
theorem rchange_none(s:ByteArray)(call inode:Int)(off:Int)(w:World)(hs:s.size≤300)(hm:Fp.mayB call inode false off []=true):
 Calls prog 111 #[.string s,recV call inode false off ⟨#[]⟩] w fun e w'=>e= .returned (chgV (capL s.data.toList))∧Below w.heap.size w w':=by
 have hl:=Lib.size_eq s;have Hl:=hid hl;clear hl;by_cases hlt:s.size≤256
 ·rw[capL_yes (by rw[←Hl.o];exact hlt)];unfold recV;go_enter func111,ntmps111;go_wp2_with(first|(go_at_call 145;refine(rmay_any call inode false off ⟨#[]⟩ _ (by show 0≤_;omega)).mono ?_;rintro e w' ⟨rfl,hb⟩;obtain⟨hc,hf⟩:=yM hb))
  go_ret2
  exact⟨ret_chg rfl rfl,((Below.refl _ _).alloc (Nat.le_refl _) _).trans (hb.mono (by simp))⟩
 ·rw[capL_no (by rw[←Hl.o];exact hlt)];unfold recV;go_enter func111,ntmps111;go_wp2_with(first|(go_at_call 145;refine(rmay_any call inode false off ⟨#[]⟩ _ (by show 0≤_;omega)).mono ?_;rintro e w' ⟨rfl,hb⟩;obtain⟨hc,hf⟩:=yM hb))
  go_ret2
  exact⟨ret_chg rfl rfl,((Below.refl _ _).alloc (Nat.le_refl _) _).trans (hb.mono (by simp))⟩
theorem outL_if(l:List UInt8)(off:Nat)(d:List UInt8)(hd:d.isEmpty=false):
 Fp.outL l false off d=if off+d.length<l.length then Fp.sizedL l off++d++l.drop (off+d.length)else Fp.sizedL l off++d:=by
 unfold Fp.outL;rw[if_neg (by simp),hd,if_neg (by simp)];by_cases h:off+d.length<l.length
 ·rw[if_pos h]
 ·rw[if_neg h,List.drop_eq_nil_of_le (by omega),List.append_nil]
theorem rchange_write(s:ByteArray)(call inode:Int)(off:Nat)(d:ByteArray)(w:World)(hs:s.size≤300)(hm:Fp.mayB call inode false off d.data.toList=true)(ho:off+d.size≤256)(hd:0<d.size):
 Calls prog 111 #[.string s,recV call inode false off d] w fun e w'=>e= .returned (chgV (capL (Fp.outL s.data.toList false off d.data.toList)))∧Below w.heap.size w w':=by
 have hd0:d.toList.isEmpty=false:=by
  rw[Lib.toList_data];rw[Lib.size_eq]at hd;cases h:d.data.toList with|nil=>rw[h]at hd;simp at hd|cons _ _=>rfl
 have hw:=outL_if s.data.toList off d.data.toList (by rw[←Lib.toList_data];exact hd0);rw[←Lib.size_eq,←Lib.size_eq]at hw;have HW:=hid hw;clear hw;obtain⟨u,hu⟩:∃u:ByteArray,u.data.toList=Fp.sizedL s.data.toList off:=⟨⟨(Fp.sizedL s.data.toList off).toArray⟩,rfl⟩;have hu0:u.size=off:=by rw[Lib.size_eq,hu,Fp.sizedL_length]
 have hq:∀W:World,Calls prog 146 #[.string s,.int .i64 off] W fun e w'=>e= .returned (.string u)∧W=w':=fun W=>(rsized_any s off W (by omega)).mono fun e w' ⟨he,hw⟩=>⟨by rw[he,←hu,vr],hw⟩;have Hq:=hid hq;clear hq;have Hu:=hid hu;clear hu;have hu1:u.size≤off:=by omega
 have hu2:off≤u.size:=by omega
 clear hu0;unfold recV;go_enter func111,ntmps111;go_wp2_with(first|(go_at_call 145;refine(rmay_any call inode false off d _ (by omega)).mono ?_;rintro e w' ⟨rfl,hb⟩;obtain⟨hc,hf⟩:=yM hb))
 go_quiet ((go_at_call 146;exact JN (Hq.o _)))
 have hB:Below w.heap.size w (w'.drewN nq):=below_drewN (((Below.refl _ _).alloc (Nat.le_refl _) _).trans (hb.mono (by simp))) _;by_cases hlt:u.size+d.size<s.size
 ·go_wp2;all_goals
   have hd1:(u++d++s.extract (u.size+d.size) s.size).data.toList=Fp.outL s.data.toList false off d.data.toList:=by
    rw[xK,xK,Zw,HW.o,if_pos (by omega),Hu.o,show u.size+d.size=off+d.size by omega]
   have hl:(Fp.outL s.data.toList false off d.data.toList).length=u.size+d.size+(s.size-(u.size+d.size)):=by
    rw[←hd1,←Lib.size_eq];simp
   go_ret2
   refine⟨?_,hB⟩;first
   |(rw[capL_no (by omega)];exact ret_chg rfl rfl)
   |(rw[capL_yes (by omega)];exact ret_chg hd1 rfl)
 ·go_wp2;go_ret2
  have hd1:(u++d).data.toList=Fp.outL s.data.toList false off d.data.toList:=by
   rw[xK,HW.o,if_neg (by omega),Hu.o]
  have hl:(Fp.outL s.data.toList false off d.data.toList).length=u.size+d.size:=by
   rw[←hd1,←Lib.size_eq];simp
  rw[capL_yes (by omega)];exact⟨ret_chg hd1 rfl,hB⟩
theorem rchange_any(s:ByteArray)(call inode:Int)(tr:Bool)(off:Int)(d:ByteArray)(w:World)(hs:s.size≤300)(hd:d.size≤80):
 Calls prog 111 #[.string s,recV call inode tr off d] w fun e w'=>e= .returned (chgV (Fp.chg s.data.toList call inode tr off d.data.toList))∧Below w.heap.size w w':=by
 by_cases hm:Fp.mayB call inode tr off d.data.toList=true
 ·rw[chg_def _ _ _ _ _ _ hm];obtain⟨h0,h1,h2,h3,h4⟩:=mayB_off hm;obtain⟨o,rfl⟩:=Int.eq_ofNat_of_zero_le h0;rw[Int.toNat_natCast];by_cases hn:d.data.toList=[]
  ·obtain rfl:=ba_nil hn
   cases tr with
   |true=>exact rchange_trunc s call inode o w hm (by omega)
   |false=>exact rchange_none s call inode o w hs hm
  ·cases tr with
   |true=>exact absurd (h4 rfl) hn
   |false=>
    have:=List.length_pos_iff.2 hn
    rw[←Lib.size_eq]at this h2;exact rchange_write s call inode o d w hs hm (by omega) this
 ·have hm':Fp.mayB call inode tr off d.data.toList=false:=by simpa using hm
  have hfin:Fp.chg s.data.toList call inode tr off d.data.toList=([],1):=by unfold Fp.chg;rw[hm'];rfl
  rw[hfin];exact rchange_no s call inode tr off d w hd hm'
end Fl
end
end Go.Proofs.YtccpdkjonepoiaaGreatDoor
