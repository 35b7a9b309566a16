/- Walk: the log's records, one, redone. -/
import Derived.Test.YtckoobkjpndgnaaGreatDoorW07
set_option linter.unusedVariables false
set_option linter.unusedSimpArgs false
set_option linter.unusedSectionVars false
set_option maxHeartbeats 8000000
set_option maxRecDepth 100000
namespace Go.Proofs.YtckoobkjpndgnaaGreatDoor
open Go.RowKit
open Lib(hid)
open Go.Proofs.Tryz
section
open Go.Shelf
attribute [local go_sem] Oper.semAt_some
theorem recB_pos(P:List Gd.Pa):8≤(Gd.recB P).length:=by
 have:=Gd.up8_ge (6+Gd.wt P)
 rw[Gd.recB_length];omega
theorem each_redo{g m sb lb ab n K B bm bl:Nat}{S:List UInt8}(P:List Gd.Pa)(w:World)(h:MemAt w m sb lb ab n S K)(hL:LogAt w g m 2688 4096)(hB:LowAt m sb lb ab g B)(hf:Gd.Fit 23168 P)(hP:∀p∈P,Gd.PaMay p)(hn:P.length≤64)(hS:S.length=23168)(hR:(Gd.recB P).length≤4088)
 (he:Gd.part S 2688 8=Gd.le (Gd.recB P).length 8)(hr:Gd.part S 2696 (Gd.recB P).length=Gd.recB P)
 (hbm:CellsAt w bm 3 #[.int .i64 0])(hbl:CellsAt w bl 53 #[.pointer (some ⟨g,0,none⟩)])(hm:B≤bm∧B≤bl∧bl≠bm)(hK:K<800000000000):
 Calls prog 91 #[.pointer (some ⟨g,0,none⟩),.func (.func 95) #[] #[.pointer (some ⟨bm,0,none⟩),.pointer (some ⟨bl,0,none⟩)]] w fun e w'=>e= .returned (.int .i64 (Gd.recB P).length)∧MemT w' m sb lb ab n (Gd.view S P) (K+20000*P.length)∧Only (fun k=>Mem3 sb lb ab k∨k=bm) w w'∧CellsAt w' bm 3 #[.int .i64 1]:=by
 have hbd:=(Below.refl w.heap.size w).drew;have hMd:=h.below hbd;have hLd:LogAt w.drew g m 2688 4096:=(hbd.block g (lt_get hL)).trans hL;have hpos:=recB_pos P;obtain⟨R,hRe⟩:=nm (Gd.recB P);rw[←hRe]at hR he hr hpos⊢;obtain⟨l,hl⟩:=nm R.length;rw[←hl]at hR he hr hpos⊢;have HE:=hid (end_any (N:=l) hR w.drew hMd.toF hLd hS he);have HLo:Hid (∀W,Below w.drew.heap.size w.drew W→Calls prog 80 #[.pointer (some ⟨m,0,none⟩),.int .i64 2696,.int .i64 l] W (Loads W R)):=hid fun W hb=>by
  have:=mload_any 2696 l W (hMd.below hb).toF (by omega) (by omega)
  rw[hr]at this;exact this
 have hs0:w.drew.cell? ⟨g,0,none⟩=some (.pointer (some ⟨m,0,none⟩))∧w.drew.cell? ⟨g,1,none⟩=some (.int .i64 2688):=⟨(cell2 hLd).1,(cell2 hLd).2.1⟩;have HT:Hid (∀W,Below w.drew.heap.size w.drew W→W.cell? ⟨g,0,none⟩=some (.pointer (some ⟨m,0,none⟩))∧W.cell? ⟨g,1,none⟩=some (.int .i64 2688)):=hid fun W hb=>⟨(hb.cell (p:=⟨g,0,none⟩) (lt_get hLd)).trans hs0.1,(hb.cell (p:=⟨g,1,none⟩) (lt_get hLd)).trans hs0.2⟩;have HM:=hid h;have HL:=hid hL;have HB:=hid hB;have HP:=hid (And.intro hf (And.intro hP (And.intro hn hS)));have Hbm:=hid hbm;have Hbl:=hid hbl;have Hm:=hid hm;have HK:=hid hK;have HBd:=hid hbd;have HRe:=hid hRe;have Hl:=hid hl;have HWd:=hid (show w.drew.heap.size=w.heap.size from rfl);have HV:Hid (w.heap.size≤w.drew.heap.size):=hid hbd.size;have hl4:(l:Int)≤4088:=by omega
 clear h hL hB hf hP hn hS hbm hbl hm hK hbd hMd hLd hRe hl he hr;go_enter func91,ntmps91;go_upto_region 1 with fail
 refine wp_region_held_drew (S:=(fun W=>W.cell? ⟨g,0,none⟩=some (.pointer (some ⟨m,0,none⟩))∧W.cell? ⟨g,1,none⟩=some (.int .i64 2688))) (by kernel_rfl) ?_ (fun hHeld=> ?_)
 ·exact hs0
 refine tk 0 ?_;refine tk 1 ?_;refine tk 2 ?_;refine tk 3 ?_;refine tk 4 ?_;refine tk 5 ?_;refine tk 6 ?_;refine tk 7 ?_;refine tk 8 ?_;refine tk 9 ?_;refine rd 10 (fun K hK=> ?_);go_simp
 refine HE.o.mono ?_;rintro e w1 ⟨rfl,hb1⟩;have HB1:=hid hb1;have hs1:=HT.o w1 hb1;clear hb1;dsimp only;refine hK.o _ _ hs1 (fun hHeld=> ?_);clear hK K;try simp only[put]
 refine rd 11 (fun K hK=> ?_);go_simp
 refine(HLo.o w1 HB1.o).mono ?_
 rintro e w2 ⟨v2,rfl,ho2,hb2⟩;have HO2:=hid ho2;have HB2:=HB1.t hb2;have hs2:=HT.o w2 HB2.o;clear ho2 hb2;dsimp only;refine hK.o _ _ hs2 (fun hHeld=> ?_);clear hK K;try simp only[put]
 refine tk 12 ?_;refine tk 13 ?_;refine tk 14 ?_;refine tk 15 ?_;refine tk 16 ?_;refine dn ?_
 (try simp only[Exit.then])
 clear hs0 hs1 hs2 HE HLo;have HW2:Hid (Below w.heap.size w w2):=hid (HBd.o.trans (HB2.o.mono HBd.o.size));have HDe:=hid (by
  have h1:=HO2.o.mono (C:=0) (Nat.zero_le _);rw[HRe.o]at h1;have:=decode_any v2 P 0 w2 h1 HP.o.2.1 HP.o.2.2.1
  rw[←HRe.o,←Hl.o]at this;exact this)
 obtain⟨A2,c2,hv2,hA2⟩:=HO2.o.at_;have hcap:l≤c2:=by
  rcases HO2.o.2 with⟨_,h0⟩|⟨_,cap,_,e,_,_,hc,_⟩
  ·have:=Hl.o;omega
  ·rw[e]at hv2
   cases hv2
   have:=Hl.o
   omega
 rw[←Hl.o]at hv2;obtain⟨b2,o2,rfl⟩:∃b o,A2=some ⟨b,o,none⟩:=by
  rcases hA2 with⟨_,h0,_⟩|⟨b,o,e,_⟩
  ·have:=Hl.o
   rw[h0]at this;simp at this
   omega
  ·exact⟨b,o,e⟩
 subst hv2;have hl8:(8:Int)≤l:=by omega
 have hcap2:(l:Int)≤c2:=by omega
 clear hA2 HO2
 (first|(refine(by assumption:∀(a:Act) (w:World),_) _ _ ?_)|skip)
 go_upto_region 3 with fail
 go_loopw[5,7] (fun y u wx=>(y= .slice (some ⟨b2,o2,none⟩) l c2∧u= .int .i64 0∧wx=w2)∨(∃A c,y= .slice A 0 c∧u= .int .i64 l∧Hid (MemT wx m sb lb ab n (Gd.view S P) (K+20000*P.length)∧Only (fun k=>Mem3 sb lb ab k∨k=bm) w wx∧CellsAt wx bm 3 #[.int .i64 1]))) (fun _ u _=>l-(intOf u).toNat)
 case atStart=>exact Or.inl ⟨rfl,rfl,rfl⟩
 case round=>
  rcases hrel with⟨rfl,rfl,rfl⟩|⟨A,c,rfl,rfl,HX⟩
  ·go_wp2_with fail
   refine HDe.o.mono ?_;rintro e w3 ⟨u,rfl,hu,hb3⟩;have HB3:=HW2.t hb3;have HM3:=hid (HM.o.below HB3.o);obtain⟨A3,c3,rfl,hA3⟩:=row_pa hu;have HRd:=hid (redo1_at (c:=0) (.slice A3 P.length c3) P w3 (HM3.o.strict (by have:=HK.o;omega)) ((HB3.o.block g (lt_get HL.o)).trans HL.o) HB.o ⟨A3,c3,rfl,hA3⟩ (fun q hq=>by
    have h1:=(own_block hu q hq).1;have h2:=HW2.o.size;have h3:=Hbm.o.lt;have h4:=HM.o.lts;have h5:=Hbl.o.lt;have h6:=Hm.o;omega) (by rw[HP.o.2.2.2];exact HP.o.1) (fun p hp=>(HP.o.2.1 p hp).2) HP.o.2.2.1 ((HB3.o.block bm Hbm.o.lt).trans Hbm.o) ((HB3.o.block bl Hbl.o.lt).trans Hbl.o) Hm.o (by omega) HK.o)
   clear hu hb3 hA3 HDe;go_wp2_with fail
   refine HRd.o.mono ?_;rintro e w4 ⟨rfl,hM4,hO4,hC4⟩;have HX:Hid (MemT w4 m sb lb ab n (Gd.view S P) (K+20000*P.length)∧Only (fun k=>Mem3 sb lb ab k∨k=bm) w w4∧CellsAt w4 bm 3 #[.int .i64 1]):=hid ⟨hM4,(below_only HB3.o _).trans hO4 fun _ _ e=>e,hC4⟩;clear hM4 hO4 hC4 HRd;by_cases hce:l=c2
   ·subst hce;go_wp2;go_roundw
    case rel=>exact Or.inr ⟨_,_,rfl,rfl,HX⟩
    case measure=>simp[intOf];omega
   ·have hce':(l:Int)<c2:=by omega
    go_wp2;go_roundw
    case rel=>exact Or.inr ⟨_,_,rfl,rfl,HX⟩
    case measure=>simp[intOf];omega
  ·go_wp2;go_ret
   exact⟨rfl,HX.o⟩
end
section
open Go.Shelf
attribute [local go_sem] Oper.semAt_some
theorem redo_at{g m sb lb ab n K:Nat}{S:List UInt8}(P:List Gd.Pa)(w:World)(h:MemAt w m sb lb ab n S K)(hL:LogAt w g m 2688 4096)(hf:Gd.Fit 23168 P)(hP:∀p∈P,Gd.PaMay p)(hn:P.length≤64)(hS:S.length=23168)(hR:(Gd.recB P).length≤4088)
 (he:Gd.part S 2688 8=Gd.le (Gd.recB P).length 8)(hr:Gd.part S 2696 (Gd.recB P).length=Gd.recB P)(hK:K<700000000000):
 Calls prog 46 #[.pointer (some ⟨g,0,none⟩)] w fun e w'=>e= .returned (.int .i64 1)∧MemAt w' m sb lb ab n (Gd.splice (Gd.view S P) 2688 (List.replicate 8 0)) (K+20000*P.length+20000)∧Only (Mem3 sb lb ab) w w':=by
 obtain⟨w0,hw0⟩:=nm ((w.alloc (.cells #[.pointer (some ⟨g,0,none⟩)] 53)).alloc (.cells #[.int .i64 0] 3));have hb0:Below w.heap.size w w0:=by rw[hw0];exact((Below.refl _ _).alloc (Nat.le_refl _) _).alloc (by simp) _
 have hbl:CellsAt w0 w.heap.size 53 #[.pointer (some ⟨g,0,none⟩)]:=by rw[hw0];exact CellsAt.alloc (heap_alloc_new w _) _
 have hbm:CellsAt w0 (w.heap.size+1) 3 #[.int .i64 0]:=by
  have:=heap_alloc_new (w.alloc (.cells #[.pointer (some ⟨g,0,none⟩)] 53)) (.cells #[.int .i64 0] 3)
  rw[World.size_alloc]at this;rw[hw0];exact this
 obtain⟨bl,hble⟩:=nm w.heap.size;have hM0:=h.below hb0;have hL0:LogAt w0 g m 2688 4096:=(hb0.block g (lt_get hL)).trans hL;have hlow:LowAt m sb lb ab g bl:=by
  have h1:=h.lts m (by simp);have h2:=h.lts sb (by simp);have h3:=h.lts lb (by simp);have h4:=h.lts ab (by simp);have h5:=lt_get hL;rw[hble];exact⟨h1,h2,h3,h4,h5⟩
 rw[←hble]at hbl hbm;have HEa:=hid (each_redo P w0 hM0 hL0 hlow hf hP hn hS hR he hr hbm hbl (by omega) (by omega));have HSv:Hid ((Gd.view S P).length=23168):=hid (by rw[Gd.view_length (by rw[hS];exact hf)];exact hS);have HK:Hid (P.length≤64∧K<700000000000):=hid ⟨hn,hK⟩;have HW0:=hid hw0;have HB0:=hid hb0;have Hbl:=hid hbl;have HL0:=hid hL0;have HM0:=hid hM0;have HLo:=hid hlow;have HBe:=hid hble.symm;have l0:=cell_of_row w0 bl 0 _ _ _ hbl;clear h hL hf hP hn hS hR he hr hK hw0 hb0 hbl hbm hble hM0 hL0 hlow;go_enter func46,ntmps46;go_upto_region 2 with fail
 rw[←HW0.o,HBe.o];go_wp2_with fail
 refine HEa.o.mono ?_;rintro e w1 ⟨rfl,hM1,hO1,hC1⟩;have HNb:Hid (¬(Mem3 sb lb ab bl∨bl=bl+1)):=hid (by
  rintro(e|e)
  ·exact HLo.o.mem3 (Nat.le_refl _) e
  ·omega)
 have HM1:=hid hM1;have HO1:=hid hO1;have HC1:=hid hC1;have l1:=cell_of_row w1 bl 0 _ _ _ ((hO1.block bl Hbl.o.lt HNb.o).trans Hbl.o);have HL1:=hid (HL0.o.keep hO1 (by
  rintro(e|e)
  ·exact HL0.o.apart HM0.o e
  ·have:=HLo.o.g;omega))
 obtain⟨g1,-,-⟩:=cell2 HL1.o;clear hM1 hO1 hC1 HEa l0;go_wp2_with fail
 refine(fence_at w1 HM1.o).mono ?_
 rintro e w2 ⟨rfl,hM2,hO2⟩;have HO2:=hid (HO1.o.trans (hO2.mono (G:=fun k=>Mem3 sb lb ab k∨k=bl+1) fun k _ e=>Or.inl (e.elim (fun e=>Or.inr (Or.inl e)) fun e=>Or.inr (Or.inr e))) fun _ _ e=>e);have HM2:=hid hM2;have l2:=cell_of_row w2 bl 0 _ _ _ ((HO2.o.block bl Hbl.o.lt HNb.o).trans Hbl.o);have HL2:=hid (HL0.o.keep HO2.o (by
  rintro(e|e)
  ·exact HL0.o.apart HM0.o e
  ·have:=HLo.o.g;omega))
 have HC2:Hid (CellsAt w2 (bl+1) 3 #[.int .i64 1]):=hid ((hO2.block _ HC1.o.lt (by
  rintro(e|e)
  ·have:=HLo.o.lb;omega
  ·have:=HLo.o.ab;omega)).trans HC1.o)
 clear hM2 hO2 HM1 HO1 HC1 HL1 l1 g1;go_wp2_with fail
 refine(clear_at w2 HM2.o HL2.o HSv.o (by have:=HK.o;omega)).mono ?_
 rintro e w3 ⟨rfl,hM3,hO3⟩;have HM3:=hid hM3;have l3:=cell_of_row w3 (bl+1) 0 _ _ _ ((hO3.block _ HC2.o.lt (HLo.o.mem3 (by omega))).trans HC2.o);have HO3:=hid (HO2.o.trans (hO3.mono (G:=fun k=>Mem3 sb lb ab k∨k=bl+1) fun k _ e=>Or.inl e) fun _ _ e=>e);clear hM3 hO3 l2;go_wp2;go_ret
 refine⟨rfl,HM3.o,?_⟩;refine⟨HO3.o.os.trans HB0.o.os,HO3.o.tape.trans HB0.o.tape,HO3.o.output.trans HB0.o.output,Nat.le_trans HB0.o.size HO3.o.size,fun k hk hnk=> ?_⟩;refine(HO3.o.block k (Nat.lt_of_lt_of_le hk HB0.o.size) ?_).trans (HB0.o.block k hk)
 rintro(e|e)
 ·exact hnk e
 ·have:=HBe.o;omega
structure PaLight(P:List Gd.Pa)(c:Nat):Prop where
 many:P.length≤c
 len:∀p∈P,p.2.length≤64
theorem wt_light:∀{P:List Gd.Pa},(∀p∈P,p.2.length≤64)→Gd.wt P≤70*P.length
 |[],_=>Nat.zero_le _
 |p::r,h=>by
  have h1:=wt_light (P:=r) fun q hq=>h q (List.mem_cons_of_mem _ hq);have h2:=h p (List.mem_cons_self ..);unfold Gd.wt Gd.pasB at*;rw[List.flatMap_cons,List.length_append,Gd.paB_length,List.length_cons];omega
theorem PaLight.wt{P:List Gd.Pa}{c:Nat}(h:PaLight P c):Gd.wt P≤70*P.length:=wt_light h.len
theorem PaLight.fits{P:List Gd.Pa}(h:PaLight P 57):(Gd.recB P).length≤4088:=by
 have h1:=h.wt;have h2:=h.many;have h3:=Gd.up8_ge (6+Gd.wt P);rw[Gd.recB_length];unfold Gd.up8 at*;omega
namespace Gd
def doneS(S:List UInt8)(P:List Pa):List UInt8:=splice (view (splice (splice S 2696 (recB P)) 2688 (le (recB P).length 8)) P) 2688 (List.replicate 8 0)
end Gd
theorem commit_doneR[MemNo]{t K:Nat}{S:List UInt8}{P:List Gd.Pa}{F:Nat→Prop}(w:World)(h:TxnF t S P K w F)(h0:P≠[])(hR:(Gd.recB P).length≤4088)(hS:S.length=23168)(he:Gd.part S 2688 8=Gd.le 0 8)(hK:K<600000000000):
 Calls prog 17 #[.pointer (some ⟨t,0,none⟩)] w fun e w'=>e= .returned (.int .i64 0)∧((Gd.doneS S P).length=23168∧Gd.part (Gd.doneS S P) 2688 8=Gd.le 0 8∧(∀i,i<2688∨6784≤i→(Gd.doneS S P)[i]? =(Gd.view S P)[i]?)∧TxnF t (Gd.doneS S P) [] (K+2000000) w' F)∧Only F w w':=by
 obtain⟨m,g,pv,⟨sb,lb,ab,n,hM,fm,fsb,flb,fab⟩,hT,hL,ft,fg,fq,hP,hmn⟩:=h;obtain⟨A,c,rfl,hrow⟩:=row_pa hT.row;have hfit:Gd.Fit 23168 P:=by have:=hP.fit;rw[hS]at this;exact this
 have hmay:∀p∈P,Gd.PaMay p:=fun p hp=>⟨by have:=hfit p hp;omega,hP.len p hp⟩;have hTn:¬Mem3 sb lb ab t:=by
  obtain⟨k,D,_,⟨es,ck,hm,_⟩,_⟩:=hM.away;obtain⟨Z,hZ,hlb⟩:=hM.lasts;have h1:=hT.obj;obtain⟨T2,h2⟩:=hM.seenE;rintro(e|e|e)
  ·rw[e,h2]at h1;exact absurd (Obj.cells.inj (Option.some.inj h1)).2.1 (by decide)
  ·rw[e,hlb]at h1;exact absurd (Obj.cells.inj (Option.some.inj h1)).2.1 (by decide)
  ·rw[e,hm]at h1
   cases h1
 have hQn:∀q,(Value.slice A P.length c).ownBlock=some q→¬Mem3 sb lb ab q:=fun q hq=>by
  rcases hT.row.2 with⟨e,_⟩|⟨q',cap,cur,e,_,hg,_⟩
  ·rw[e]at hq;cases hq
  ·rw[e]at hq;obtain rfl:q'=q:=Option.some.inj hq
   obtain⟨k,D,_,⟨es,ck,hm,_⟩,_⟩:=hM.away;obtain⟨Z,hZ,hlb⟩:=hM.lasts;obtain⟨T2,h2⟩:=hM.seenE;rintro(e|e|e)
   ·rw[e,h2]at hg;exact absurd (Obj.cells.inj (Option.some.inj hg)).2.1 (by decide)
   ·rw[e,hlb]at hg;exact absurd (Obj.cells.inj (Option.some.inj hg)).2.1 (by decide)
   ·rw[e,hm]at hg
    cases hg
 have HTx:Hid (∀S' K' w',S'.length=23168→MemAt w' m sb lb ab n S' K'→Only (Mem3 sb lb ab) w w'→TxnF t S' P K' w' F):=hid fun S' K' w' hS' hM' hO'=>by
  refine⟨m,g,_,⟨sb,lb,ab,n,hM',fm,fsb,flb,fab⟩,⟨(hO'.block t (lt_get hT.obj) hTn).trans hT.obj,?_⟩,hL.keep hO' (hL.apart hM),ft,fg,fq,⟨by rw[hS'];exact hfit,hP.len,hP.many⟩,hmn⟩;exact⟨hT.row.1,hT.row.2.imp id fun⟨q,cap,cur,hv,hB,hg,hr⟩=>⟨q,cap,cur,hv,hB,(hO'.block q (lt_get hg) (hQn q (by rw[hv];rfl))).trans hg,hr⟩⟩
 clear hmn;have hbd:=(Below.refl w.heap.size w).drew;have hMd:=hM.below hbd;have hLd:LogAt w.drew g m 2688 4096:=(hbd.block g (lt_get hL)).trans hL;have hpv:PasAt w.drew (.slice A P.length c) P:=⟨A,c,rfl,hrow.imp id fun⟨b,h1,h2,h3⟩=>⟨b,h1,Nat.lt_of_lt_of_le h2 hbd.size,fun k p hp=>⟨(hbd.cell (p:=⟨b,k*2,none⟩) h2).trans (h3 k p hp).1,(hbd.cell (p:=⟨b,k*2+1,none⟩) h2).trans (h3 k p hp).2⟩⟩⟩;have HAp:=hid (append_at (.slice A P.length c) P w.drew hMd hLd hpv hmay hP.many hS he hR (by omega));obtain⟨c0,c1,c2⟩:=cell2 hT.obj;have hd:w.drew.heap[t]? =_:=(hbd.block t (lt_get hT.obj)).trans hT.obj;obtain⟨d0,d1,d2⟩:=cell2 hd;obtain⟨r,hre⟩:=nm P.length;have hr0:(r:Int)≠0:=by
  intro e;exact h0 (List.eq_nil_of_length_eq_zero (by omega))
 rw[←hre]at c2 d2 HAp;have hs0:=And.intro d1 d2;have HTo:=hid hT.obj;have Hre:=hid hre;have HF:=hid (And.intro fsb (And.intro flb fab));have HTn:=hid hTn;have HBd:Hid (Only (Mem3 sb lb ab) w w.drew):=hid (below_only hbd _);have HLg:=hid hL;have HLn:=hid (hL.apart hM);have HP:=hid (And.intro hfit (And.intro hmay (And.intro hP.many (And.intro hR hS))));have HK:=hid hK;clear hM fm fsb flb fab hT hL ft fg fq hP hrow hfit hmay hR hTn hQn hbd hMd hLd hpv hd hS he h0 hre hK d0;go_enter func17,ntmps17;go_upto_region 3 with fail
 refine wp_region_held_drew (S:=(fun W=>W.cell? ⟨t,1,none⟩=some (.pointer (some ⟨g,0,none⟩))∧W.cell? ⟨t,2,none⟩=some (.slice A r c))) (by kernel_rfl) ?_ (fun hHeld=> ?_)
 ·exact hs0
 refine tk 0 ?_;refine tk 1 ?_;refine tk 2 ?_;refine tk 3 ?_;refine tk 4 ?_;refine tk 5 ?_;refine tk 6 ?_;refine tk 7 ?_;refine rd 8 (fun K hK=> ?_);go_simp
 refine HAp.o.mono ?_;rintro e w1 ⟨rfl,hM1,hO1⟩;have HM1:=hid hM1;have HO1:=hid (HBd.o.trans hO1 fun _ _ e=>e);have hx1:=(HO1.o.block t (lt_get HTo.o) HTn.o).trans HTo.o;rw[←Hre.o]at hx1;have hs1:=And.intro (cell2 hx1).2.1 (cell2 hx1).2.2;clear hM1 hO1 hx1;try dsimp only
 refine hK.o _ _ hs1 (fun hHeld=> ?_);clear hK K;try simp only[put]
 refine tk 9 ?_;refine dn ?_
 (try simp only[Exit.then])
 have HRd:=hid (redo_at P w1 HM1.o (HLg.o.keep HO1.o HLn.o) HP.o.1 HP.o.2.1 HP.o.2.2.1 (Gd.logged_length HP.o.2.2.2.2 HP.o.2.2.2.1) HP.o.2.2.2.1 (Gd.logged_end HP.o.2.2.2.2 HP.o.2.2.2.1) (Gd.logged_rec HP.o.2.2.2.2 HP.o.2.2.2.1) (by have:=HK.o;omega));obtain⟨y0,y1⟩:=hs1;clear HAp hs0 c0 c1 c2 d1 d2;go_wp2_with fail
 refine HRd.o.mono ?_;rintro e w2 ⟨rfl,hM2,hO2⟩;have HO2:=hid (HO1.o.trans hO2 fun _ _ e=>e);have hdl:(Gd.splice (Gd.view (Gd.splice (Gd.splice S 2696 (Gd.recB P)) 2688 (Gd.le (Gd.recB P).length 8)) P) 2688 (List.replicate 8 0)).length=23168:=Gd.done_length HP.o.2.2.2.2 HP.o.2.2.2.1 HP.o.1;have HT2:=hid (HTx.o _ _ _ hdl hM2 HO2.o);clear hM2 hO2 HRd y0 y1 hdl;go_wp2_with fail
 refine(tdrop_any w2 HT2.o).mono ?_
 rintro e w3 ⟨rfl,hT3,hO3⟩;have HT3:=hid hT3;have HO3:=hid ((HO2.o.mono (G:=F) fun k _ e=>by
  rcases e with rfl|rfl|rfl
  ·exact HF.o.1
  ·exact HF.o.2.1
  ·exact HF.o.2.2).trans hO3 fun _ _ e=>e)
 clear hT3 hO3;go_wp2;go_ret
 refine⟨rfl,⟨Gd.done_length HP.o.2.2.2.2 HP.o.2.2.2.1 HP.o.1,Gd.done_end HP.o.2.2.2.2 HP.o.2.2.2.1 HP.o.1,fun i hi=>Gd.done_get HP.o.2.2.2.2 HP.o.2.2.2.1 HP.o.1 i hi,?_⟩,HO3.o⟩;obtain⟨m,g,pv,⟨sb,lb,ab,n,h1,h2⟩,hr⟩:=HT3.o;exact⟨m,g,pv,⟨sb,lb,ab,n,h1.more (by have:=HP.o.2.2.1;omega),h2⟩,hr⟩
theorem commit_done[MemNo]{t K:Nat}{S:List UInt8}{P:List Gd.Pa}{F:Nat→Prop}(w:World)(h:TxnF t S P K w F)(h0:P≠[])(hl:PaLight P 57)(hS:S.length=23168)(he:Gd.part S 2688 8=Gd.le 0 8)(hK:K<600000000000):
 Calls prog 17 #[.pointer (some ⟨t,0,none⟩)] w fun e w'=>e= .returned (.int .i64 0)∧((Gd.doneS S P).length=23168∧Gd.part (Gd.doneS S P) 2688 8=Gd.le 0 8∧(∀i,i<2688∨6784≤i→(Gd.doneS S P)[i]? =(Gd.view S P)[i]?)∧TxnF t (Gd.doneS S P) [] (K+2000000) w' F)∧Only F w w':=
 commit_doneR w h h0 hl.fits hS he hK
theorem commit_any[MemNo]{t K:Nat}{S:List UInt8}{P:List Gd.Pa}{F:Nat→Prop}(w:World)(h:TxnF t S P K w F)(hl:PaLight P 57)(hS:S.length=23168)(he:Gd.part S 2688 8=Gd.le 0 8)(hK:K<600000000000):
 Calls prog 17 #[.pointer (some ⟨t,0,none⟩)] w fun e w'=>e= .returned (.int .i64 0)∧(∃S',S'.length=23168∧Gd.part S' 2688 8=Gd.le 0 8∧(∀i,i<2688∨6784≤i→S'[i]? =(Gd.view S P)[i]?)∧TxnF t S' [] (K+2000000) w' F)∧Only F w w':=by
 by_cases h0:P=[]
 ·subst h0;refine(commit_none w h).mono ?_
  rintro e w' ⟨rfl,rfl⟩;refine⟨rfl,⟨S,hS,he,fun _ _=>rfl,?_⟩,Only.refl _ _⟩;obtain⟨m,g,pv,⟨sb,lb,ab,n,h1,h2⟩,hr⟩:=h;exact⟨m,g,pv,⟨sb,lb,ab,n,h1.more (by omega),h2⟩,hr⟩
 exact(commit_done w h h0 hl hS he hK).mono fun e w' ⟨h1,h2,h3⟩=>⟨h1,⟨_,h2⟩,h3⟩
end
section
open Go.Shelf Go.Maps
attribute [local go_sem] Oper.semAt_some
theorem infoCell:(prog.info? 64).map (fun i=>(i.zero,i.size,i.bytes))=some (some (.agg #[.int .u8 0,.int .u8 0,.int .u8 0,.int .u8 0,.int .u8 0,.int .u8 0,.int .u8 0,.int .u8 0]),8,8):=by kernel_rfl
theorem made_zeros(n:Nat):madeCells (Value.agg #[.int .u8 0,.int .u8 0,.int .u8 0,.int .u8 0,.int .u8 0,.int .u8 0,.int .u8 0,.int .u8 0]).cells n=cellsB (List.replicate n 0):=by
 have hc:(Value.agg #[.int .u8 0,.int .u8 0,.int .u8 0,.int .u8 0,.int .u8 0,.int .u8 0,.int .u8 0,.int .u8 0]).cells=Array.replicate 8 (.int .u8 0):=by kernel_rfl
 rw[hc];unfold madeCells cellsB Lib.byteCells;apply Array.ext
 ·simp
 ·intro i h1 h2;simp only[Array.getElem_map,Array.getElem_range,List.getElem_toArray,List.getElem_map,List.getElem_replicate];rw[getElem!_pos _ _ (by simp;omega)];simp
theorem made_mem(n:Nat)(hn:n≤131072)(W:World):(Instr.makeSlice 65 (.int .i64 n) (.int .i64 n)).run prog W= .ok (.slice (some ⟨W.heap.size,0,none⟩) n n) (W.alloc (.cells (cellsB (List.replicate (n*8) 0)) 64)):=by
 obtain⟨i0,hi,hz0,hz1,hz2⟩:=info_parts infoCell;have:=run_makeSlice (P:=prog) (w:=W) 65 64 i0 _ underlying65 hi hz0 .i64 .i64 n n (by omega) (by omega) (by rw[hz1,Int.toNat_natCast];omega) (by rw[hz2];omega) (by omega)
 rw[hz1,Int.toNat_natCast,made_zeros]at this;exact this
theorem alloc4(w:World)(a b c d:Obj):((((w.alloc a).alloc b).alloc c).alloc d).drew.heap[w.heap.size]? =some a∧((((w.alloc a).alloc b).alloc c).alloc d).drew.heap[w.heap.size+1]? =some b∧((((w.alloc a).alloc b).alloc c).alloc d).drew.heap[w.heap.size+1+1]? =some c∧((((w.alloc a).alloc b).alloc c).alloc d).drew.heap[w.heap.size+1+1+1]? =some d:=by
 have hk:∀(W:World) (o:Obj) (k:Nat),k<W.heap.size→(W.alloc o).heap[k]? =W.heap[k]? :=fun W o k h=>((Below.refl W.heap.size W).alloc (Nat.le_refl _) o).block k h;have hd:∀(W:World) (k:Nat),W.drew.heap[k]? =W.heap[k]? :=fun _ _=>rfl;have n1:(w.alloc a).heap.size=w.heap.size+1:=by simp
 have n2:((w.alloc a).alloc b).heap.size=w.heap.size+1+1:=by simp
 have n3:(((w.alloc a).alloc b).alloc c).heap.size=w.heap.size+1+1+1:=by simp
 have e1:=heap_alloc_new w a;have e2:=heap_alloc_new (w.alloc a) b;have e3:=heap_alloc_new ((w.alloc a).alloc b) c;have e4:=heap_alloc_new (((w.alloc a).alloc b).alloc c) d;rw[n1]at e2;rw[n2]at e3;rw[n3]at e4;refine⟨?_,?_,?_,?_⟩
 ·rw[hd,hk _ _ _ (by omega),hk _ _ _ (by omega),hk _ _ _ (by omega)];exact e1
 ·rw[hd,hk _ _ _ (by omega),hk _ _ _ (by omega)];exact e2
 ·rw[hd,hk _ _ _ (by omega)];exact e3
 ·rw[hd];exact e4
theorem below4(w:World)(a b c d:Obj):Below w.heap.size w ((((w.alloc a).alloc b).alloc c).alloc d).drew:=
 (((((Below.refl w.heap.size w).alloc (Nat.le_refl _) a).alloc (by simp) b).alloc (by simp;omega) c).alloc (by simp;omega) d).drew
def NewMem(w:World)(n s:Nat)(e:Ending)(w':World):Prop:=∃m sb lb ab,e= .returned (.pointer (some ⟨m,0,none⟩))∧MemAt w' m sb lb ab n (List.replicate s 0) 0∧Below w.heap.size w w'∧LowAt m sb lb ab m w'.heap.size∧(w.heap.size≤m∧w.heap.size≤sb∧w.heap.size≤lb∧w.heap.size≤ab)
theorem new_fin{w W:World}{n s m sb lb ab:Nat}(h8:8≤n)(hn:n≤131072)(hm:n % 8=0)(hs:s=n*8)(hb:Below w.heap.size w W)(h:w.heap.size≤m∧w.heap.size≤sb∧w.heap.size≤lb∧w.heap.size≤ab)(hne:sb≠lb)
 (h1:W.heap[sb]? =some (.cells (cellsB (List.replicate s 0)) 64 (0,0)))(h2:W.heap[lb]? =some (.cells (cellsB (List.replicate s 0)) 64 (0,0)))(h3:W.heap[ab]? =some (.map #[] 0))
 (h4:W.heap[m]? =some (.cells #[.slice (some ⟨sb,0,none⟩) n n,.slice (some ⟨lb,0,none⟩) n n,.map (some ab)] 68 (0,0))):NewMem w n s (.returned (.pointer (some ⟨m,0,none⟩))) W:=by
 refine⟨m,sb,lb,ab,rfl,⟨⟨⟨n,h4⟩,⟨[],by rw[cellsT_nil];exact h1⟩,⟨_,0,.map [],⟨rfl,h2⟩,⟨Nat.le_refl _,?_,?_⟩,fun _ _ _=>Or.inl rfl⟩,by rw[List.length_replicate];exact hs,hn,hm,hne⟩,fun _=>h2⟩,hb,⟨lt_get h4,lt_get h1,lt_get h2,lt_get h3,lt_get h4⟩,h⟩
 ·have:=World.ownsMap_made w prog 3 (plainElem prog 4) (H:=Unit)
  obtain⟨es,ck,e1,e2⟩:=this;rw[heap_alloc_new]at e1
  cases e1
  exact⟨#[],0,h3,e2⟩
 ·intro kl h
  cases h
theorem pnew_any(n:Nat)(h8:8≤n)(hn:n≤131072)(hm:n % 8=0)(w:World):
 Calls prog 12 #[.int .i64 (n*8:Nat)] w (NewMem w n (n*8)):=by
 have hmk:=made_mem n hn;have hmm:∀W:World,(Instr.makeMap 66 none).run prog W= .ok (.map (some W.heap.size)) (W.alloc (.map #[] 0)):=fun _=>rfl;obtain⟨s,hs⟩:=nm (n*8);rw[←hs]at hmk⊢;have h1:¬(s:Int)<64:=by omega
 have h2:(s:Int)≤1048576:=by omega
 have h3:(s:Int) % 64=0:=by omega
 have h4:(s:Int)/8=n:=by omega
 have Hs:=hid hs;clear hs;go_enter func12,ntmps12;go_upto_region 4 with fail
 go_region
 all_goals
  (try simp only[Exit.then])
  (first|(refine(by assumption:∀(a:Act) (w:World),_) _ _ ?_)|skip)
  go_wp2;go_ret
  have A:=alloc4 w;have B:=below4 w;first
   |exact new_fin h8 hn hm Hs.o (B _ _ _ _) (by omega) (by omega) (A _ _ _ _).1 (A _ _ _ _).2.1 (A _ _ _ _).2.2.1 (A _ _ _ _).2.2.2
   |exact new_fin h8 hn hm Hs.o (B _ _ _ _) (by omega) (by omega) (A _ _ _ _).2.1 (A _ _ _ _).1 (A _ _ _ _).2.2.1 (A _ _ _ _).2.2.2
   |exact new_fin h8 hn hm Hs.o (B _ _ _ _) (by omega) (by omega) (A _ _ _ _).1 (A _ _ _ _).2.2.1 (A _ _ _ _).2.1 (A _ _ _ _).2.2.2
   |exact new_fin h8 hn hm Hs.o (B _ _ _ _) (by omega) (by omega) (A _ _ _ _).2.2.1 (A _ _ _ _).1 (A _ _ _ _).2.1 (A _ _ _ _).2.2.2
   |exact new_fin h8 hn hm Hs.o (B _ _ _ _) (by omega) (by omega) (A _ _ _ _).2.1 (A _ _ _ _).2.2.1 (A _ _ _ _).1 (A _ _ _ _).2.2.2
   |exact new_fin h8 hn hm Hs.o (B _ _ _ _) (by omega) (by omega) (A _ _ _ _).2.2.1 (A _ _ _ _).2.1 (A _ _ _ _).1 (A _ _ _ _).2.2.2
end
section
attribute [local go_sem] Oper.semAt_some
theorem and7:∀k:Fin 128,bits .and .i64 (k.val:Int) 7=((k.val % 8:Nat):Int):=by decide+kernel
theorem shl8:∀b:Fin 8,IntKind.u8.wrap ((2:Int)^min b.val 8)=((2^b.val:Nat):Int):=by decide+kernel
theorem place_yes(n:Nat)(h1:1≤n)(h2:n≤128)(w:World):Calls prog 141 #[.int .i64 n] w fun e w'=>e= .returned (.tuple #[.int .i64 ((n-1)/8:Nat),.int .u8 (Gd.bitOf n:Nat),.bool true])∧Below w.heap.size w w':=by
 obtain⟨k,rfl⟩:∃k,n=k+1:=⟨n-1,by omega⟩;have h3:¬((k:Int)+1<1):=by omega
 have h4:(k:Int)+1≤128:=by omega
 have h5:IntKind.i64.wrap (k:Int)=k:=by rw[IntKind.wrap_i64];omega
 obtain⟨b,hb⟩:=nm (k % 8);have h6:bits .and .i64 (k:Int) 7=(b:Int):=by rw[hb];exact and7 ⟨k,by omega⟩
 have h7:IntKind.u8.wrap ((2:Int)^min b 8)=((2^b:Nat):Int):=shl8 ⟨b,by omega⟩;have Hb:Hid (Gd.bitOf (k+1)=2^b):=hid (by rw[hb];rfl);rw[Hb.o,show k+1-1=k by omega];obtain⟨c,hc⟩:∃c:Nat,c=2^b:=⟨_,rfl⟩;rw[←hc]at h7⊢;obtain⟨d,hd⟩:=nm (k/8);rw[←hd];have h8:(k:Int)/8=(d:Int):=by omega
 clear hb hc hd h1 h2 Hb;go_enter func141,ntmps141;go_upto_region 3 with fail
 refine wp_region_held_drew (S:=(fun _=>True)) (by kernel_rfl) ?_ (fun hHeld=> ?_)
 ·exact trivial
 refine tk 0 ?_;refine tk 1 ?_;refine tk 2 ?_;refine tk 3 ?_;refine tk 4 ?_;refine tk 5 ?_;refine tk 6 ?_;refine tk 7 ?_;refine tk 8 ?_;refine tk 9 ?_;refine dn ?_
 (try simp only[Exit.then])
 go_wp2;go_ret3
 exact⟨rfl,(Below.refl _ _).drew⟩
end
def putCells2:Array Value→Nat→List Value→Array Value
 |C,_,[]=>C
 |C,o,v::r=>putCells2 (C.setIfInBounds o v) (o+1) r
theorem setCells_heap2(b:Nat)(t:TypeId):∀(vs:List Value) (o:Nat) (w:World) (C:Array Value),w.heap[b]? =some (.cells C t (0,0))→(w.setCells b o vs).heap[b]? =some (.cells (putCells2 C o vs) t (0,0))
 |[],_,_,_,h=>h
 |v::r,o,w,C,h=>by
  rw[World.setCells,putCells2];exact setCells_heap2 b t r (o+1) _ _ (Go.heap_setCell_same w b o C t v h)
theorem setCells_below2{B b:Nat}(hb:B≤b):∀(vs:List Value) (o:Nat) (a w:World),Below B a w→Below B a (w.setCells b o vs)
 |[],_,_,_,h=>h
 |v::r,o,a,w,h=>by
  rw[World.setCells];exact setCells_below2 hb r (o+1) a _ (h.setCell hb v)
theorem putCells2_toList:∀(vs:List Value) (o:Nat) (C:Array Value),o+vs.length≤C.size→(putCells2 C o vs).toList=C.toList.take o++vs++C.toList.drop (o+vs.length)
 |[],o,C,_=>by
  rw[putCells2,List.append_nil];exact(List.take_append_drop o C.toList).symm
 |v::r,o,C,h=>by
  rw[List.length_cons]at h;have hl:o<C.toList.length:=by simp;omega
  rw[putCells2,putCells2_toList r (o+1) _ (by rw[Array.size_setIfInBounds];omega),Array.toList_setIfInBounds,List.length_cons];rw[List.drop_set_of_lt (by omega),show o+1+r.length=o+(r.length+1) by omega,List.take_set,List.take_add_one,List.getElem?_eq_getElem hl];rw[List.set_append_right _ _ (by rw[List.length_take];omega)];rw[List.length_take,Nat.min_eq_left (Nat.le_of_lt hl),Nat.sub_self];simp
theorem putCells2_all{C:Array Value}{vs:List Value}(h:C.size=vs.length):putCells2 C 0 vs=vs.toArray:=by
 have:=putCells2_toList vs 0 C (by omega)
 rw[List.take_zero,List.nil_append,Nat.zero_add,List.drop_eq_nil_of_le (by simp;omega),List.append_nil]at this;rw[←Array.toList_inj,this]
theorem there_at{w:World}{b t n:Nat}{C:Array Value}(hg:w.heap[b]? =some (.cells C t (0,0)))(h:C.size=n):w.there b 0 n:=fun j hj=>by
 rw[Nat.zero_add];refine⟨?_,frozen_of_row _ _ _ _ t hg⟩;have:C[j]? =some C[j]:=Array.getElem?_eq_getElem (by omega)
 rw[cell_of_row _ _ j C t _ hg,this];rfl
theorem whole_at{w:World}{b t B:Nat}{C:Array Value}{vs:List Value}(hg:w.heap[b]? =some (.cells C t (0,0)))(h:C.size=vs.length)(hB:B≤b):
 Below B w (w.setCells b 0 vs)∧(w.setCells b 0 vs).heap[b]? =some (.cells vs.toArray t (0,0)):=by
 refine⟨setCells_below2 hB vs 0 w _ (Below.refl _ w),?_⟩;rw[setCells_heap2 _ t vs 0 _ C hg,putCells2_all h]
theorem results_row_tmp{P:Program}{fn:Func}{p u:Tmp}{ty:TypeId}(h:fn.results=#[.cell p ty,.tmp u])(tmps:Array Value)(w:World)(g:Nat)(t:TypeId)(cs:Array Value)(fr:Nat×Nat)(d:TypeDesc)
 (hp:tmps.getD p undef= .pointer (some ⟨g,0,none⟩))(hg:w.heap[g]? =some (.cells cs t fr))
 (hu:P.underlying ty=some d)(hd:(match d with| .struct _| .array _ _=>true|_=>false)=true)(hi:(P.info? ty).map (·.size)=some cs.size):
 (results fn tmps).run P w= .ok (.tuple #[.agg cs,tmps.getD u undef]) w:=by
 have hp':tmps[p]?.getD undef= .pointer (some ⟨g,0,none⟩):=by simpa using hp
 simp[results,h,hp',asAddr,run_loadVar_row w g t ty cs fr d hg hu hd hi]
section
attribute [local go_sem] Oper.semAt_some
theorem and8:∀(c:Fin 256) (b:Fin 8),bits .and .u8 (c.val:Int) ((2^b.val:Nat):Int)=((c.val&&& 2^b.val:Nat):Int):=by decide+kernel
theorem or8:∀(c:Fin 256) (b:Fin 8),bits .or .u8 (c.val:Int) ((2^b.val:Nat):Int)=((c.val|||2^b.val:Nat):Int):=by decide+kernel
theorem andNot8:∀(c:Fin 256) (b:Fin 8),bits .andNot .u8 (c.val:Int) ((2^b.val:Nat):Int)=((c.val&&& (255-2^b.val):Nat):Int):=by decide+kernel
theorem less8:∀c:Fin 256,c.val≠0→bits .and .u8 (c.val:Int) (IntKind.u8.wrap ((c.val:Int)-1))=((c.val&&& (c.val-1):Nat):Int):=by decide+kernel
def mapV(m:List UInt8):Value:= .agg (cellsB m)
theorem sizeMap:(prog.info? 107).map (fun i=>i.size)=some 16:=by kernel_rfl
theorem map_get{m:List UInt8}(hm:m.length=16){n:Nat}(h1:1≤n)(h2:n≤128):∃x,m[(n-1)/8]? =some x∧x.toNat=Gd.byteAt m n:=by
 refine⟨_,List.getElem?_eq_getElem (by omega),?_⟩;unfold Gd.byteAt;rw[List.getD_eq_getElem?_getD,List.getElem?_eq_getElem (by omega)];rfl
theorem used_any(m:List UInt8)(hm:m.length=16)(n:Int)(w:World):Calls prog 193 #[mapV m,.int .i64 n] w fun e w'=>e= .returned (.bool (Gd.usedI m n))∧Below w.heap.size w w':=by
 cases hb:Gd.isBlk n with
 |false=>
  have HN:=hid (place_no n hb);have hu:Gd.usedI m n=false:=by unfold Gd.usedI;rw[hb];rfl
  rw[hu];unfold mapV;go_enter func193,ntmps193;go_wp2_with(go_at_call 141;refine(HN.o _).mono ?_;rintro e w1 ⟨rfl,rfl⟩)
  go_ret
  exact⟨rfl,(Below.refl _ _).alloc (Nat.le_refl _) _⟩
 |true=>
  obtain⟨k,rfl⟩:∃k:Nat,n=k:=⟨n.toNat,by unfold Gd.isBlk at hb;simp at hb;omega⟩;have hk:1≤k∧k≤128:=by unfold Gd.isBlk at hb;simp at hb;omega
  obtain⟨x,hx,hxe⟩:=map_get hm hk.1 hk.2;obtain⟨i,hi⟩:=nm ((k-1)/8);rw[←hi]at hx;have hu:Gd.usedI m (k:Int)=(x.toNat&&& Gd.bitOf k !=0):=by
   unfold Gd.usedI Gd.usedB;rw[hb,Int.toNat_natCast,hxe];rfl
  have ha:=and8 ⟨x.toNat,x.toNat_lt⟩ ⟨(k-1) % 8,Gd.bit8 k⟩;change bits .and .u8 (x.toNat:Int) ((Gd.bitOf k:Nat):Int)=((x.toNat&&& Gd.bitOf k:Nat):Int)at ha;have HPl:=hid fun W=>place_yes k hk.1 hk.2 W;rw[←hi]at HPl;obtain⟨wb,hwb⟩:=nm (w.alloc (.cells (cellsB m) 107));have hbb:Below w.heap.size w wb:=by rw[hwb];exact(Below.refl _ _).alloc (Nat.le_refl _) _
  have hbc:wb.heap[w.heap.size]? =some (.cells (cellsB m) 107 (0,0)):=by rw[hwb];exact heap_alloc_new _ _
  obtain⟨mb,hmb⟩:=nm w.heap.size;rw[←hmb]at hbc;have Hmb:=hid hmb.symm;have HBb:=hid hbb;have HWb:=hid hwb;have Hbc:=hid hbc;rw[hu];obtain⟨y,hy⟩:∃y:Nat,y=x.toNat&&& Gd.bitOf k:=⟨_,rfl⟩;rw[←hy]at ha⊢;obtain⟨bt,hbt⟩:∃bt:Nat,bt=Gd.bitOf k:=⟨_,rfl⟩;rw[←hbt]at ha HPl;have hi16:i<16:=by omega
  have Hx:=hid hx;clear hb hx hxe hi hu hmb hbb hwb hbc hy hbt;unfold mapV;go_enter func193,ntmps193;go_upto_region 1 with fail
  rw[←HWb.o,Hmb.o];go_wp2_with fail
  refine(HPl.o wb).mono ?_
  rintro e w1 ⟨rfl,hb1⟩;have hc:=(cell_of_row w1 mb i _ _ _ ((hb1.block mb (lt_get Hbc.o)).trans Hbc.o)).trans (cellsB_get Hx.o);have HB1:=HBb.t hb1;clear hb1;go_wp2;go_ret
  refine⟨ret_bool ?_,HB1.o⟩;rw[Bool.eq_iff_iff];simp
theorem cellsB_one(m:List UInt8):(cellsB m).all (·.oneCell')=true:=by
 unfold cellsB;rw[Array.all_eq_true_iff_forall_mem];intro u hu;exact byteCells_one m u (by simpa using hu)
theorem take_any(m:List UInt8)(hm:m.length=16)(n:Int)(w:World):Calls prog 181 #[mapV m,.int .i64 n] w fun e w'=>e= .returned (mapV (Gd.takeI m n))∧Below w.heap.size w w':=by
 have hsz:(cellsB m).size=16:=by unfold cellsB;rw[List.size_toArray,byteCells_len];exact hm
 obtain⟨Z,hZ⟩:∃Z:Array Value,Z=#[.int .u8 0,.int .u8 0,.int .u8 0,.int .u8 0,.int .u8 0,.int .u8 0,.int .u8 0,.int .u8 0,.int .u8 0,.int .u8 0,.int .u8 0,.int .u8 0,.int .u8 0,.int .u8 0,.int .u8 0,.int .u8 0]:=⟨_,rfl⟩;have hZs:Z.size=16:=by rw[hZ];rfl
 obtain⟨mb,hmb⟩:=nm w.heap.size;obtain⟨wb,hwb⟩:=nm ((w.alloc (.cells (cellsB m) 107)).alloc (.cells Z 107));have hbb:Below w.heap.size w wb:=by rw[hwb];exact((Below.refl _ _).alloc (Nat.le_refl _) _).alloc (by simp) _
 have hbc:wb.heap[mb]? =some (.cells (cellsB m) 107 (0,0)):=by rw[hwb,hmb];exact CellsAt.alloc (heap_alloc_new w _) _
 have hbr:wb.heap[mb+1]? =some (.cells Z 107 (0,0)):=by
  have:=heap_alloc_new (w.alloc (.cells (cellsB m) 107)) (.cells Z 107)
  rw[World.size_alloc]at this;rw[hwb,hmb];exact this
 have Hmb:=hid hmb.symm;have HBb:=hid hbb;have HWb:=hid hwb;have Hbc:=hid hbc;have Hbr:=hid hbr;have HZ:=hid hZ;have HZs:=hid hZs;have HS:=hid hsz;clear hsz hZ hZs hmb hbb hwb hbc hbr
 cases hb:Gd.isBlk n with
 |false=>
  have HN:=hid (place_no n hb);have hu:Gd.takeI m n=m:=by unfold Gd.takeI;rw[hb];rfl
  rw[hu];unfold mapV;clear hb hu;go_enter func181,ntmps181;go_upto_region 1 with fail
  rw[←HZ.o,←HWb.o,Hmb.o];go_upto_region 4 with(go_at_call 141;refine(HN.o _).mono ?_;rintro e w1 ⟨rfl,rfl⟩)
  go_wp2_with(first|(refine wpList_load_row rfl 107 _ rfl mb rfl 107 (cellsB m) (0,0) _ Hbc.o underlying107 rfl (by rw[HS.o];exact sizeMap) ?_)|(refine wpList_store_mid rfl 107 _ _ rfl (mb+1) 0 (cellsB m) rfl rfl (there_at Hbr.o (by rw[HZs.o,HS.o])) (by rw[HS.o];exact sizeMap) (cellsB_one m) ?_;obtain⟨hbw,hbg⟩:=whole_at Hbr.o (vs:=(cellsB m).toList) (B:=mb) (by rw[HZs.o,Array.length_toList,HS.o]) (Nat.le_succ mb);generalize (World.setCells _ _ _ _)=wf at hbw hbg⊢))
  refine bodyPost_ret (results_cell_row rfl _ _ (mb+1) 107 (cellsB m) (0,0) _ rfl hbg underlying107 rfl (by rw[HS.o];exact sizeMap)) rfl ?_;exact⟨rfl,HBb.o.trans (by rw[Hmb.o];exact hbw)⟩
 |true=>
  obtain⟨k,rfl⟩:∃k:Nat,n=k:=⟨n.toNat,by unfold Gd.isBlk at hb;simp at hb;omega⟩;have hk:1≤k∧k≤128:=by unfold Gd.isBlk at hb;simp at hb;omega
  obtain⟨x,hx,hxe⟩:=map_get hm hk.1 hk.2;obtain⟨i,hi⟩:=nm ((k-1)/8);rw[←hi]at hx;have ha:=or8 ⟨x.toNat,x.toNat_lt⟩ ⟨(k-1) % 8,Gd.bit8 k⟩;change bits .or .u8 (x.toNat:Int) ((Gd.bitOf k:Nat):Int)=_ at ha;obtain⟨y,hy⟩:∃y:UInt8,(bits .or .u8 (x.toNat:Int) ((Gd.bitOf k:Nat):Int)=y.toNat)∧Gd.takeI m (k:Int)=m.set i y:=by
   refine⟨UInt8.ofNat (x.toNat|||Gd.bitOf k),?_,?_⟩
   ·rw[ha,UInt8.toNat_ofNat'];congr 1
    exact(Nat.mod_eq_of_lt (Gd.or_lt ⟨x.toNat,x.toNat_lt⟩ ⟨(k-1) % 8,Gd.bit8 k⟩)).symm
   ·unfold Gd.takeI Gd.takeB;rw[hb,Int.toNat_natCast,←hxe,←hi];rfl
  have HPl:=hid fun W=>place_yes k hk.1 hk.2 W;rw[←hi]at HPl;rw[hy.2];have hy1:=hy.1;obtain⟨bt,hbt⟩:∃bt:Nat,bt=Gd.bitOf k:=⟨_,rfl⟩;rw[←hbt]at hy1 HPl;have hi16:i<16:=by omega
  have Hx:=hid hx;have HS2:Hid ((cellsB (m.set i y)).size=16):=hid (by unfold cellsB;rw[List.size_toArray,byteCells_len,List.length_set];exact hm);clear hb hx hxe hi hbt hy ha;unfold mapV;go_enter func181,ntmps181;go_upto_region 1 with fail
  rw[←HZ.o,←HWb.o,Hmb.o];go_wp2_with fail
  refine(HPl.o wb).mono ?_
  rintro e w1 ⟨rfl,hb1⟩;have hm1:=(hb1.block mb (lt_get Hbc.o)).trans Hbc.o;have hr1:=(hb1.block (mb+1) (lt_get Hbr.o)).trans Hbr.o;have HB1:=HBb.t hb1;have hc:=(cell_of_row w1 mb i _ _ _ hm1).trans (cellsB_get Hx.o);have hf:=frozen_of_row w1 mb i _ _ hm1;obtain⟨w2,hw2⟩:=nm (w1.setCell ⟨mb,i,none⟩ (.int .u8 y.toNat));have hm2:w2.heap[mb]? =some (.cells (cellsB (m.set i y)) 107 (0,0)):=by
   rw[hw2,←cellsB_set];exact Go.heap_setCell_same w1 mb i _ _ _ hm1
  have hr2:w2.heap[mb+1]? =some (.cells Z 107 (0,0)):=by rw[hw2];exact(Go.heap_setCell_other w1 ⟨mb,i,none⟩ (mb+1) _ (by simp)).trans hr1
  have HB2:Hid (Below w.heap.size w w2):=hid (by rw[hw2];exact HB1.o.setCell (by rw[Hmb.o];exact Nat.le_refl _) _);have Hm2:=hid hm2;have Hr2:=hid hr2;have HW2:=hid hw2;clear hb1 hm1 hr1 hw2 hm2 hr2;go_upto_region 4 with fail
  rw[←HW2.o];go_wp2_with(first|(refine wpList_load_row rfl 107 _ rfl mb rfl 107 (cellsB (m.set i y)) (0,0) _ Hm2.o underlying107 rfl (by rw[HS2.o];exact sizeMap) ?_)|(refine wpList_store_mid rfl 107 _ _ rfl (mb+1) 0 (cellsB (m.set i y)) rfl rfl (there_at Hr2.o (by rw[HZs.o,HS2.o])) (by rw[HS2.o];exact sizeMap) (cellsB_one _) ?_;obtain⟨hbw,hbg⟩:=whole_at Hr2.o (vs:=(cellsB (m.set i y)).toList) (B:=mb) (by rw[HZs.o,Array.length_toList,HS2.o]) (Nat.le_succ mb);generalize (World.setCells _ _ _ _)=wf at hbw hbg⊢))
  refine bodyPost_ret (results_cell_row rfl _ _ (mb+1) 107 (cellsB (m.set i y)) (0,0) _ rfl hbg underlying107 rfl (by rw[HS2.o];exact sizeMap)) rfl ?_;exact⟨rfl,HB2.o.trans (by rw[Hmb.o];exact hbw)⟩
theorem give_any(m:List UInt8)(hm:m.length=16)(n:Int)(w:World):Calls prog 111 #[mapV m,.int .i64 n] w fun e w'=>e= .returned (mapV (Gd.giveI m n))∧Below w.heap.size w w':=by
 have hsz:(cellsB m).size=16:=by unfold cellsB;rw[List.size_toArray,byteCells_len];exact hm
 obtain⟨Z,hZ⟩:∃Z:Array Value,Z=#[.int .u8 0,.int .u8 0,.int .u8 0,.int .u8 0,.int .u8 0,.int .u8 0,.int .u8 0,.int .u8 0,.int .u8 0,.int .u8 0,.int .u8 0,.int .u8 0,.int .u8 0,.int .u8 0,.int .u8 0,.int .u8 0]:=⟨_,rfl⟩;have hZs:Z.size=16:=by rw[hZ];rfl
 obtain⟨mb,hmb⟩:=nm w.heap.size;obtain⟨wb,hwb⟩:=nm ((w.alloc (.cells (cellsB m) 107)).alloc (.cells Z 107));have hbb:Below w.heap.size w wb:=by rw[hwb];exact((Below.refl _ _).alloc (Nat.le_refl _) _).alloc (by simp) _
 have hbc:wb.heap[mb]? =some (.cells (cellsB m) 107 (0,0)):=by rw[hwb,hmb];exact CellsAt.alloc (heap_alloc_new w _) _
 have hbr:wb.heap[mb+1]? =some (.cells Z 107 (0,0)):=by
  have:=heap_alloc_new (w.alloc (.cells (cellsB m) 107)) (.cells Z 107)
  rw[World.size_alloc]at this;rw[hwb,hmb];exact this
 have Hmb:=hid hmb.symm;have HBb:=hid hbb;have HWb:=hid hwb;have Hbc:=hid hbc;have Hbr:=hid hbr;have HZ:=hid hZ;have HZs:=hid hZs;have HS:=hid hsz;clear hsz hZ hZs hmb hbb hwb hbc hbr
 cases hb:Gd.isBlk n with
 |false=>
  have HN:=hid (place_no n hb);have hu:Gd.giveI m n=m:=by unfold Gd.giveI;rw[hb];rfl
  rw[hu];unfold mapV;clear hb hu;go_enter func111,ntmps111;go_upto_region 1 with fail
  rw[←HZ.o,←HWb.o,Hmb.o];go_upto_region 4 with(go_at_call 141;refine(HN.o _).mono ?_;rintro e w1 ⟨rfl,rfl⟩)
  go_wp2_with(first|(refine wpList_load_row rfl 107 _ rfl mb rfl 107 (cellsB m) (0,0) _ Hbc.o underlying107 rfl (by rw[HS.o];exact sizeMap) ?_)|(refine wpList_store_mid rfl 107 _ _ rfl (mb+1) 0 (cellsB m) rfl rfl (there_at Hbr.o (by rw[HZs.o,HS.o])) (by rw[HS.o];exact sizeMap) (cellsB_one m) ?_;obtain⟨hbw,hbg⟩:=whole_at Hbr.o (vs:=(cellsB m).toList) (B:=mb) (by rw[HZs.o,Array.length_toList,HS.o]) (Nat.le_succ mb);generalize (World.setCells _ _ _ _)=wf at hbw hbg⊢))
  refine bodyPost_ret (results_cell_row rfl _ _ (mb+1) 107 (cellsB m) (0,0) _ rfl hbg underlying107 rfl (by rw[HS.o];exact sizeMap)) rfl ?_;exact⟨rfl,HBb.o.trans (by rw[Hmb.o];exact hbw)⟩
 |true=>
  obtain⟨k,rfl⟩:∃k:Nat,n=k:=⟨n.toNat,by unfold Gd.isBlk at hb;simp at hb;omega⟩;have hk:1≤k∧k≤128:=by unfold Gd.isBlk at hb;simp at hb;omega
  obtain⟨x,hx,hxe⟩:=map_get hm hk.1 hk.2;obtain⟨i,hi⟩:=nm ((k-1)/8);rw[←hi]at hx;have ha:=andNot8 ⟨x.toNat,x.toNat_lt⟩ ⟨(k-1) % 8,Gd.bit8 k⟩;change bits .andNot .u8 (x.toNat:Int) ((Gd.bitOf k:Nat):Int)=_ at ha;obtain⟨y,hy⟩:∃y:UInt8,(bits .andNot .u8 (x.toNat:Int) ((Gd.bitOf k:Nat):Int)=y.toNat)∧Gd.giveI m (k:Int)=m.set i y:=by
   refine⟨UInt8.ofNat (x.toNat&&& (255-Gd.bitOf k)),?_,?_⟩
   ·rw[ha,UInt8.toNat_ofNat'];congr 1
    exact(Nat.mod_eq_of_lt (Gd.and_lt ⟨x.toNat,x.toNat_lt⟩ ⟨(k-1) % 8,Gd.bit8 k⟩)).symm
   ·unfold Gd.giveI Gd.giveB;rw[hb,Int.toNat_natCast,←hxe,←hi];rfl
  have HPl:=hid fun W=>place_yes k hk.1 hk.2 W;rw[←hi]at HPl;rw[hy.2];have hy1:=hy.1;obtain⟨bt,hbt⟩:∃bt:Nat,bt=Gd.bitOf k:=⟨_,rfl⟩;rw[←hbt]at hy1 HPl;have hi16:i<16:=by omega
  have Hx:=hid hx;have HS2:Hid ((cellsB (m.set i y)).size=16):=hid (by unfold cellsB;rw[List.size_toArray,byteCells_len,List.length_set];exact hm);clear hb hx hxe hi hbt hy ha;unfold mapV;go_enter func111,ntmps111;go_upto_region 1 with fail
  rw[←HZ.o,←HWb.o,Hmb.o];go_wp2_with fail
  refine(HPl.o wb).mono ?_
  rintro e w1 ⟨rfl,hb1⟩;have hm1:=(hb1.block mb (lt_get Hbc.o)).trans Hbc.o;have hr1:=(hb1.block (mb+1) (lt_get Hbr.o)).trans Hbr.o;have HB1:=HBb.t hb1;have hc:=(cell_of_row w1 mb i _ _ _ hm1).trans (cellsB_get Hx.o);have hf:=frozen_of_row w1 mb i _ _ hm1;obtain⟨w2,hw2⟩:=nm (w1.setCell ⟨mb,i,none⟩ (.int .u8 y.toNat));have hm2:w2.heap[mb]? =some (.cells (cellsB (m.set i y)) 107 (0,0)):=by
   rw[hw2,←cellsB_set];exact Go.heap_setCell_same w1 mb i _ _ _ hm1
  have hr2:w2.heap[mb+1]? =some (.cells Z 107 (0,0)):=by rw[hw2];exact(Go.heap_setCell_other w1 ⟨mb,i,none⟩ (mb+1) _ (by simp)).trans hr1
  have HB2:Hid (Below w.heap.size w w2):=hid (by rw[hw2];exact HB1.o.setCell (by rw[Hmb.o];exact Nat.le_refl _) _);have Hm2:=hid hm2;have Hr2:=hid hr2;have HW2:=hid hw2;clear hb1 hm1 hr1 hw2 hm2 hr2;go_upto_region 4 with fail
  rw[←HW2.o];go_wp2_with(first|(refine wpList_load_row rfl 107 _ rfl mb rfl 107 (cellsB (m.set i y)) (0,0) _ Hm2.o underlying107 rfl (by rw[HS2.o];exact sizeMap) ?_)|(refine wpList_store_mid rfl 107 _ _ rfl (mb+1) 0 (cellsB (m.set i y)) rfl rfl (there_at Hr2.o (by rw[HZs.o,HS2.o])) (by rw[HS2.o];exact sizeMap) (cellsB_one _) ?_;obtain⟨hbw,hbg⟩:=whole_at Hr2.o (vs:=(cellsB (m.set i y)).toList) (B:=mb) (by rw[HZs.o,Array.length_toList,HS2.o]) (Nat.le_succ mb);generalize (World.setCells _ _ _ _)=wf at hbw hbg⊢))
  refine bodyPost_ret (results_cell_row rfl _ _ (mb+1) 107 (cellsB (m.set i y)) (0,0) _ rfl hbg underlying107 rfl (by rw[HS2.o];exact sizeMap)) rfl ?_;exact⟨rfl,HB2.o.trans (by rw[Hmb.o];exact hbw)⟩
end
section
attribute [local go_sem] Oper.semAt_some
theorem cellsB_len{m:List UInt8}(hm:m.length=16):(cellsB m).size=16:=by unfold cellsB;rw[List.size_toArray,byteCells_len];exact hm
theorem below_new(w:World)(C:Array Value)(t:TypeId):Below w.heap.size w (w.alloc (.cells C t))∧(w.alloc (.cells C t)).heap[w.heap.size]? =some (.cells C t (0,0)):=⟨(Below.refl _ _).alloc (Nat.le_refl _) _,heap_alloc_new _ _⟩
theorem first_any(m:List UInt8)(hm:m.length=16)(w:World):Calls prog 179 #[mapV m,.int .i64 1] w fun e w'=>e= .returned (.int .i64 (Gd.firstB m))∧Below w.heap.size w w':=by
 have HS:=hid (cellsB_len hm);have HU:=hid (used_any m hm);obtain⟨hbb,hbc⟩:=below_new w (cellsB m) 107;obtain⟨mb,hmb⟩:=nm w.heap.size;obtain⟨wb,hwb⟩:=nm (w.alloc (.cells (cellsB m) 107));rw[←hwb,←hmb]at hbc;rw[←hwb]at hbb;have Hmb:=hid hmb.symm;have HBb:=hid hbb;have HWb:=hid hwb;have Hbc:=hid hbc;have HF:Hid (Gd.firstB m=Gd.firstFrom m 128 1):=hid rfl;obtain⟨R,hR⟩:=nm (Gd.firstB m);rw[←hR]at HF⊢;clear hmb hbb hwb hbc hR;unfold mapV at*;go_enter func179,ntmps179;go_upto_region 2 with fail
 rw[←HWb.o,Hmb.o];go_loopw[5] (fun u wr=>∃n:Nat,u= .int .i64 n∧1≤n∧n≤129∧Hid (R=Gd.firstFrom m (129-n) n)∧Hid (Below w.heap.size w wr∧Below wb.heap.size wb wr)) (fun u _=>129-(intOf u).toNat)
 case atStart=>exact⟨1,rfl,by omega,by omega,HF,hid ⟨HBb.o,Below.refl _ _⟩⟩
 case round=>
  obtain⟨n,rfl,hn1,hn2,HR,HB⟩:=hrel;by_cases hlt:n≤128
  ·have h1:(n:Int)≤128:=by omega
   have hc:=(HB.o.2.block mb (lt_get Hbc.o)).trans Hbc.o;have Hc:=hid hc;have hui:Gd.usedI m (n:Int)=Gd.usedB m n:=by
    unfold Gd.usedI Gd.isBlk;rw[Int.toNat_natCast,decide_eq_true (by omega),decide_eq_true (by omega)];rfl
   have HU2:=hid (HU.o (n:Int) wr);rw[hui]at HU2;have HR2:Hid (R=if Gd.usedB m n=true then Gd.firstFrom m (129-(n+1)) (n+1)else n):=hid (by
    rw[HR.o,show 129-n=(129-(n+1))+1 by omega,Gd.firstFrom])
   obtain⟨b,hb⟩:=nm (Gd.usedB m n);rw[←hb]at HU2 HR2;clear hc hui hb
   cases b with
   |true=>
    go_wp2_with(first|(refine wpList_load_row rfl 107 _ rfl mb rfl 107 (cellsB m) (0,0) _ Hc.o underlying107 rfl (by rw[HS.o];exact sizeMap) ?_)|(go_at_call 193;refine HU2.o.mono ?_;rintro e w2 ⟨rfl,hb2⟩))
    have HB2:Hid (Below w.heap.size w w2∧Below wb.heap.size wb w2):=hid ⟨HB.o.1.trans (hb2.mono HB.o.1.size),HB.o.2.trans (hb2.mono HB.o.2.size)⟩;go_roundw
    case rel=>exact⟨n+1,by go_num,by omega,by omega,hid (by rw[HR2.o];simp),HB2⟩
    case measure=>simp[intOf];omega
   |false=>
    go_wp2_with(first|(refine wpList_load_row rfl 107 _ rfl mb rfl 107 (cellsB m) (0,0) _ Hc.o underlying107 rfl (by rw[HS.o];exact sizeMap) ?_)|(go_at_call 193;refine HU2.o.mono ?_;rintro e w2 ⟨rfl,hb2⟩))
    have HB2:Hid (Below w.heap.size w w2):=hid (HB.o.1.trans (hb2.mono HB.o.1.size));go_ret
    refine⟨ret_int ?_,HB2.o⟩;rw[HR2.o,if_neg (by simp)]
  ·obtain rfl:n=129:=by omega
   clear hlt;go_wp2;go_ret
   refine⟨ret_int ?_,HB.o.1⟩;rw[HR.o];rfl
theorem run_index_one{P:Program}(t e:TypeId)(n:Nat)(cs:Array Value)(k q:IntKind)(i:Nat)(v:Value)(w:World)(h:P.underlying t=some (.array n e))(he:P.underlying e=some (.int q))(hs:(P.info? e).map (·.size)=some 1)(hi:i<n)(hv:cs[i]? =some v):
 (Instr.index t (.agg cs) (.int k (i:Int))).run P w= .ok v w:=by
 have hn:(0:Int)≤i∧(i:Int)<(n:Int):=by omega
 cases hq:P.info? e with
 |none=>simp[hq]at hs
 |some j=>
  have hj:j.size=1:=by simpa [hq]using hs
  simp[Instr.index,run_underlying h,asIntOf,hn,part,isAgg,run_underlying he,sizeOf,typeInfo,hq,hj,hv,go_sem];intro hh;omega
def cntTo(m:List UInt8)(i:Nat):Nat:=((m.take i).map fun c=>Gd.cnt c.toNat).sum
theorem cntTo_next{m:List UInt8}{i:Nat}{x:UInt8}(h:m[i]? =some x):cntTo m (i+1)=cntTo m i+Gd.cnt x.toNat:=by
 unfold cntTo;rw[List.take_add_one,h];simp
theorem cntTo_le(m:List UInt8)(i:Nat):cntTo m i≤8*i:=by
 induction i with
 |zero=>simp[cntTo]
 |succ i ih=>
  cases hx:m[i]? with
  |none=>
   have:m.take (i+1)=m.take i:=by rw[List.take_add_one,hx];simp
   unfold cntTo at*;rw[this];omega
  |some x=>
   rw[cntTo_next hx];have:=Gd.cnt_le ⟨x.toNat,x.toNat_lt⟩
   dsimp only at this;omega
theorem count_any(m:List UInt8)(hm:m.length=16)(w:World):Calls prog 180 #[mapV m] w fun e w'=>e= .returned (.int .i64 (Gd.countB m))∧Below w.heap.size w w':=by
 have HS:=hid (cellsB_len hm);obtain⟨hbb,hbc⟩:=below_new w (cellsB m) 107;obtain⟨mb,hmb⟩:=nm w.heap.size;obtain⟨wb,hwb⟩:=nm (w.alloc (.cells (cellsB m) 107));rw[←hwb,←hmb]at hbc;rw[←hwb]at hbb;have Hmb:=hid hmb.symm;have HBb:=hid hbb;have HWb:=hid hwb;have Hbc:=hid hbc;have Hm:=hid hm;clear hmb hbb hwb hbc hm;unfold mapV at*;go_enter func180,ntmps180;go_upto_region 2 with fail
 rw[←HWb.o,Hmb.o];go_upto_region 3 with(refine wpList_load_row rfl 107 _ rfl mb rfl 107 (cellsB m) (0,0) _ Hbc.o underlying107 rfl (by rw[HS.o];exact sizeMap) ?_)
 go_loopw[3,7] (fun u z wr=>∃i:Nat,z= .int .i64 i∧i≤16∧u= .int .i64 (cntTo m i)∧wr=wb) (fun _ z _=>16-(intOf z).toNat)
 case atStart=>exact⟨0,rfl,by omega,rfl,rfl⟩
 case round=>
  obtain⟨i,rfl,hi,rfl,rfl⟩:=hrel;by_cases hlt:i<16
  ·obtain⟨x,hx⟩:∃x,m[i]? =some x:=⟨_,List.getElem?_eq_getElem (by have:=Hm.o;omega)⟩;have hc:=run_index_one 107 5 16 (cellsB m) .i64 .u8 i _ wr underlying107 underlying5 infoU8s hlt (cellsB_get hx);have h1:(i:Int)<16:=by omega
   have h0:(0:Int)≤i:=by omega
   have HX:=hid (cntTo_next hx);have HLe:=hid (cntTo_le m (i+1));obtain⟨T,hT⟩:=nm (cntTo m (i+1));rw[←hT]at HX HLe;have HT:=hid hT;obtain⟨M0,hM0⟩:=nm (cntTo m i);rw[←hM0]at HX⊢;have hxl:=x.toNat_lt;obtain⟨c0,hc0⟩:=nm x.toNat;rw[←hc0]at HX hxl hc;clear hx hT hM0 hc0 hlt;go_wp2;go_loopw[3,5] (fun u y wx=>∃M c:Nat,u= .int .i64 M∧y= .int .u8 c∧c<256∧Hid (T=M+Gd.cnt c)∧wx=wr) (fun _ y _=>(intOf y).toNat)
   case atStart=>exact⟨M0,c0,rfl,rfl,hxl,HX,rfl⟩
   case round=>
    obtain⟨M,c,rfl,rfl,hcl,HM,rfl⟩:=hrel;by_cases hz:c=0
    ·subst hz;have HM2:Hid (M=T):=hid (by rw[HM.o];rfl);go_wp2;go_roundw
     case rel=>exact⟨i+1,by go_num,by omega,by rw[HM2.o,HT.o],trivial⟩
     case measure=>simp[intOf];omega
    ·have h2:(c:Int)≠0:=by omega
     have h3:=less8 ⟨c,hcl⟩ hz;have h4:IntKind.u8.wrap ((c:Int)-1)=(c:Int)-1:=by
      rw[show IntKind.u8.wrap ((c:Int)-1)=((c:Int)-1) % 256 from rfl];omega
     have HSt:Hid (Gd.cnt c=1+Gd.cnt (c&&& (c-1))):=hid (Gd.cnt_step ⟨c,hcl⟩ hz);have hle:c&&& (c-1)≤c-1:=Nat.and_le_right;dsimp only at h3;rw[h4]at h3;obtain⟨d,hd⟩:=nm (c&&& (c-1));rw[←hd]at h3 HSt hle;have hM8:(M:Int)≤1000:=by have:=HM.o;have:=HLe.o;omega
     clear hd;go_wp2;go_roundw
     case rel=>exact⟨M+1,d,by go_num,rfl,by omega,hid (by rw[HM.o,HSt.o];omega),trivial⟩
     case measure=>simp[intOf];omega
  ·obtain rfl:i=16:=by omega
   clear hlt;go_wp2;go_ret
   refine⟨ret_int ?_,HBb.o⟩;unfold cntTo Gd.countB;rw[List.take_of_length_le (by have:=Hm.o;omega)]
theorem bytesm_any(m:List UInt8)(hm:m.length=16)(w:World):Calls prog 88 #[mapV m] w (GivesB w m):=by
 obtain⟨hbb,hbc⟩:=below_new w (cellsB m) 107;obtain⟨mb,hmb⟩:=nm w.heap.size;obtain⟨wb,hwb⟩:=nm (w.alloc (.cells (cellsB m) 107));rw[←hwb,←hmb]at hbc;rw[←hwb]at hbb;have HBy:Hid (BytesAt wb (.slice (some ⟨mb,0,none⟩) 16 16) m):=hid ⟨_,16,by rw[hm],Or.inr ⟨mb,0,rfl,lt_get hbc,fun j x hx=>by rw[Nat.zero_add];exact(cell_of_row wb mb j _ _ _ hbc).trans (cellsB_get hx)⟩⟩;have Hmb:=hid hmb.symm;have HBb:=hid hbb;have HWb:=hid hwb;have Hm:=hid hm;clear hmb hbb hwb hbc hm;unfold mapV at*;go_enter func88,ntmps88;go_upto_region 1 with fail
 rw[←HWb.o,Hmb.o];go_wp2_with(at_builtin;refine app_bytes rfl _ _ rfl w.heap.size (.slice none 0 0) [] wb rfl (ownB_nil _ _) _ m HBy.o rfl (by have:=Hm.o;simp;omega) HBb.o.size ?_;intro v' w' ho' hb')
 have HO:=hid ho';have HB:=hid (HBb.o.trans hb');clear ho' hb';go_wp2;go_ret
 exact⟨_,rfl,HO.o,HB.o⟩
theorem readm_any(v:Value)(L:List UInt8)(B:Nat)(w:World)(hv:OwnB w B v L)(hl:16≤L.length):Calls prog 140 #[v] w fun e w'=>e= .returned (.tuple #[mapV (L.take 16),.int .i64 0])∧Below w.heap.size w w':=by
 have hm:(L.take 16).length=16:=by rw[List.length_take];omega
 obtain⟨b,c,rfl,hlc,hb,hc⟩:∃b c,v= .slice (some ⟨b,0,none⟩) L.length c∧L.length≤c∧b<w.heap.size∧∀(j:Nat) (x:UInt8),L[j]? =some x→w.cell? ⟨b,0+j,none⟩=some (.int .u8 x.toNat):=by
  obtain⟨A,c',hv',hA⟩:=hv.at_;rcases hv.2 with⟨_,h0⟩|⟨g,cap,cur,e,_,hg,hcap,_⟩
  ·omega
  ·refine⟨g,cap,e,hcap,lt_get hg,?_⟩;rw[e]at hv'
   cases hv'
   rcases hA with⟨h0,_⟩|⟨b,o,h1,_,h3⟩
   ·cases h0
   ·cases h1
    exact h3
 obtain⟨Z,hZ⟩:∃Z:Array Value,Z=#[.int .u8 0,.int .u8 0,.int .u8 0,.int .u8 0,.int .u8 0,.int .u8 0,.int .u8 0,.int .u8 0,.int .u8 0,.int .u8 0,.int .u8 0,.int .u8 0,.int .u8 0,.int .u8 0,.int .u8 0,.int .u8 0]:=⟨_,rfl⟩;have hZs:Z.size=16:=by rw[hZ];rfl
 obtain⟨hbb,hbc⟩:=below_new w Z 107;obtain⟨r,hr⟩:=nm w.heap.size;obtain⟨wb,hwb⟩:=nm (w.alloc (.cells Z 107));rw[←hwb,←hr]at hbc;rw[←hwb]at hbb;have hrg:wb.rangeAt b 0 (Lib.byteCells (L.take 16)):=fun j u hu=>by
  obtain⟨x,hx,rfl⟩:=byteCells_inv hu;have hj:=(List.getElem?_eq_some_iff.1 hx).1;rw[List.getElem?_take_of_lt (by omega)]at hx;exact(hbb.cell (p:=⟨b,0+j,none⟩) hb).trans (hc j x hx)
 have HS:=hid (cellsB_len hm);have HRg:=hid hrg;have Hr:=hid hr.symm;have HBb:=hid hbb;have HWb:=hid hwb;have Hbc:=hid hbc;have HZ:=hid hZ;have HZs:=hid hZs;have HLn:Hid ((Lib.byteCells (L.take 16)).length=16):=hid (by rw[byteCells_len];exact hm);obtain⟨n,hn⟩:=nm L.length;rw[←hn]at hl hlc⊢;have h1:¬((n:Int)<16):=by omega
 have h2:(16:Int)≤c:=by omega
 have harr:(Instr.arrayAt 107 (.slice (some ⟨b,0,none⟩) 16 c)).run prog wb= .ok (.pointer (some ⟨b,0,none⟩)) wb:=by
  simp[Instr.arrayAt,run_underlying underlying107,go_sem]
 clear hv hm hb hc hZ hZs hr hbb hwb hbc hrg hn;go_enter func140,ntmps140;go_upto_region 1 with fail
 rw[←HZ.o,←HWb.o,Hr.o];go_upto_region 3 with fail
 go_wp2_with(first|(refine wpList_load_mid rfl 107 _ rfl b 0 rfl (Lib.byteCells (L.take 16)) _ HRg.o underlying107 rfl (by rw[HLn.o];exact sizeMap) ?_)|(refine wpList_store_mid rfl 107 _ _ rfl r 0 (cellsB (L.take 16)) rfl rfl (there_at Hbc.o (by rw[HZs.o,HS.o])) (by rw[HS.o];exact sizeMap) (cellsB_one _) ?_;obtain⟨hbw,hbg⟩:=whole_at Hbc.o (vs:=(cellsB (L.take 16)).toList) (B:=r) (by rw[HZs.o,Array.length_toList,HS.o]) (Nat.le_refl r);generalize (World.setCells _ _ _ _)=wf at hbw hbg⊢))
 refine bodyPost_ret (results_row_tmp rfl _ _ r 107 (cellsB (L.take 16)) (0,0) _ rfl hbg underlying107 rfl (by rw[HS.o];exact sizeMap)) rfl ?_;exact⟨rfl,HBb.o.trans (by rw[Hr.o];exact hbw)⟩
end
end Go.Proofs.YtckoobkjpndgnaaGreatDoor
