/- Metadata over any bytes: tables, walks. -/
import Derived.Test.YtckoobkjpndgnaaGreatDoorW29
set_option linter.unusedVariables false
set_option linter.unusedSimpArgs false
set_option linter.unusedSectionVars false
set_option maxHeartbeats 8000000
set_option maxRecDepth 100000
namespace Go.Proofs.YtckoobkjpndgnaaGreatDoor
open Go.RowKit
open Lib(hid)
open Go.Proofs.Tryz
section
open Go.Shelf
attribute [local go_sem] Oper.semAt_some
def InoR(d:Int)(w:World)(e:Ending)(w':World):Prop:=∃(y:Gd.Ino) (E:Int),(y.Shape∧Gd.mayI y=true∧(E=0→1≤d∧d≤32))∧e= .returned (.tuple #[inoV y,.int .i64 E])∧Below w.heap.size w w'
def NumR(w:World)(e:Ending)(w':World):Prop:=∃a E:Int,(E=0→1≤a∧a≤32)∧e= .returned (.tuple #[.int .i64 a,.int .i64 E])∧Below w.heap.size w w'
def PlaceR(w:World)(e:Ending)(w':World):Prop:=∃(d:Int) (n:List UInt8) (E:Int),(E=0→(1≤d∧d≤32)∧Np.nameB n=true)∧e= .returned (.tuple #[.int .i64 d,.string ⟨n.toArray⟩,.int .i64 E])∧Below w.heap.size w w'
theorem small_blocks{x:Gd.Ino}(h:Gd.mayI x=true):∀n∈x.B,0≤n∧n≤128:=(Gd.mayI_in h).B
theorem table_t[MemNo]{x t K:Nat}{S:List UInt8}{F:Nat→Prop}(y:Gd.Ino)(hs:y.Shape)(hBl:∀n∈y.B,0≤n∧n≤128)(w:World)(h:MT x t S K w F):
 Calls prog 118 #[.pointer (some ⟨x,0,none⟩),inoV y] w (TabR w):=by
 obtain⟨hb0,hbb⟩:=ino_box w hs;obtain⟨b,hbe⟩:=nm w.heap.size;obtain⟨wb,hwb⟩:=nm (w.alloc (.cells (inoC y) 72));rw[←hwb,←hbe]at hb0;rw[←hwb]at hbb;have hsb:wb.heap.size=b+1:=by rw[hwb,hbe];simp
 obtain⟨w2,hw2⟩:=nm ((wb.alloc (.cells (tabC Gd.noTab) 141)).alloc (.cells (tabC Gd.noTab) 141));have hb2:Below wb.heap.size wb w2:=by rw[hw2];exact((Below.refl _ _).alloc (Nat.le_refl _) _).alloc (by simp) _
 have r4:w2.heap[b+1]? =some (.cells (tabC Gd.noTab) 141 (0,0)):=by rw[hw2,←hsb];exact CellsAt.alloc (heap_alloc_new wb _) _
 have r6:w2.heap[b+1+1]? =some (.cells (tabC Gd.noTab) 141 (0,0)):=by
  have:=heap_alloc_new (wb.alloc (.cells (tabC Gd.noTab) 141)) (.cells (tabC Gd.noTab) 141)
  rw[World.size_alloc,hsb]at this;rw[hw2];exact this
 have hI2:=hb0.keep hb2;have hB2:Below w.heap.size w w2:=hbb.trans (hb2.mono hbb.size);have H:=hid h;have HBl:=hid hBl;have Hbe:=hid hbe.symm;have Hwb:=hid hwb.symm;have Hsb:=hid hsb;have Hw2:=hid hw2.symm;have HB2:=hid hB2;have HR4:=hid r4;have HR6:=hid r6;have HI:=hid hI2;have HL:Hid ((intC y.B).length=4):=hid (by rw[intC_len];exact hs.1);have HB4:Hid (y.B.length=4):=hid hs.1;clear h hs hBl hb0 hbb hbe hwb hsb hw2 hb2 r4 r6 hI2 hB2;unfold inoV;go_enter func118,ntmps118;go_upto_region 2 with fail
 rw[Hwb.o,Hbe.o,←zTab,Hw2.o]
 (try rw[Hsb.o])
 go_upto_region 3 with(refine wpList_load_mid rfl 70 _ rfl b 3 rfl (intC y.B) _ HI.o.blocks underlying70 rfl (by rw[HL.o];exact size4) ?_)
 go_loopw[15] (fun z wr=>∃i:Nat,z= .int .i64 i∧i≤4∧∃T:Gd.Tab,Hid (Gd.TabOk T)∧Hid (wr.heap[b+1]? =some (.cells (tabC Gd.noTab) 141 (0,0)))∧Hid (wr.heap[b+1+1]? =some (.cells (tabC T) 141 (0,0)))∧Hid (Below w.heap.size w wr)) (fun z _=>4-(intOf z).toNat)
 case atStart=>exact⟨0,rfl,by omega,Gd.noTab,hid Gd.noTab_ok,HR4,HR6,HB2⟩
 case round=>
  obtain⟨i,rfl,hi,T,HOk,HR,HT,HB⟩:=hrel;by_cases hlt:i<4
  ·obtain⟨n,hn⟩:∃n,y.B[i]? =some n:=⟨_,List.getElem?_eq_getElem (by have:=HB4.o;omega)⟩;have hnb:=HBl.o n (List.mem_of_getElem? hn);have hc:=run_index_one 70 3 4 (intC y.B).toArray .i64 .i64 i _ wr underlying70 underlying3 infoInts hlt (by rw[List.getElem?_toArray];exact intC_get hn);have h1:(i:Int)<4:=by omega
   by_cases h0:n=0
   ·subst h0;clear hn hnb hlt;go_wp2_with fail
    go_roundw
    case rel=>exact⟨i+1,by go_num,by omega,T,HOk,HR,HT,HB⟩
    case measure=>simp[intOf];omega
   ·obtain⟨m,rfl⟩:∃m:Nat,n=m:=⟨n.toNat,by omega⟩;have hnb2:1≤m∧m≤128:=by omega
    have hn0:¬(m:Int)=0:=by omega
    obtain⟨P,hMF⟩:=H.o.below HB.o;have HLd:=hid (load_some 7 m _ wr hMF (Gd.ptAt_block hnb2.1 hnb2.2));dsimp only at HLd;obtain⟨L,hL⟩:=nm (Gd.part (Gd.view S P) (Gd.blkAt m) 64);have hLl:L.length=64:=by rw[hL];exact Gd.part_length (by rw[hMF.view_len];unfold Gd.blkAt;omega)
    rw[←hL]at HLd;have HRd:=hid fun v B W hv=>tread_t T HOk.o i hlt v L B W hv hLl;have HSi:=hid (tabC_size HOk.o.len);clear hn hnb hnb2 hlt hMF hL hLl h0;go_wp2_with fail
    refine HLd.o.mono ?_;rintro e w3 ⟨v3,rfl,ho3,hb3⟩;have HO3:=hid ho3;have HB3:=HB.t hb3;have hrr:=(hb3.block _ (lt_get HR.o)).trans HR.o;have htt:=(hb3.block _ (lt_get HT.o)).trans HT.o;have HR3:=hid hrr;have HT3:=hid htt;clear ho3 hb3 hrr htt HLd hc
    go_upto_region 8 with(first|(refine wpList_load_row rfl 141 _ rfl (b+1+1) rfl 141 (tabC T) (0,0) _ HT3.o underlying141 rfl (by rw[HSi.o];exact sizeTab) ?_)|(go_at_call 147;refine(HRd.o v3 _ w3 HO3.o).mono ?_;rintro e w4 ⟨T2,E,hok2,rfl,hb4⟩;unfold tabV;have HOk2:=hid hok2;have HSj:=hid (tabC_size hok2.len);clear hok2;have HB4:=HB3.t hb4;have HR4:=HR3.r hb4;have HT4:=HT3.r hb4;clear hb4)|(rw[←zTab];refine wpList_store_mid rfl 141 _ _ rfl w4.heap.size 0 (tabC T2) rfl rfl (there_at (heap_alloc_new _ _) (by rw[noTab_size,HSj.o])) (by rw[HSj.o];exact sizeTab) (tabC_one _) ?_;obtain⟨hbw,hbg⟩:=new_whole2 w4 (tabC Gd.noTab) 141 (tabC T2).toList (by rw[noTab_size,Array.length_toList,HSj.o]);generalize (World.setCells _ _ _ _)=w5 at hbw hbg⊢;have HN5:Hid (w5.heap[w4.heap.size]? =some (.cells (tabC T2) 141 (0,0))):=hid hbg;have HB5:=HB4.t hbw;have HR5:=HR4.r hbw;have HT5:=HT4.r hbw;clear hbw hbg))
    by_cases hE:E=0
    rotate_left
    ·have hE2:(E !=0)=true:=by rw[bne_iff_ne];exact hE
     clear hE;go_wp2_with(first|(rw[←zTab];refine wpList_store_mid rfl 141 _ _ rfl (b+1) 0 (tabC Gd.noTab) rfl rfl (there_at HR5.o noTab_size) (by rw[noTab_size];exact sizeTab) (tabC_one _) ?_;obtain⟨hbw,hbg⟩:=whole_at HR5.o (vs:=(tabC Gd.noTab).toList) (B:=b) (by rw[noTab_size,Array.length_toList,noTab_size]) (show b≤b+1 by omega);generalize (World.setCells _ _ _ _)=wf at hbw hbg⊢)|(refine wpList_store_mid rfl 141 _ _ rfl (b+1) 0 (tabC Gd.noTab) rfl rfl (there_at HR5.o noTab_size) (by rw[noTab_size];exact sizeTab) (tabC_one _) ?_;obtain⟨hbw,hbg⟩:=whole_at HR5.o (vs:=(tabC Gd.noTab).toList) (B:=b) (by rw[noTab_size,Array.length_toList,noTab_size]) (show b≤b+1 by omega);generalize (World.setCells _ _ _ _)=wf at hbw hbg⊢))
     refine bodyPost_ret (results_row_tmp rfl _ _ (b+1) 141 (tabC Gd.noTab) (0,0) _ rfl hbg underlying141 rfl (by rw[noTab_size];exact sizeTab)) rfl ?_;exact⟨_,_,Gd.noTab_ok,rfl,HB5.o.trans (by rw[Hbe.o];exact hbw)⟩
    subst hE;go_upto_region 11 with(first|(refine wpList_load_row rfl 141 _ rfl w4.heap.size rfl 141 (tabC T2) (0,0) _ HN5.o underlying141 rfl (by rw[HSj.o];exact sizeTab) ?_)|(refine wpList_store_mid rfl 141 _ _ rfl (b+1+1) 0 (tabC T2) rfl rfl (there_at HT5.o (by rw[HSi.o,HSj.o])) (by rw[HSj.o];exact sizeTab) (tabC_one _) ?_;obtain⟨hbw,hbg⟩:=whole_at HT5.o (vs:=(tabC T2).toList) (B:=b+1+1) (by rw[HSi.o,Array.length_toList,HSj.o]) (Nat.le_refl _);generalize (World.setCells _ _ _ _)=w6 at hbw hbg⊢))
    have HB6:=hid (HB5.o.trans (hbw.mono (show w.heap.size≤b+1+1 by rw[Hbe.o];omega)));have HR6:=hid ((hbw.block (b+1) (show b+1<b+1+1 by omega)).trans HR5.o);have HT6:Hid (w6.heap[b+1+1]? =some (.cells (tabC T2) 141 (0,0))):=hid hbg;clear hbw hbg;go_wp2;go_roundw
    case rel=>exact⟨i+1,by go_num,by omega,T2,HOk2,HR6,HT6,HB6⟩
    case measure=>simp[intOf];omega
  ·obtain rfl:i=4:=by omega
   clear hlt;have HS4:=hid (tabC_size HOk.o.len);go_wp2_with(first|(refine wpList_load_row rfl 141 _ rfl (b+1+1) rfl 141 (tabC T) (0,0) _ HT.o underlying141 rfl (by rw[HS4.o];exact sizeTab) ?_)|(refine wpList_store_mid rfl 141 _ _ rfl (b+1) 0 (tabC T) rfl rfl (there_at HR.o (by rw[noTab_size,HS4.o])) (by rw[HS4.o];exact sizeTab) (tabC_one _) ?_;obtain⟨hbw,hbg⟩:=whole_at HR.o (vs:=(tabC T).toList) (B:=b) (by rw[noTab_size,Array.length_toList,HS4.o]) (show b≤b+1 by omega);generalize (World.setCells _ _ _ _)=wf at hbw hbg⊢))
   refine bodyPost_ret (results_row_tmp rfl _ _ (b+1) 141 (tabC T) (0,0) _ rfl hbg underlying141 rfl (by rw[HS4.o];exact sizeTab)) rfl ?_;exact⟨_,_,HOk.o,rfl,HB.o.trans (by rw[Hbe.o];exact hbw)⟩
theorem tableI_t[MemNo]{x t K:Nat}{S:List UInt8}{F:Nat→Prop}(d:Int)(w:World)(h:MT x t S K w F):
 Calls prog 70 #[.pointer (some ⟨x,0,none⟩),.int .i64 d] w (TabR w):=by
 obtain⟨w0,hw0⟩:=nm (w.alloc (.cells (tabC Gd.noTab) 141));have hb0:Below w.heap.size w w0:=by rw[hw0];exact(Below.refl _ _).alloc (Nat.le_refl _) _
 have hr0:w0.heap[w.heap.size]? =some (.cells (tabC Gd.noTab) 141 (0,0)):=by rw[hw0];exact heap_alloc_new _ _
 obtain⟨r,hr⟩:=nm w.heap.size;rw[←hr]at hr0;have HIn:=hid (inode_t d w0 (h.below hb0));have HTb:=hid fun W hW y hs hb=>table_t y hs hb W (h.below hW);have HR0:=hid hr0;have HB0:=hid hb0;have HW0:=hid hw0.symm;have Hr:=hid hr.symm;clear h hw0 hb0 hr0 hr
 (try unfold inoV at*)
 (try unfold tabV at*)
 go_enter func70,ntmps70;go_upto_region 1 with fail
 rw[←zTab,HW0.o,Hr.o];go_upto_region 2 with(first|(go_at_call 24;refine HIn.o.mono ?_;rintro e w2 ⟨y,E,hy,rfl,hb2⟩;have HY:=hid hy;have HS:Hid ((inoC y).size=15):=hid (inoC_size hy.1);clear hy;have HR2:=hid ((hb2.block r (lt_get HR0.o)).trans HR0.o);have HB2:=HB0.t hb2;clear hb2)|(rw[←zIno_lit];refine wpList_store_mid rfl 72 _ _ rfl w2.heap.size 0 (inoC y) rfl rfl (there_at (heap_alloc_new _ _) (by rw[zIno_size,HS.o])) (by rw[HS.o];exact sizeIno) (inoC_one _) ?_;obtain⟨hbw,hbg⟩:=new_whole2 w2 zIno 72 (inoC y).toList (by rw[zIno_size,Array.length_toList,HS.o]);generalize (World.setCells _ _ _ _)=w3 at hbw hbg⊢;have HN3:Hid (w3.heap[w2.heap.size]? =some (.cells (inoC y) 72 (0,0))):=hid hbg;have HB3:=HB2.t hbw;have HR3:=HR2.r hbw;clear hbw hbg))
 have n0:w3.cell? ⟨w2.heap.size,0,none⟩=some (.int .i64 y.k):=(cell_of_row w3 w2.heap.size 0 _ _ _ HN3.o).trans (inoC_get rfl);by_cases hE:E=0
 rotate_left
 ·have hE2:(E !=0)=true:=by rw[bne_iff_ne];exact hE
  clear hE;go_wp2_with(first|(rw[←zTab];refine wpList_store_mid rfl 141 _ _ rfl r 0 (tabC Gd.noTab) rfl rfl (there_at HR3.o noTab_size) (by rw[noTab_size];exact sizeTab) (tabC_one _) ?_;obtain⟨hbw,hbg⟩:=whole_at HR3.o (vs:=(tabC Gd.noTab).toList) (B:=r) (by rw[noTab_size,Array.length_toList,noTab_size]) (Nat.le_refl _);generalize (World.setCells _ _ _ _)=wf at hbw hbg⊢)|(refine wpList_store_mid rfl 141 _ _ rfl r 0 (tabC Gd.noTab) rfl rfl (there_at HR3.o noTab_size) (by rw[noTab_size];exact sizeTab) (tabC_one _) ?_;obtain⟨hbw,hbg⟩:=whole_at HR3.o (vs:=(tabC Gd.noTab).toList) (B:=r) (by rw[noTab_size,Array.length_toList,noTab_size]) (Nat.le_refl _);generalize (World.setCells _ _ _ _)=wf at hbw hbg⊢))
  refine bodyPost_ret (results_row_tmp rfl _ _ r 141 (tabC Gd.noTab) (0,0) _ rfl hbg underlying141 rfl (by rw[noTab_size];exact sizeTab)) rfl ?_;exact⟨_,_,Gd.noTab_ok,rfl,HB3.o.trans (by rw[Hr.o];exact hbw)⟩
 subst hE;by_cases hk:y.k=2
 rotate_left
 ·go_wp2_with(first|(rw[←zTab];refine wpList_store_mid rfl 141 _ _ rfl r 0 (tabC Gd.noTab) rfl rfl (there_at HR3.o noTab_size) (by rw[noTab_size];exact sizeTab) (tabC_one _) ?_;obtain⟨hbw,hbg⟩:=whole_at HR3.o (vs:=(tabC Gd.noTab).toList) (B:=r) (by rw[noTab_size,Array.length_toList,noTab_size]) (Nat.le_refl _);generalize (World.setCells _ _ _ _)=wf at hbw hbg⊢)|(refine wpList_store_mid rfl 141 _ _ rfl r 0 (tabC Gd.noTab) rfl rfl (there_at HR3.o noTab_size) (by rw[noTab_size];exact sizeTab) (tabC_one _) ?_;obtain⟨hbw,hbg⟩:=whole_at HR3.o (vs:=(tabC Gd.noTab).toList) (B:=r) (by rw[noTab_size,Array.length_toList,noTab_size]) (Nat.le_refl _);generalize (World.setCells _ _ _ _)=wf at hbw hbg⊢))
  refine bodyPost_ret (results_row_tmp rfl _ _ r 141 (tabC Gd.noTab) (0,0) _ rfl hbg underlying141 rfl (by rw[noTab_size];exact sizeTab)) rfl ?_;exact⟨_,_,Gd.noTab_ok,rfl,HB3.o.trans (by rw[Hr.o];exact hbw)⟩
 have HTc:=hid (HTb.o w3 HB3.o y HY.o.1 (small_blocks HY.o.2.1));rw[hk]at n0;clear hk HTb;go_upto_region 6 with fail
 go_wp2_with(first|(refine wpList_load_row rfl 72 _ rfl w2.heap.size rfl 72 (inoC y) (0,0) _ HN3.o underlying72 rfl (by rw[HS.o];exact sizeIno) ?_)|(go_at_call 118;refine HTc.o.mono ?_;rintro e w4 ⟨T,E,hok,rfl,hb4⟩;unfold tabV;have HOk:=hid hok;have HTs:=hid (tabC_size hok.len);clear hok;have HR4:=hid ((hb4.block r (lt_get HR3.o)).trans HR3.o);have HB4:=HB3.t hb4;clear hb4)|(refine wpList_store_mid rfl 141 _ _ rfl r 0 (tabC T) rfl rfl (there_at HR4.o (by rw[noTab_size,HTs.o])) (by rw[HTs.o];exact sizeTab) (tabC_one _) ?_;obtain⟨hbw,hbg⟩:=whole_at HR4.o (vs:=(tabC T).toList) (B:=r) (by rw[noTab_size,Array.length_toList,HTs.o]) (Nat.le_refl _);generalize (World.setCells _ _ _ _)=wf at hbw hbg⊢))
 refine bodyPost_ret (results_row_tmp rfl _ _ r 141 (tabC T) (0,0) _ rfl hbg underlying141 rfl (by rw[HTs.o];exact sizeTab)) rfl ?_;exact⟨T,E,HOk.o,rfl,HB4.o.trans (by rw[Hr.o];exact hbw)⟩
theorem node_t[MemNo]{x t K:Nat}{S:List UInt8}{F:Nat→Prop}(d:Int)(w:World)(h:MT x t S K w F):
 Calls prog 117 #[.pointer (some ⟨x,0,none⟩),.int .i64 d] w (InoR d w):=by
 obtain⟨w0,hw0⟩:=nm (w.alloc (.cells zIno 72));have hb0:Below w.heap.size w w0:=by rw[hw0];exact(Below.refl _ _).alloc (Nat.le_refl _) _
 have hr0:w0.heap[w.heap.size]? =some (.cells zIno 72 (0,0)):=by rw[hw0];exact heap_alloc_new _ _
 obtain⟨r,hr⟩:=nm w.heap.size;rw[←hr]at hr0;have HIn:=hid (inode_t d w0 (h.below hb0));have HR0:=hid hr0;have HB0:=hid hb0;have HW0:=hid hw0.symm;have Hr:=hid hr.symm;clear h hw0 hb0 hr0 hr;unfold inoV at*;go_enter func117,ntmps117;go_upto_region 1 with fail
 rw[←zIno_lit,HW0.o,Hr.o];go_upto_region 2 with(first|(go_at_call 24;refine HIn.o.mono ?_;rintro e w2 ⟨y,E,hy,rfl,hb2⟩;have HY:=hid hy;have HS:Hid ((inoC y).size=15):=hid (inoC_size hy.1);clear hy;have HR2:=hid ((hb2.block r (lt_get HR0.o)).trans HR0.o);have HB2:=HB0.t hb2;clear hb2)|(rw[←zIno_lit];refine wpList_store_mid rfl 72 _ _ rfl w2.heap.size 0 (inoC y) rfl rfl (there_at (heap_alloc_new _ _) (by rw[zIno_size,HS.o])) (by rw[HS.o];exact sizeIno) (inoC_one _) ?_;obtain⟨hbw,hbg⟩:=new_whole2 w2 zIno 72 (inoC y).toList (by rw[zIno_size,Array.length_toList,HS.o]);generalize (World.setCells _ _ _ _)=w3 at hbw hbg⊢;have HN3:Hid (w3.heap[w2.heap.size]? =some (.cells (inoC y) 72 (0,0))):=hid hbg;have HB3:=HB2.t hbw;have HR3:=HR2.r hbw;clear hbw hbg))
 have n0:w3.cell? ⟨w2.heap.size,0,none⟩=some (.int .i64 y.k):=(cell_of_row w3 w2.heap.size 0 _ _ _ HN3.o).trans (inoC_get rfl);by_cases hE:E=0
 rotate_left
 ·have hE2:(E==0)=false:=by rw[beq_eq_false_iff_ne];exact hE
  have HE:=hid hE;clear hE;go_wp2_with(first|(refine wpList_load_row rfl 72 _ rfl w2.heap.size rfl 72 (inoC y) (0,0) _ HN3.o underlying72 rfl (by rw[HS.o];exact sizeIno) ?_)|(refine wpList_store_mid rfl 72 _ _ rfl r 0 (inoC y) rfl rfl (there_at HR3.o (by rw[zIno_size,HS.o])) (by rw[HS.o];exact sizeIno) (inoC_one _) ?_;obtain⟨hbw,hbg⟩:=whole_at HR3.o (vs:=(inoC y).toList) (B:=r) (by rw[zIno_size,Array.length_toList,HS.o]) (Nat.le_refl _);generalize (World.setCells _ _ _ _)=wf at hbw hbg⊢))
  refine bodyPost_ret (results_row_tmp rfl _ _ r 72 (inoC y) (0,0) _ rfl hbg underlying72 rfl (by rw[HS.o];exact sizeIno)) rfl ?_;exact⟨y,E,⟨HY.o.1,HY.o.2.1,fun e=>absurd e HE.o⟩,rfl,HB3.o.trans (by rw[Hr.o];exact hbw)⟩
 subst hE;have Hin:=hid (HY.o.2.2 rfl);by_cases hk:y.k=0
 ·rw[hk]at n0;clear hk;go_wp2_with(first|(refine wpList_load_row rfl 72 _ rfl w2.heap.size rfl 72 (inoC y) (0,0) _ HN3.o underlying72 rfl (by rw[HS.o];exact sizeIno) ?_)|(refine wpList_store_mid rfl 72 _ _ rfl r 0 (inoC y) rfl rfl (there_at HR3.o (by rw[zIno_size,HS.o])) (by rw[HS.o];exact sizeIno) (inoC_one _) ?_;obtain⟨hbw,hbg⟩:=whole_at HR3.o (vs:=(inoC y).toList) (B:=r) (by rw[zIno_size,Array.length_toList,HS.o]) (Nat.le_refl _);generalize (World.setCells _ _ _ _)=wf at hbw hbg⊢))
  refine bodyPost_ret (results_row_tmp rfl _ _ r 72 (inoC y) (0,0) _ rfl hbg underlying72 rfl (by rw[HS.o];exact sizeIno)) rfl ?_;exact⟨y,_,⟨HY.o.1,HY.o.2.1,fun _=>Hin.o⟩,rfl,HB3.o.trans (by rw[Hr.o];exact hbw)⟩
 ·go_wp2_with(first|(refine wpList_load_row rfl 72 _ rfl w2.heap.size rfl 72 (inoC y) (0,0) _ HN3.o underlying72 rfl (by rw[HS.o];exact sizeIno) ?_)|(refine wpList_store_mid rfl 72 _ _ rfl r 0 (inoC y) rfl rfl (there_at HR3.o (by rw[zIno_size,HS.o])) (by rw[HS.o];exact sizeIno) (inoC_one _) ?_;obtain⟨hbw,hbg⟩:=whole_at HR3.o (vs:=(inoC y).toList) (B:=r) (by rw[zIno_size,Array.length_toList,HS.o]) (Nat.le_refl _);generalize (World.setCells _ _ _ _)=wf at hbw hbg⊢))
  refine bodyPost_ret (results_row_tmp rfl _ _ r 72 (inoC y) (0,0) _ rfl hbg underlying72 rfl (by rw[HS.o];exact sizeIno)) rfl ?_;exact⟨y,_,⟨HY.o.1,HY.o.2.1,fun _=>Hin.o⟩,rfl,HB3.o.trans (by rw[Hr.o];exact hbw)⟩
theorem walk_t[MemNo]{x t K:Nat}{S:List UInt8}{F:Nat→Prop}(A:Option Addr)(L:List (List UInt8))(cc B:Nat)(w:World)(h:MT x t S K w F)(hS:Strs w B A L)(hL:∀s∈L,s≠[]∧s.length≤1000)(hl:L.length≤1000):
 Calls prog 113 #[.pointer (some ⟨x,0,none⟩),.slice A L.length cc] w (NumR w):=by
 have H:=hid h;have HS:=hid hS;have HL:=hid hL;clear h hS hL;go_enter func113,ntmps113;go_upto_region 3 with fail
 go_loopw[6,16] (fun v z wr=>∃(i d:Nat),z= .int .i64 i∧v= .int .i64 d∧i≤L.length∧Hid (1≤d∧d≤32)∧Hid (Below w.heap.size w wr)) (fun _ z _=>L.length-(intOf z).toNat)
 case atStart=>exact⟨0,1,rfl,rfl,by omega,hid ⟨by omega,by omega⟩,hid (Below.refl _ _)⟩
 case round=>
  obtain⟨i,d,rfl,rfl,hi,HW,HB⟩:=hrel;by_cases hlt:i<L.length
  ·obtain⟨s,hs⟩:∃s,L[i]? =some s:=⟨_,List.getElem?_eq_getElem hlt⟩;rcases HS.o with h|⟨b,o,rfl,hb1,hb2,hcell,-⟩
   ·subst h;simp at hlt
   have c0:=(HB.o.cell (p:=⟨b,o+i,none⟩) hb2).trans (hcell i s hs);have hsl:=HL.o s (List.mem_of_getElem? hs);have h1:(i:Int)<L.length:=by omega
   have h0:(0:Int)≤i:=by omega
   have HTb:=hid (tableI_t (d:Int) wr (H.o.below HB.o));have HFd:=hid fun(D:Gd.Tab) (hD:Gd.TabOk D) W=>tfind_any D hD.len ⟨s.toArray⟩ (by rw[Lib.size_eq];show s.length≤_;omega) hsl.1 (Gd.hN s) rfl W;rw[show(⟨s.toArray⟩:ByteArray).data.toList=s from rfl]at HFd;obtain⟨sb,hsb⟩:∃sb:ByteArray,sb=⟨s.toArray⟩:=⟨_,rfl⟩;rw[←hsb]at c0 HFd;unfold tabV at HFd;have Hlt:=hid hlt;clear hs hcell hsl hsb hlt
   go_upto_region 6 with(first|(go_at_call 70;refine HTb.o.mono ?_;rintro e w2 ⟨D,E,hok,rfl,hb2⟩;unfold tabV;have HOk:=hid hok;have HTs:=hid (tabC_size hok.len);clear hok;have HB2:=HB.t hb2;clear hb2)|(rw[←zTab];refine wpList_store_mid rfl 141 _ _ rfl w2.heap.size 0 (tabC D) rfl rfl (there_at (heap_alloc_new _ _) (by rw[noTab_size,HTs.o])) (by rw[HTs.o];exact sizeTab) (tabC_one _) ?_;obtain⟨hbw,hbg⟩:=new_whole2 w2 (tabC Gd.noTab) 141 (tabC D).toList (by rw[noTab_size,Array.length_toList,HTs.o]);generalize (World.setCells _ _ _ _)=w3 at hbw hbg⊢;have HN3:Hid (w3.heap[w2.heap.size]? =some (.cells (tabC D) 141 (0,0))):=hid hbg;have HB3:=HB2.t hbw;clear hbw hbg))
   by_cases hE:E=0
   rotate_left
   ·have hE2:(E !=0)=true:=by rw[bne_iff_ne];exact hE
    have HE:=hid hE;clear hE;go_wp2_with fail
    go_ret2
    exact⟨_,_,fun e=>absurd e HE.o,rfl,HB3.o⟩
   subst hE;obtain⟨f,hf⟩:=nm (Gd.findT D s (Gd.hN s));have HFe:=hid (HFd.o D HOk.o w3);rw[←hf]at HFe;have Hf:=hid hf;clear hf HFd;go_upto_region 9 with(first|(refine wpList_load_row rfl 141 _ rfl w2.heap.size rfl 141 (tabC D) (0,0) _ HN3.o underlying141 rfl (by rw[HTs.o];exact sizeTab) ?_)|(go_at_call 116;refine HFe.o.mono ?_;rintro e w4 ⟨rfl,hb4⟩;have HB4:=HB3.t hb4;have HN4:=HN3.r hb4;clear hb4))
   cases f with
   |none=>
    have hn1:numO none= -1:=rfl;rw[hn1];go_wp2;go_ret2
    exact⟨_,_,fun e=>absurd e (by decide),rfl,HB4.o⟩
   |some j=>
    obtain⟨-,n1⟩:=tab_cells HN4.o (Gd.entAt_get HOk.o.len j.isLt);obtain⟨q,hq⟩:=nm ((Gd.entAt D j.val).i);rw[←hq]at n1;have hj16:=j.isLt;obtain⟨k,hk⟩:=nm j.val;have hnk:numO (some j)=(k:Int):=by rw[hk];rfl
    rw[←hk]at n1 hj16;rw[hnk];have HNd:=hid (node_t (q:Int) w4 (H.o.below HB4.o));have hk16:(k:Int)<16:=by omega
    have hk0:(0:Int)≤k:=by omega
    clear hq hk hnk hj16;go_upto_region 13 with(first|(go_at_call 117;refine HNd.o.mono ?_;rintro e w5 ⟨y,E,hy,rfl,hb5⟩;unfold inoV;have HY:=hid hy;have HSq:Hid ((inoC y).size=15):=hid (inoC_size hy.1);clear hy;have HB5:=HB4.t hb5;clear hb5)|(rw[←zIno_lit];refine wpList_store_mid rfl 72 _ _ rfl w5.heap.size 0 (inoC y) rfl rfl (there_at (heap_alloc_new _ _) (by rw[zIno_size,HSq.o])) (by rw[HSq.o];exact sizeIno) (inoC_one _) ?_;obtain⟨hbw,hbg⟩:=new_whole2 w5 zIno 72 (inoC y).toList (by rw[zIno_size,Array.length_toList,HSq.o]);generalize (World.setCells _ _ _ _)=w6 at hbw hbg⊢;have HN6:Hid (w6.heap[w5.heap.size]? =some (.cells (inoC y) 72 (0,0))):=hid hbg;have HB6:=HB5.t hbw;clear hbw hbg))
    by_cases hE:E=0
    ·subst hE;have Hin:=hid (HY.o.2.2 rfl);go_wp2;go_roundw
     case rel=>exact⟨i+1,q,by go_num,rfl,by have:=Hlt.o;omega,hid (by have:=Hin.o;omega),HB6⟩
     case measure=>simp[intOf];have:=Hlt.o;omega
    ·have hE2:(E !=0)=true:=by rw[bne_iff_ne];exact hE
     have HE:=hid hE;clear hE;go_wp2_with fail
     go_ret2
     exact⟨_,_,fun e=>absurd e HE.o,rfl,HB6.o⟩
  ·have h1:¬(i:Int)<L.length:=by omega
   clear hlt;go_wp2_with fail
   go_ret2
   exact⟨(d:Int),_,fun _=>by have:=HW.o;omega,rfl,HB.o⟩
theorem mwalk_t[MemNo]{x t K:Nat}{S:List UInt8}{F:Nat→Prop}(s:ByteArray)(m:Int)(w:World)(h:MT x t S K w F)(hs:s.size≤100000)(hm:w.cell? ⟨0,0,none⟩=some (.int .i64 m)):
 Calls prog 65 #[.pointer (some ⟨x,0,none⟩),.string s] w (NumR w):=by
 cases hp:Np.pathL s.data.toList with
 |none=>exact(mwalk_no _ s m w hs hm hp).mono fun e w' ⟨he,hb⟩=>⟨_,_,fun e=>absurd e (by decide),he,hb⟩
 |some L=>
  have HP:=hid (path_yes s L m w hs hm hp);have hok:=pathL_ok hp;have HW:=hid fun A cc W (hW:Below w.heap.size w W) (hS:Strs W w.heap.size A L)=>walk_t A L cc w.heap.size W (h.below hW) hS hok.1 hok.2;clear h hs hm hp hok;go_enter func65,ntmps65;go_wp2_with fail
  refine HP.o.mono ?_;rintro e w2 ⟨A,cc,rfl,-,hS2,hb2⟩;have HW2:=hid (HW.o A cc w2 hb2 hS2);have HB2:=hid hb2;clear hS2 hb2 HP HW;go_wp2_with fail
  refine HW2.o.mono ?_;rintro e w3 ⟨a,E,hin,rfl,hb3⟩;have Hin:=hid hin;clear hin;go_wp2;go_ret2
  exact⟨a,E,Hin.o,rfl,HB2.o.trans (hb3.mono HB2.o.size)⟩
theorem mplace_t[MemNo]{x t K:Nat}{S:List UInt8}{F:Nat→Prop}(s:ByteArray)(m:Int)(w:World)(h:MT x t S K w F)(hs:s.size≤100000)(hm:w.cell? ⟨0,0,none⟩=some (.int .i64 m)):
 Calls prog 66 #[.pointer (some ⟨x,0,none⟩),.string s] w (PlaceR w):=by
 by_cases hp:Np.pathL s.data.toList=none∨Np.pathL s.data.toList=some []
 ·exact(mplace_no _ s m w hs hm hp).mono fun e w' ⟨he,hb⟩=>⟨_,[],_,fun e=>absurd e (by decide),he,hb⟩
 ·obtain⟨L,n,hp⟩:∃L n,Np.pathL s.data.toList=some (L++[n]):=by
   cases hq:Np.pathL s.data.toList with
   |none=>exact absurd (Or.inl hq) hp
   |some M=>
    rcases List.eq_nil_or_concat M with rfl|⟨L,n,rfl⟩
    ·exact absurd (Or.inr hq) hp
    ·exact⟨L,n,by rw[List.concat_eq_append]⟩
  have HP:=hid (parent_yes s L n m w hs hm hp);have hok:=pathL_ok hp;have HNm:Hid (Np.nameB n=true):=hid (by
   have h1:=(Np.pathL_some hp).1;simp only[Bool.and_eq_true,decide_eq_true_eq,List.all_eq_true]at h1;exact h1.2 n (by simp))
  have HW:=hid fun A W (hW:Below w.heap.size w W) (hS:Strs W w.heap.size A L)=>walk_t A L L.length w.heap.size W (h.below hW) hS (fun y hy=>hok.1 y (List.mem_append_left _ hy)) (by have:=hok.2;rw[List.length_append]at this;omega);have HTd:=hid fun W (hW:Below w.heap.size w W) d=>tableI_t d W (h.below hW);clear h hs hm hp hok;go_enter func66,ntmps66;go_upto_region 1 with fail
  go_wp2_with fail
  refine HP.o.mono ?_;rintro e w2 ⟨A,rfl,hS2,hb2⟩;have HW2:=hid (HW.o A w2 hb2 hS2);have HB2:=hid hb2;clear hS2 hb2 HP HW;go_wp2_with fail
  refine HW2.o.mono ?_;rintro e w3 ⟨d,E0,hin,rfl,hb3⟩;have HB3:=HB2.t hb3;have Hin:=hid hin;clear hb3 HW2 hin;by_cases h0:E0=0
  ·subst h0;have Hin0:=hid (Hin.o rfl);have HTb:=hid (HTd.o w3 HB3.o d);clear HTd;go_upto_region 8 with(first|(go_at_call 70;refine HTb.o.mono ?_;rintro e w4 ⟨D,E,hok,rfl,hb4⟩;unfold tabV;have HTs:=hid (tabC_size hok.len);clear hok;have HB4:=HB3.t hb4;clear hb4)|(rw[←zTab];refine wpList_store_mid rfl 141 _ _ rfl w4.heap.size 0 (tabC D) rfl rfl (there_at (heap_alloc_new _ _) (by rw[noTab_size,HTs.o])) (by rw[HTs.o];exact sizeTab) (tabC_one _) ?_;obtain⟨hbw,hbg⟩:=new_whole2 w4 (tabC Gd.noTab) 141 (tabC D).toList (by rw[noTab_size,Array.length_toList,HTs.o]);generalize (World.setCells _ _ _ _)=w5 at hbw hbg⊢;have HN5:Hid (w5.heap[w4.heap.size]? =some (.cells (tabC D) 141 (0,0))):=hid hbg;have HB5:=HB4.t hbw;clear hbw hbg))
   by_cases hE:E=0
   ·subst hE;go_wp2;go_ret3
    exact⟨d,n,_,fun _=>⟨Hin0.o,HNm.o⟩,rfl,HB5.o⟩
   ·have hE2:(E !=0)=true:=by rw[bne_iff_ne];exact hE
    have HE:=hid hE;clear hE;go_wp2_with fail
    go_ret3
    exact⟨_,[],_,fun e=>absurd e HE.o,rfl,HB5.o⟩
  ·have hE2:(E0 !=0)=true:=by rw[bne_iff_ne];exact h0
   have HE:=hid h0;clear h0 HTd;go_wp2_with fail
   go_ret3
   exact⟨_,[],_,fun e=>absurd e HE.o,rfl,HB3.o⟩
theorem free_t[MemNo]{x t K:Nat}{S:List UInt8}{F:Nat→Prop}(w:World)(h:MT x t S K w F):
 Calls prog 115 #[.pointer (some ⟨x,0,none⟩)] w (NumR w):=by
 have H:=hid h;clear h;go_enter func115,ntmps115;go_upto_region 2 with fail
 go_loopw[7] (fun z wr=>∃i:Nat,z= .int .i64 i∧i≤32∧Hid (Below w.heap.size w wr)) (fun z _=>32-(intOf z).toNat)
 case atStart=>exact⟨0,rfl,by omega,hid (Below.refl _ _)⟩
 case round=>
  obtain⟨i,rfl,hi,HB⟩:=hrel;by_cases hlt:i<32
  rotate_left
  ·have h1:¬(i:Int)<32:=by omega
   clear hlt;go_wp2_with fail
   go_ret2
   exact⟨_,_,fun e=>absurd e (by decide),rfl,HB.o⟩
  have hi1:(i:Int)<32:=by omega
  have hi0:(0:Int)≤i:=by omega
  have HIn:=hid (inode_t ((i:Int)+1) wr (H.o.below HB.o));unfold inoV at HIn;clear hlt;go_upto_region 5 with(first|(go_at_call 24;refine HIn.o.mono ?_;rintro e w2 ⟨y,E,hy,rfl,hb2⟩;have HS:Hid ((inoC y).size=15):=hid (inoC_size hy.1);clear hy;have HB2:=HB.t hb2;clear hb2)|(rw[←zIno_lit];refine wpList_store_mid rfl 72 _ _ rfl w2.heap.size 0 (inoC y) rfl rfl (there_at (heap_alloc_new _ _) (by rw[zIno_size,HS.o])) (by rw[HS.o];exact sizeIno) (inoC_one _) ?_;obtain⟨hbw,hbg⟩:=new_whole2 w2 zIno 72 (inoC y).toList (by rw[zIno_size,Array.length_toList,HS.o]);generalize (World.setCells _ _ _ _)=w3 at hbw hbg⊢;have HN3:Hid (w3.heap[w2.heap.size]? =some (.cells (inoC y) 72 (0,0))):=hid hbg;have HB3:=HB2.t hbw;clear hbw hbg))
  have n0:w3.cell? ⟨w2.heap.size,0,none⟩=some (.int .i64 y.k):=(cell_of_row w3 w2.heap.size 0 _ _ _ HN3.o).trans (inoC_get rfl);obtain⟨k,hk⟩:=nm y.k;rw[←hk]at n0;clear hk;by_cases hE:E=0
  ·subst hE;by_cases hk0:k=0
   ·subst hk0;go_wp2_with fail
    go_ret2
    exact⟨_,_,fun _=>by omega,rfl,HB3.o⟩
   ·go_wp2_with fail
    go_roundw
    case rel=>exact⟨i+1,by go_num,by omega,HB3⟩
    case measure=>simp[intOf];omega
  ·have hE2:(E==0)=false:=by rw[beq_eq_false_iff_ne];exact hE
   clear hE;go_wp2_with fail
   go_roundw
   case rel=>exact⟨i+1,by go_num,by omega,HB3⟩
   case measure=>simp[intOf];omega
end
section
open Go.Shelf
attribute [local go_sem] Oper.semAt_some
theorem MT.keep[MemNo]{x t K:Nat}{S:List UInt8}{w w':World}{F:Nat→Prop}(h:MT x t S K w F)(hs:w.heap.size≤w'.heap.size)(hb:∀k,k<w.heap.size→F k→w'.heap[k]? =w.heap[k]?):MT x t S K w' F:=h.elim fun P h=>⟨P,h.keep hs hb⟩
def Tq[MemNo](x t:Nat)(S:List UInt8)(K:Nat)(F:Nat→Prop)(w a:World)(Ls:List (Nat×Obj)):Prop:=
 ∃F',Step (MT x t S K) F w F' a∧∀p∈Ls,w.heap.size≤p.1∧¬F' p.1∧a.heap[p.1]? =some p.2
section
variable {x t K:Nat} {S:List UInt8} {F:Nat→Prop} {w a b:World} {Ls:List (Nat×Obj)}
theorem Tq.start[MemNo](h:MT x t S K w F):Tq x t S K F w w []:=⟨F,Step.refl h,fun p hp=>by simp at hp⟩
theorem Tq.turns[MemNo](h:Tq x t S K F w a Ls):Tu x t S K F w a:=by
 obtain⟨F',h1,_⟩:=h;exact⟨F',h1⟩
theorem Tq.size[MemNo](h:Tq x t S K F w a Ls):w.heap.size≤a.heap.size:=by
 obtain⟨F',h1,_⟩:=h;exact h1.only.size
theorem Tq.get[MemNo](h:Tq x t S K F w a Ls){k:Nat}{o:Obj}(hk:(k,o)∈Ls):a.heap[k]? =some o:=by
 obtain⟨F',_,h2⟩:=h;exact(h2 _ hk).2.2
theorem Tq.below[MemNo](h:Tq x t S K F w a Ls)(hb:Below a.heap.size a b):Tq x t S K F w b Ls:=by
 obtain⟨F',h1,h2⟩:=h;refine⟨F',⟨h1.inv.below hb,h1.old,h1.only.trans (below_only hb F') fun j hj e=>h1.old j hj e⟩,fun p hp=> ?_⟩;obtain⟨q1,q2,q3⟩:=h2 p hp;exact⟨q1,q2,(hb.block _ (lt_get q3)).trans q3⟩
theorem Tq.new[MemNo](h:Tq x t S K F w a Ls)(hb:Below a.heap.size a b){k:Nat}{o:Obj}(hk:a.heap.size≤k)(ho:b.heap[k]? =some o):Tq x t S K F w b ((k,o)::Ls):=by
 obtain⟨F',h1,h2⟩:=h;refine⟨F',⟨h1.inv.below hb,h1.old,h1.only.trans (below_only hb F') fun j hj e=>h1.old j hj e⟩,fun p hp=> ?_⟩;rcases List.mem_cons.1 hp with rfl|hp
 ·refine⟨Nat.le_trans h1.only.size hk,fun e=> ?_,ho⟩;have:=h1.inv.tight _ e
  dsimp only at this;omega
 ·obtain⟨q1,q2,q3⟩:=h2 p hp;exact⟨q1,q2,(hb.block _ (lt_get q3)).trans q3⟩
theorem Tq.set[MemNo](h:Tq x t S K F w a Ls){k j:Nat}{C:Array Value}{ty:TypeId}{v:Value}(hk:(k,Obj.cells C ty (0,0))∈Ls)(Ls':List (Nat×Obj))(hL:∀p∈Ls',p=(k,Obj.cells (C.setIfInBounds j v) ty (0,0))∨(p∈Ls∧p.1≠k)):
 Tq x t S K F w (a.setCell ⟨k,j,none⟩ v) Ls':=by
 obtain⟨F',h1,h2⟩:=h;obtain⟨k1,k2,k3⟩:=h2 _ hk;dsimp only at k1 k2 k3;have hbl:Below k a (a.setCell ⟨k,j,none⟩ v):=(Below.refl k a).setCell (Nat.le_refl k) v;have hoth:∀i,i≠k→(a.setCell ⟨k,j,none⟩ v).heap[i]? =a.heap[i]? :=fun i hi=>Go.heap_setCell_other a ⟨k,j,none⟩ i v hi;have hO:Only (fun i=>i=k) a (a.setCell ⟨k,j,none⟩ v):=⟨hbl.os,hbl.tape,hbl.output,by simp,fun i _ hi=>hoth i hi⟩;refine⟨F',⟨h1.inv.keep hO.size fun i hi hF=>hoth i (fun e=>k2 (e▸hF)),h1.old,?_⟩,fun p hp=> ?_⟩
 ·refine⟨hO.os.trans h1.only.os,hO.tape.trans h1.only.tape,hO.output.trans h1.only.output,Nat.le_trans h1.only.size hO.size,fun i hi hF=> ?_⟩;exact(hoth i (by omega)).trans (h1.only.block i hi hF)
 ·rcases hL p hp with rfl|⟨hp,hne⟩
  ·exact⟨k1,k2,Go.heap_setCell_same a k j _ _ _ k3⟩
  ·obtain⟨q1,q2,q3⟩:=h2 p hp;exact⟨q1,q2,(hoth _ hne).trans q3⟩
end
theorem Tq.next[MemNo]{x t K:Nat}{S:List UInt8}{F F1:Nat→Prop}{w a b:World}{Ls:List (Nat×Obj)}(h1:Step (MT x t S K) F w F1 a)(h2:∀p∈Ls,w.heap.size≤p.1∧¬F1 p.1∧a.heap[p.1]? =some p.2)(ht:Tu x t S K F1 a b):Tq x t S K F w b Ls:=by
 obtain⟨F2,s⟩:=ht;refine⟨F2,h1.trans s,fun p hp=> ?_⟩;obtain⟨q1,q2,q3⟩:=h2 p hp;obtain⟨o1,o2⟩:=s.own (lt_get q3) q2;exact⟨q1,o2,o1.trans q3⟩
def ErR[MemNo](x t:Nat)(S:List UInt8)(K:Nat)(F:Nat→Prop)(w:World)(e:Ending)(w':World):Prop:=∃er:Int,e= .returned (.int .i64 er)∧Tu x t S K F w w'
theorem ErR.behind[MemNo]{x t K:Nat}{S:List UInt8}{F:Nat→Prop}{a b:World}(hb:Below a.heap.size a b){e:Ending}{w':World}(h:ErR x t S K F b e w'):ErR x t S K F a e w':=h.elim fun er h=>⟨er,h.1,Tu.behind hb h.2⟩
theorem ErR.after[MemNo]{x t K:Nat}{S:List UInt8}{F G:Nat→Prop}{a b:World}(hs:Step (MT x t S K) F a G b){e:Ending}{w':World}(h:ErR x t S K G b e w'):ErR x t S K F a e w':=h.elim fun er h=>⟨er,h.1,Tu.trans hs h.2⟩
def BlkR[MemNo](x t:Nat)(S:List UInt8)(K:Nat)(F:Nat→Prop)(w:World)(e:Ending)(w':World):Prop:=∃n E:Int,(0≤n∧n≤128)∧e= .returned (.tuple #[.int .i64 n,.int .i64 E])∧Tu x t S K F w w'
def ErQ[MemNo](x t:Nat)(S:List UInt8)(K:Nat)(F:Nat→Prop)(w:World)(Ls:List (Nat×Obj))(e:Ending)(w':World):Prop:=∃er:Int,e= .returned (.int .i64 er)∧Tq x t S K F w w' Ls
def BlQ[MemNo](x t:Nat)(S:List UInt8)(K:Nat)(F:Nat→Prop)(w:World)(Ls:List (Nat×Obj))(e:Ending)(w':World):Prop:=∃n E:Int,(0≤n∧n≤128)∧e= .returned (.tuple #[.int .i64 n,.int .i64 E])∧Tq x t S K F w w' Ls
theorem Tq.less[MemNo]{x t K:Nat}{S:List UInt8}{F:Nat→Prop}{w a:World}{Ls Ls':List (Nat×Obj)}(h:Tq x t S K F w a Ls)(hL:∀p∈Ls',p∈Ls):Tq x t S K F w a Ls':=h.elim fun F1 h=>⟨F1,h.1,fun p hp=>h.2 p (hL p hp)⟩
theorem Tq.open[MemNo]{x t K:Nat}{S:List UInt8}{F:Nat→Prop}{w a:World}{Ls:List (Nat×Obj)}(h:Tq x t S K F w a Ls):∃F1,MT x t S K a F1∧(∀k,F1 k→k<a.heap.size)∧∀b,Tu x t S K F1 a b→Tq x t S K F w b Ls:=by
 obtain⟨F1,h1,h2⟩:=h;exact⟨F1,h1.inv,h1.inv.tight,fun b hb=>Tq.next h1 h2 hb⟩
end
section
open Go.Shelf
attribute [local go_sem] Oper.semAt_some
theorem map_x[MemNo]{x t K:Nat}{S:List UInt8}{F:Nat→Prop}(w:World)(h:MT x t S K w F):∃m:List UInt8,m.length=16∧Hid (Calls prog 110 #[.pointer (some ⟨x,0,none⟩)] w fun e w'=>e= .returned (mapV m)∧Below w.heap.size w w'):=by
 obtain⟨P,h⟩:=h;have hl:(Gd.part (Gd.view S P) 576 16).length=16:=Gd.part_length (by rw[h.view_len];omega);exact⟨_,hl,hid (map_f _ hl rfl w h)⟩
theorem give_t[MemNo]{x t K:Nat}{S:List UInt8}{F:Nat→Prop}(b o cp:Nat)(L:List Int)(w:World)(h:MT x t S K w F)(hL:L.length≤100)(hb:b<w.heap.size)(hA:∀(j:Nat) (n:Int),L[j]? =some n→w.cell? ⟨b,o+j,none⟩=some (.int .i64 n)):
 Calls prog 64 #[.pointer (some ⟨x,0,none⟩),.slice (some ⟨b,o,none⟩) L.length cp] w (ErR x t S K F w):=by
 obtain⟨m,hml,HMp⟩:=map_x w h;have HM:=hid h;have HAt:=hid hA;have Hb:=hid hb;obtain⟨l,hl⟩:=nm L.length;have Hl:=hid hl;rw[←hl]at hL⊢;have hl2:(l:Int)≤100:=by omega
 obtain⟨Z,hZ⟩:∃Z:Array Value,Z=#[.int .u8 0,.int .u8 0,.int .u8 0,.int .u8 0,.int .u8 0,.int .u8 0,.int .u8 0,.int .u8 0,.int .u8 0,.int .u8 0,.int .u8 0,.int .u8 0,.int .u8 0,.int .u8 0,.int .u8 0,.int .u8 0]:=⟨_,rfl⟩;have HZs:Hid (Z.size=16):=hid (by rw[hZ];rfl);have HZ:=hid hZ.symm;have HS:=hid (cellsB_len hml);have HSk:Hid (∀k,(cellsB ((L.take k).foldl Gd.giveI m)).size=16):=hid fun k=>cellsB_len (by rw[fold_len];exact hml);have HGv:Hid (∀k n W,Calls prog 111 #[mapV ((L.take k).foldl Gd.giveI m),.int .i64 n] W fun e w'=>e= .returned (mapV (Gd.giveI ((L.take k).foldl Gd.giveI m) n))∧Below W.heap.size W w'):=hid fun k n W=>give_any _ (by rw[fold_len];exact hml) n W
 have HSm:Hid (∀W,Below w.heap.size w W→Calls prog 43 #[.pointer (some ⟨x,0,none⟩),mapV (L.foldl Gd.giveI m)] W (ErR x t S K F w)):=hid fun W hW=>(setmap_t _ (by rw[fold_len];exact hml) W (HM.o.below hW)).mono fun e w' ⟨er,he,ht⟩=>⟨er,he,ht.behind hW⟩;have HAll:Hid (L.take l=L):=hid (by rw[hl,List.take_length]);unfold mapV at*;clear h hZ hl hml hA hb;go_enter func64,ntmps64;go_wp2_with fail
 refine HMp.o.mono ?_;rintro e w1 ⟨rfl,hb1⟩;obtain⟨hb2,hn2⟩:=below_new w1 Z 107;obtain⟨w2,hw2⟩:=nm (w1.alloc (.cells Z 107));obtain⟨mb,hbe⟩:=nm w1.heap.size;rw[←hw2,←hbe]at hn2;rw[←hw2]at hb2;obtain⟨hb3,hn3⟩:=whole_at hn2 (vs:=(cellsB m).toList) (B:=mb) (by rw[HZs.o,Array.length_toList,HS.o]) (Nat.le_refl mb);obtain⟨w3,hw3⟩:=nm (w2.setCells mb 0 (cellsB m).toList);rw[←hw3]at hb3 hn3;have HN2:=hid hn2;have HN3:Hid (w3.heap[mb]? =some (.cells (cellsB m) 107 (0,0))):=hid hn3;have HB3:Hid (Below w.heap.size w w3):=hid (by
  have h1:=hb1.size;have h2:=hb2.size;have h3:w1.heap.size≤mb:=by omega
  exact(hb1.trans (hb2.mono h1)).trans (hb3.mono (by omega)))
 have Hmb:Hid (w.heap.size≤mb):=hid (by rw[hbe];exact hb1.size);have Hbe:=hid hbe.symm;have HW2:=hid hw2.symm;have HW3:=hid hw3.symm;rw[←HZ.o]at HW2;clear hb1 hb2 hn2 hw2 hbe hb3 hn3 hw3 HMp;go_upto_region 3 with(refine wpList_store_mid rfl 107 _ _ rfl mb 0 (cellsB m) (by rw[←Hbe.o];rfl) rfl (by rw[HW2.o];exact there_at HN2.o (by rw[HZs.o,HS.o])) (by rw[HS.o];exact sizeMap) (cellsB_one _) ?_;rw[HW2.o,HW3.o])
 rw[Hbe.o];go_loopw[12] (fun z wr=>∃k:Nat,z= .int .i64 k∧k≤l∧Hid (wr.heap[mb]? =some (.cells (cellsB ((L.take k).foldl Gd.giveI m)) 107 (0,0)))∧Hid (Below w.heap.size w wr)) (fun z _=>l-(intOf z).toNat)
 case atStart=>exact⟨0,rfl,by omega,HN3,HB3⟩
 case round=>
  obtain⟨k,rfl,hk,HN,HB⟩:=hrel;by_cases hlt:k<l
  ·obtain⟨n,hn⟩:∃n,L[k]? =some n:=⟨_,List.getElem?_eq_getElem (by rw[←Hl.o];exact hlt)⟩;have c0:wr.cell? ⟨b,o+k,none⟩=some (.int .i64 n):=(HB.o.cell (p:=⟨b,o+k,none⟩) Hb.o).trans (HAt.o k n hn);have h1:(k:Int)<l:=by omega
   have h0:(0:Int)≤k:=by omega
   have HSt:=hid (fold_step m hn);have Hlt:=hid hlt;have HSz:=hid (HSk.o k);have HSz1:=hid (HSk.o (k+1));have HGc:=hid (HGv.o k n wr);rw[←HSt.o]at HGc;clear hn hlt;go_wp2_with(refine wpList_load_row rfl 107 _ rfl mb rfl 107 (cellsB ((L.take k).foldl Gd.giveI m)) (0,0) _ HN.o underlying107 rfl (by rw[HSz.o];exact sizeMap) ?_)
   refine HGc.o.mono ?_;rintro e w4 ⟨rfl,hb4⟩;have HN4:=hid ((hb4.block mb (lt_get HN.o)).trans HN.o);have HB4:=HB.t hb4;clear hb4 c0 HGc;go_wp2_with(refine wpList_store_mid rfl 107 _ _ rfl mb 0 (cellsB ((L.take (k+1)).foldl Gd.giveI m)) rfl rfl (there_at HN4.o (by rw[HSz.o,HSz1.o])) (by rw[HSz1.o];exact sizeMap) (cellsB_one _) ?_;obtain⟨hbw,hbg⟩:=whole_at HN4.o (vs:=(cellsB ((L.take (k+1)).foldl Gd.giveI m)).toList) (B:=mb) (by rw[HSz.o,Array.length_toList,HSz1.o]) (Nat.le_refl mb);generalize (World.setCells _ _ _ _)=w5 at hbw hbg⊢)
   have HN5:Hid (w5.heap[mb]? =some (.cells (cellsB ((L.take (k+1)).foldl Gd.giveI m)) 107 (0,0))):=hid hbg;have HB5:=hid (HB4.o.trans (hbw.mono Hmb.o));clear hbw hbg;go_roundw
   case rel=>exact⟨k+1,by go_num,by have:=Hlt.o;omega,HN5,HB5⟩
   case measure=>simp[intOf];have:=Hlt.o;omega
  ·obtain rfl:k=l:=by omega
   rw[HAll.o]at HN;have HSz:=hid (HSk.o k);rw[HAll.o]at HSz;have HSc:=hid (HSm.o wr HB.o);clear hlt;go_wp2_with(refine wpList_load_row rfl 107 _ rfl mb rfl 107 (cellsB (L.foldl Gd.giveI m)) (0,0) _ HN.o underlying107 rfl (by rw[HSz.o];exact sizeMap) ?_)
   refine HSc.o.mono ?_;rintro e w4 ⟨er,rfl,ht⟩;go_wp2;go_ret
   exact⟨er,rfl,ht⟩
theorem ff_le(m:List UInt8):∀f n,Gd.firstFrom m f n<n+f∨Gd.firstFrom m f n=0
 |0,_=>Or.inr rfl
 |f+1,n=>by
  unfold Gd.firstFrom;split
  ·rcases ff_le m f (n+1)with h|h
   ·exact Or.inl (by omega)
   ·exact Or.inr h
  ·exact Or.inl (by omega)
theorem first_le(m:List UInt8):Gd.firstB m≤128:=by
 have:=ff_le m 128 1
 unfold Gd.firstB;omega
theorem takeI_len(m:List UInt8)(n:Int):(Gd.takeI m n).length=m.length:=by
 unfold Gd.takeI;split
 ·exact Gd.take_length _ _
 ·rfl
theorem block_t[MemNo]{x t K:Nat}{S:List UInt8}{F:Nat→Prop}(spare:Int)(w:World)(h:MT x t S K w F):
 Calls prog 151 #[.pointer (some ⟨x,0,none⟩),.int .i64 spare] w (BlkR x t S K F w):=by
 obtain⟨m,hml,HMp⟩:=map_x w h;have HM:=hid h;have HS:=hid (cellsB_len hml);have Hml:=hid hml;obtain⟨Z,hZ⟩:∃Z:Array Value,Z=#[.int .u8 0,.int .u8 0,.int .u8 0,.int .u8 0,.int .u8 0,.int .u8 0,.int .u8 0,.int .u8 0,.int .u8 0,.int .u8 0,.int .u8 0,.int .u8 0,.int .u8 0,.int .u8 0,.int .u8 0,.int .u8 0]:=⟨_,rfl⟩;have HZs:Hid (Z.size=16):=hid (by rw[hZ];rfl);have HZ:=hid hZ.symm;have HFi:=hid fun W=>first_any m hml W;have HCo:=hid fun W=>count_any m hml W;obtain⟨f,hf⟩:=nm (Gd.firstB m);obtain⟨cn,hcn⟩:=nm (Gd.countB m);rw[←hf]at HFi;rw[←hcn]at HCo;have hcl:cn≤128:=by rw[hcn];exact Gd.count_le hml
 have hcw:IntKind.i64.wrap (128-(cn:Int))=128-(cn:Int):=by rw[IntKind.wrap_i64];omega
 have hcw2:(cn:Int)≤128:=by omega
 have Hf:=hid hf;have Hcn:=hid hcn;unfold mapV at*;have Hfs:Hid (¬f=0→1≤f∧f≤128):=hid (fun h0=>⟨by omega,by rw[hf];exact first_le m⟩);have htk:Gd.takeI m (f:Int)=Gd.takeI m f:=rfl;have HTk:=hid fun W=>take_any m hml (f:Int) W;unfold mapV at HTk;obtain⟨m2,hm2⟩:=nm (Gd.takeI m (f:Int));rw[←hm2]at HTk;have Hm2l:Hid (m2.length=16):=hid (by rw[hm2,takeI_len];exact hml);clear h hZ hf hcn hcl hml htk hm2;go_enter func151,ntmps151;go_wp2_with fail
 refine HMp.o.mono ?_;rintro e w1 ⟨rfl,hb1⟩;obtain⟨hb2,hn2⟩:=below_new w1 Z 107;obtain⟨w2,hw2⟩:=nm (w1.alloc (.cells Z 107));obtain⟨b,hbe⟩:=nm w1.heap.size;rw[←hw2,←hbe]at hn2;rw[←hw2]at hb2;obtain⟨hb3,hn3⟩:=whole_at hn2 (vs:=(cellsB m).toList) (B:=b) (by rw[HZs.o,Array.length_toList,HS.o]) (Nat.le_refl b);obtain⟨w3,hw3⟩:=nm (w2.setCells b 0 (cellsB m).toList);rw[←hw3]at hb3 hn3;have HN2:=hid hn2;have HN3:Hid (w3.heap[b]? =some (.cells (cellsB m) 107 (0,0))):=hid hn3;have HB3:Hid (Below w.heap.size w w3∧w.heap.size≤b):=hid (by
  have h1:=hb1.size;have h2:=hb2.size;have h3:w1.heap.size≤b:=by omega
  exact⟨(hb1.trans (hb2.mono h1)).trans (hb3.mono (by omega)),by omega⟩)
 have Hbe:=hid hbe.symm;have HW2:=hid hw2.symm;have HW3:=hid hw3.symm;rw[←HZ.o]at HW2;clear hb1 hb2 hn2 hw2 hbe hb3 hn3 hw3 HMp;go_upto_region 2 with(refine wpList_store_mid rfl 107 _ _ rfl b 0 (cellsB m) (by rw[←Hbe.o];rfl) rfl (by rw[HW2.o];exact there_at HN2.o (by rw[HZs.o,HS.o])) (by rw[HS.o];exact sizeMap) (cellsB_one _) ?_;rw[HW2.o,HW3.o])
 rw[Hbe.o];go_wp2_with(refine wpList_load_row rfl 107 _ rfl b rfl 107 (cellsB m) (0,0) _ HN3.o underlying107 rfl (by rw[HS.o];exact sizeMap) ?_)
 refine(HFi.o w3).mono ?_
 rintro e w4 ⟨rfl,hb4⟩;have HN4:=hid ((hb4.block b (lt_get HN3.o)).trans HN3.o);have HB4:=hid (HB3.o.1.trans (hb4.mono HB3.o.1.size));have HL4:=hid (run_loadAt_row HN4.o HS.o);clear hb4 HFi;go_upto_region 3 with fail
 go_cut[22] from 13 to 22 (fun z wx=>∃c:Bool,z= .bool c∧(c=false→1≤f∧f≤128)∧Hid (wx.heap[b]? =some (.cells (cellsB m) 107 (0,0)))∧Hid (Below w.heap.size w wx))
 case first=>
  by_cases hf0:f=0
  ·subst hf0;clear hcw;go_wp2;go_meet
   exact⟨true,rfl,(fun e=>by cases e),HN4,HB4⟩
  ·have hf1:¬(f:Int)=0:=by omega
   have hf2:((f:Int)==0)=false:=by simp[hf0]
   have hf3:(f==0)=false:=by simp[hf0]
   have Hf0:=hid hf0;go_wp2_with(first|(refine wpList_load_guarded _ _ rfl (by rfl) 107 _ rfl (.pointer (some ⟨b,0,none⟩)) (.agg (cellsB m)) rfl HL4.o ?_)|(go_at_call 180;refine(HCo.o w4).mono ?_;rintro e w5 ⟨rfl,hb5⟩))
   go_meet
   exact⟨_,rfl,(fun _=>Hfs.o Hf0.o),hid ((hb5.block b (lt_get HN4.o)).trans HN4.o),HB4.t hb5⟩
 case rest=>
  obtain⟨c,hz,hc,HN5,HB5⟩:=hcut;subst hz;have HC:=hid hc;clear hc hcw hcw2
  cases c with
  |true=>
   go_wp2_with fail
   go_ret2
   exact⟨0,_,by omega,rfl,Tu.of HM.o HB5.o⟩
  |false=>
  have HF1:=hid (HC.o rfl);have HTw:=hid (HTk.o wc);have HSm:=hid fun W (hW:Below wc.heap.size wc W)=>setmap_t m2 Hm2l.o W (HM.o.below (HB5.o.trans (hW.mono HB5.o.size)));unfold mapV at HSm;go_upto_region 6 with(first|(refine wpList_load_row rfl 107 _ rfl b rfl 107 (cellsB m) (0,0) _ HN5.o underlying107 rfl (by rw[HS.o];exact sizeMap) ?_)|(go_at_call 181;refine HTw.o.mono ?_;rintro e w6 ⟨rfl,hb6⟩;have HSc:=hid (HSm.o w6 hb6);have HB6:=HB5.t hb6;clear hb6)|(go_at_call 43;refine HSc.o.mono ?_;rintro e w7 ⟨er,rfl,ht7⟩;have HT7:=hid ht7;clear ht7))
  by_cases he:er=0
  rotate_left
  ·have he2:(er !=0)=true:=by rw[bne_iff_ne];exact he
   clear he;go_wp2_with fail
   go_ret2
   exact⟨0,_,by omega,rfl,Tu.behind HB6.o HT7.o⟩
  subst he;have hmk:(Instr.makeSlice 23 (.int .i64 64) (.int .i64 64)).run prog w7= .ok (.slice (some ⟨w7.heap.size,0,none⟩) 64 64) (w7.alloc (.cells (cellsB (List.replicate 64 0)) 5)):=made_bytes 64 (by omega) w7;have hown:=own_made w7 64 (by omega) w7.heap.size (Nat.le_refl _);obtain⟨F7,hs7⟩:=HT7.o;have hba:=(Below.refl w7.heap.size w7).alloc (Nat.le_refl _) (.cells (cellsB (List.replicate 64 0)) 5);have HSt:=hid ((store_t 7 f _ (List.replicate 64 0) _ (hs7.inv.below hba) hown.at_ (by rw[List.length_replicate];exact Nat.le_refl _) (fun p hp=>by rw[Gd.ptAt_block HF1.o.1 HF1.o.2]at hp;cases hp;rw[List.length_replicate];exact Nat.le_refl _) (fun q hq e=>by
   have h3:=(own_block hown q hq).1;have h4:=hs7.inv.tight q e;omega)).mono fun e w' (h:ErR x t S K F7 _ e w')=>(ErR.behind HB6.o (ErR.after hs7 (ErR.behind hba h))))
  obtain⟨w8,hw8⟩:=nm (w7.alloc (.cells (cellsB (List.replicate 64 0)) 5));rw[←hw8]at hmk HSt;clear hown hba hs7 hw8;have HTo:=hid fun(er:Int) (W:World)=>metold_any (f:Int) er W;go_wp2_with(first|(go_at_call 41;refine HSt.o.mono ?_;rintro e w9 ⟨er,rfl,ht9⟩;have HT9:=hid ht9;clear ht9)|(go_at_call 68;refine(HTo.o er w9).mono ?_;rintro e w10 ⟨rfl,rfl⟩))
  all_goals go_ret2
  all_goals refine⟨_,_,?_,rfl,HT9.o⟩
  all_goals have:=HF1.o
  all_goals first|omega|(split<;>omega)
theorem keep_t[MemNo]{x t K:Nat}{S:List UInt8}{F:Nat→Prop}(i:Int)(y:Gd.Ino)(hy:y.Shape)(ha:AllI (inoL y))(hO:∀n∈y.O,0≤n∧n≤8)(w:World)(h:MT x t S K w F):
 Calls prog 25 #[.pointer (some ⟨x,0,none⟩),.int .i64 i,inoV y] w (ErR x t S K F w):=by
 obtain⟨hb0,hr0⟩:=below_new w (inoC y) 72;obtain⟨yb,hyb⟩:=nm w.heap.size;obtain⟨w0,hw0⟩:=nm (w.alloc (.cells (inoC y) 72));rw[←hw0,←hyb]at hr0;rw[←hw0]at hb0;have HIr:=hid hr0;have hI0:InoAt w0 yb y:=⟨hr0,hy⟩;have HI0:=hid hI0;have b1:=hI0.c1;have HB0:=hid hb0;have HS:=hid (inoC_size hy);have HOp:=hid fun W=>iopen_any y hy hO W;have HSi:=hid fun W (hW:Below w.heap.size w W)=>(setino_t i y hy ha W (h.below hW)).mono fun e w' (h:ErR x t S K F W e w')=>ErR.behind hW h;have HGv:=hid fun W (hW:Below w0.heap.size w0 W)=>(give_t yb 3 4 y.B W (h.below (hb0.trans (hW.mono hb0.size))) (by rw[hy.1];omega) (lt_get (hI0.keep hW).row) (fun j n hj=>((hI0.keep hW).cB hj).1)).mono fun e w' h=>ErR.behind (hb0.trans (hW.mono hb0.size)) h;rw[hy.1]at HGv
 have HSz:Hid (∀W,Tu x t S K F w W→Calls prog 44 #[.pointer (some ⟨x,0,none⟩),.int .i64 i,inoV Gd.noIno] W (ErR x t S K F w)):=hid fun W hW=>hW.elim fun F1 s1=>(setino_t i Gd.noIno noIno_shape (ino_all (by kernel_rfl)) W s1.inv).mono fun e w' (h:ErR x t S K F1 W e w')=>ErR.after s1 h;have HW0:=hid hw0.symm;have Hyb:=hid hyb.symm;have hlg:=run_loadAt_ino HIr.o HS.o;have hsl:=fun W=>slice_arr yb 3 W;obtain⟨q,hq⟩:=nm y.O.sum;obtain⟨l,hl⟩:=nm y.l;rw[←hq]at HOp;rw[←hl]at b1;clear h hy ha hO hb0 hr0 hyb hw0 hI0 hq hl;unfold inoV at*;go_enter func25,ntmps25;go_upto_region 1 with fail
 rw[HW0.o,Hyb.o];by_cases hl0:0<l
 ·have HSc:=hid (HSi.o w0 HB0.o);go_wp2_with(first|(refine wpList_load_row rfl 72 _ rfl yb rfl 72 (inoC y) (0,0) _ HIr.o underlying72 rfl (by rw[HS.o];exact sizeIno) ?_)|(go_at_call 44;refine HSc.o.mono ?_;rintro e w3 ⟨er,rfl,ht3⟩;have HT3:=hid ht3;clear ht3))
  go_ret
  exact⟨er,rfl,HT3.o⟩
 ·by_cases hq0:0<q
  ·go_upto_region 2 with(first|(refine wpList_load_guarded _ _ rfl (by rfl) 72 _ rfl (.pointer (some ⟨yb,0,none⟩)) (.agg (inoC y)) rfl hlg ?_)|(go_at_call 63;refine(HOp.o w0).mono ?_;rintro e w2 ⟨rfl,hb2⟩;have HI2:=hid ((hb2.block yb (lt_get HIr.o)).trans HIr.o);have HSc:=hid (HSi.o w2 (HB0.o.trans (hb2.mono HB0.o.size)));clear hb2))
   go_wp2_with(first|(refine wpList_load_row rfl 72 _ rfl yb rfl 72 (inoC y) (0,0) _ HI2.o underlying72 rfl (by rw[HS.o];exact sizeIno) ?_)|(go_at_call 44;refine HSc.o.mono ?_;rintro e w3 ⟨er,rfl,ht3⟩;have HT3:=hid ht3;clear ht3))
   go_ret
   exact⟨er,rfl,HT3.o⟩
  ·go_upto_region 4 with(first|(refine wpList_load_guarded _ _ rfl (by rfl) 72 _ rfl (.pointer (some ⟨yb,0,none⟩)) (.agg (inoC y)) rfl hlg ?_)|(go_at_call 63;refine(HOp.o w0).mono ?_;rintro e w2 ⟨rfl,hb2⟩;have HGc:=hid (HGv.o w2 hb2);clear hb2)|(go_at_call 64;refine HGc.o.mono ?_;rintro e w3 ⟨eg,rfl,ht3⟩;have HT3:=hid ht3;clear ht3))
   by_cases he:eg=0
   ·subst he;have HSc:=hid (HSz.o w3 HT3.o);go_wp2_with(go_at_call 44;refine HSc.o.mono ?_;rintro e w4 ⟨er,rfl,ht4⟩;have HT4:=hid ht4;clear ht4)
    go_ret
    exact⟨er,rfl,HT4.o⟩
   ·have he2:(eg !=0)=true:=by rw[bne_iff_ne];exact he
    clear he;go_wp2_with fail
    go_ret
    exact⟨eg,rfl,HT3.o⟩
end
end Go.Proofs.YtckoobkjpndgnaaGreatDoor
