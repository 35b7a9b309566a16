/- Walks: files: file, block. -/
import Derived.Test.YtccpdkjonepoiaaGreatDoorT22
set_option linter.unusedVariables false
set_option linter.unusedSimpArgs false
set_option linter.unusedSectionVars false
set_option maxHeartbeats 8000000
set_option maxRecDepth 100000
namespace Go.Proofs.YtccpdkjonepoiaaGreatDoor
open Go.RowKit
open Lib(hid)
open Go.Proofs.Tryz
section
open Go.Shelf
attribute [local go_sem] Oper.semAt_some
theorem Tl.old[zc]{x t c K:Nat}{S:List UInt8}{M:Gd.Vol}{F:Nat→Prop}{w a:World}{Ls:List (Nat×Obj)}(h:Tl x t S M c K F w a Ls){k:Nat}(hk:k<w.heap.size)(hF:¬F k):a.heap[k]? =w.heap[k]? :=by
 obtain⟨F',h1,_⟩:=h;exact(h1.own hk hF).1
def UL(t x:Nat):Array Value:=#[.pointer (some ⟨t,0,none⟩),.pointer (some ⟨x,0,none⟩)]
def jG(w:World)(f t x:Nat):Prop:=w.heap[f]? =some (.cells (UL t x) 182 (0,0))
theorem jG.cells{w:World}{f t x:Nat}(h:jG w f t x):w.cell? ⟨f,0,none⟩=some (.pointer (some ⟨t,0,none⟩))∧w.cell? ⟨f,1,none⟩=some (.pointer (some ⟨x,0,none⟩)):=
 ⟨cell_of_row w f 0 _ _ _ h,cell_of_row w f 1 _ _ _ h⟩
theorem jG.below{w w':World}{f t x:Nat}(h:jG w f t x)(hb:Below w.heap.size w w'):jG w' f t x:=(hb.block f (za h)).trans h
namespace Gd
def fileE(M:Vol)(i:Nat):Int:=if(M.ino i).k=0 then 10 else if(M.ino i).k=2 then 13 else 0
end Gd
theorem YH[zc]{x t c K f:Nat}{S:List UInt8}{M:Gd.Vol}{F:Nat→Prop}(i:Int)(w:World)(h:zC x t S M c K w F)(hf:jG w f t x)(hi:¬(1≤i∧i≤32)):
 Calls prog 79 #[.pointer (some ⟨f,0,none⟩),.int .i64 i] w fun e w'=>e= .returned (.tuple #[zQ Gd.noIno,.int .i64 1])∧Below w.heap.size w w':=by
 obtain⟨hb0,hr0⟩:=zM w zP 40;obtain⟨r,hr⟩:=nm w.heap.size;obtain⟨w0,hw0⟩:=nm (w.alloc (.cells zP 40));rw[←hw0,←hr]at hr0;rw[←hw0]at hb0;have HIn:=hid (Xo i w0 (h.below hb0) hi);obtain⟨y,hy⟩:=nm Gd.noIno;have hsh:y.Shape:=by rw[hy];exact xE
 rw[←hy]at HIn⊢;have HS:=hid (zy hsh);obtain⟨-,f1⟩:=(hf.below hb0).cells;have HR0:=hid hr0;have HB0:=hid hb0;have HW0:=hid hw0.symm;have Hr:=hid hr.symm;clear h hf hi hb0 hr0 hr hw0 hy hsh;unfold zQ at*;go_enter func79,ntmps79;go_upto_region 1 with fail
 rw[←ja,HW0.o,Hr.o];go_upto_region 2 with(first|(go_at_call 16;refine HIn.o.mono ?_;rintro e w2 ⟨rfl,hb2⟩;have HR2:=hid ((hb2.block r (za HR0.o)).trans HR0.o);have HB2:=HB0.t hb2;clear hb2)|(rw[←ja];refine wpList_store_mid rfl 40 _ _ rfl w2.heap.size 0 (zj y) rfl rfl (zf (heap_alloc_new _ _) (by rw[zt,HS.o])) (by rw[HS.o];exact sizeIno) (zw _) ?_;obtain⟨hbw,hbg⟩:=zG w2 zP 40 (zj y).toList (by rw[zt,Array.length_toList,HS.o]);generalize (World.setCells _ _ _ _)=w3 at hbw hbg⊢;have HN3:Hid (w3.heap[w2.heap.size]? =some (.cells (zj y) 40 (0,0))):=hid hbg;have HB3:=HB2.t hbw;have HR3:=HR2.r hbw;clear hbw hbg))
 go_wp2_with(first|(refine wpList_load_row rfl 40 _ rfl w2.heap.size rfl 40 (zj y) (0,0) _ HN3.o underlying40 rfl (by rw[HS.o];exact sizeIno) ?_)|(refine wpList_store_mid rfl 40 _ _ rfl r 0 (zj y) rfl rfl (zf HR3.o (by rw[zt,HS.o])) (by rw[HS.o];exact sizeIno) (zw _) ?_;obtain⟨hbw,hbg⟩:=zh HR3.o (vs:=(zj y).toList) (B:=r) (by rw[zt,Array.length_toList,HS.o]) (Nat.le_refl r);generalize (World.setCells _ _ _ _)=wf at hbw hbg⊢))
 refine bodyPost_ret (zk rfl _ _ r 40 (zj y) (0,0) _ rfl hbg underlying40 rfl (by rw[HS.o];exact sizeIno)) rfl ?_;exact⟨rfl,HB3.o.trans (by rw[Hr.o];exact hbw)⟩
theorem uj[zc]{x t c K f:Nat}{S:List UInt8}{M:Gd.Vol}{F:Nat→Prop}(i:Nat)(w:World)(h:zC x t S M c K w F)(hf:jG w f t x)(h1:1≤i)(h2:i≤32):
 Calls prog 79 #[.pointer (some ⟨f,0,none⟩),.int .i64 i] w fun e w'=>e= .returned (.tuple #[zQ (M.ino i),.int .i64 (Gd.fileE M i)])∧Below w.heap.size w w':=by
 obtain⟨hb0,hr0⟩:=zM w zP 40;obtain⟨r,hr⟩:=nm w.heap.size;obtain⟨w0,hw0⟩:=nm (w.alloc (.cells zP 40));rw[←hw0,←hr]at hr0;rw[←hw0]at hb0;have HIn:=hid (qG (i:Int) w0 (h.below hb0) (by omega) (by omega));rw[Int.toNat_natCast]at HIn;have hsh:(M.ino i).Shape:=by
  obtain⟨P,h3,h4⟩:=h;exact h4.shape i h1 h2
 unfold Gd.fileE;obtain⟨y,hy⟩:=nm (M.ino i);rw[←hy]at HIn hsh⊢;have HS:=hid (zy hsh);obtain⟨-,f1⟩:=(hf.below hb0).cells;have HR0:=hid hr0;have HB0:=hid hb0;have HW0:=hid hw0.symm;have Hr:=hid hr.symm;obtain⟨k,hk⟩:=nm y.k;rw[←hk];have HK:=hid hk;obtain⟨E,hE⟩:∃E:Int,E=(if k=0 then 10 else if k=2 then 13 else 0):=⟨_,rfl⟩;rw[←hE];have HE:=hid hE;clear h hf h1 h2 hb0 hr0 hr hw0 hy hsh hk hE;unfold zQ at*;go_enter func79,ntmps79;go_upto_region 1 with fail
 rw[←ja,HW0.o,Hr.o];go_upto_region 2 with(first|(go_at_call 16;refine HIn.o.mono ?_;rintro e w2 ⟨rfl,hb2⟩;have HR2:=hid ((hb2.block r (za HR0.o)).trans HR0.o);have HB2:=HB0.t hb2;clear hb2)|(rw[←ja];refine wpList_store_mid rfl 40 _ _ rfl w2.heap.size 0 (zj y) rfl rfl (zf (heap_alloc_new _ _) (by rw[zt,HS.o])) (by rw[HS.o];exact sizeIno) (zw _) ?_;obtain⟨hbw,hbg⟩:=zG w2 zP 40 (zj y).toList (by rw[zt,Array.length_toList,HS.o]);generalize (World.setCells _ _ _ _)=w3 at hbw hbg⊢;have HN3:Hid (w3.heap[w2.heap.size]? =some (.cells (zj y) 40 (0,0))):=hid hbg;have HB3:=HB2.t hbw;have HR3:=HR2.r hbw;clear hbw hbg))
 have n0:w3.cell? ⟨w2.heap.size,0,none⟩=some (.int .i64 k):=by rw[HK.o];exact(cell_of_row w3 w2.heap.size 0 _ _ _ HN3.o).trans (jA rfl)
 by_cases k0:k=0
 ·subst k0;obtain rfl:E=10:=HE.o
  go_wp2_with(first|(refine wpList_load_row rfl 40 _ rfl w2.heap.size rfl 40 (zj y) (0,0) _ HN3.o underlying40 rfl (by rw[HS.o];exact sizeIno) ?_)|(refine wpList_store_mid rfl 40 _ _ rfl r 0 (zj y) rfl rfl (zf HR3.o (by rw[zt,HS.o])) (by rw[HS.o];exact sizeIno) (zw _) ?_;obtain⟨hbw,hbg⟩:=zh HR3.o (vs:=(zj y).toList) (B:=r) (by rw[zt,Array.length_toList,HS.o]) (Nat.le_refl r);generalize (World.setCells _ _ _ _)=wf at hbw hbg⊢))
  refine bodyPost_ret (zk rfl _ _ r 40 (zj y) (0,0) _ rfl hbg underlying40 rfl (by rw[HS.o];exact sizeIno)) rfl ?_;exact⟨rfl,HB3.o.trans (by rw[Hr.o];exact hbw)⟩
 ·by_cases k2:k=2
  ·subst k2;obtain rfl:E=13:=HE.o
   clear k0;go_wp2_with(first|(refine wpList_load_row rfl 40 _ rfl w2.heap.size rfl 40 (zj y) (0,0) _ HN3.o underlying40 rfl (by rw[HS.o];exact sizeIno) ?_)|(refine wpList_store_mid rfl 40 _ _ rfl r 0 (zj y) rfl rfl (zf HR3.o (by rw[zt,HS.o])) (by rw[HS.o];exact sizeIno) (zw _) ?_;obtain⟨hbw,hbg⟩:=zh HR3.o (vs:=(zj y).toList) (B:=r) (by rw[zt,Array.length_toList,HS.o]) (Nat.le_refl r);generalize (World.setCells _ _ _ _)=wf at hbw hbg⊢))
   refine bodyPost_ret (zk rfl _ _ r 40 (zj y) (0,0) _ rfl hbg underlying40 rfl (by rw[HS.o];exact sizeIno)) rfl ?_;exact⟨rfl,HB3.o.trans (by rw[Hr.o];exact hbw)⟩
  ·have hE0:E=0:=by rw[HE.o,if_neg k0,if_neg k2]
   subst hE0;go_wp2_with(first|(refine wpList_load_row rfl 40 _ rfl w2.heap.size rfl 40 (zj y) (0,0) _ HN3.o underlying40 rfl (by rw[HS.o];exact sizeIno) ?_)|(refine wpList_store_mid rfl 40 _ _ rfl r 0 (zj y) rfl rfl (zf HR3.o (by rw[zt,HS.o])) (by rw[HS.o];exact sizeIno) (zw _) ?_;obtain⟨hbw,hbg⟩:=zh HR3.o (vs:=(zj y).toList) (B:=r) (by rw[zt,Array.length_toList,HS.o]) (Nat.le_refl r);generalize (World.setCells _ _ _ _)=wf at hbw hbg⊢))
   refine bodyPost_ret (zk rfl _ _ r 40 (zj y) (0,0) _ rfl hbg underlying40 rfl (by rw[HS.o];exact sizeIno)) rfl ?_;exact⟨rfl,HB3.o.trans (by rw[Hr.o];exact hbw)⟩
end
section
open Go.Shelf
attribute [local go_sem] Oper.semAt_some
theorem ul[zc]{x t c K f:Nat}{S:List UInt8}{M:Gd.Vol}{F:Nat→Prop}(n:Nat)(w:World)(h:zC x t S M c K w F)(hf:jG w f t x)(n1:1≤n)(n2:n≤128):
 Calls prog 80 #[.pointer (some ⟨f,0,none⟩),.int .i64 n] w fun e w'=>e= .returned (.string ⟨(M.blk n).toArray⟩)∧Below w.heap.size w w':=by
 obtain⟨P,h,hG⟩:=h;have hbk:=hG.blk n n1 n2;have hp:=Gd.ptAt_block n1 n2;have HF:=hid (ju 7 n w);rw[hp]at HF;have hpi:=xf hp;obtain⟨p,hpe⟩:∃p:Gd.Pt,p=⟨7,n,Gd.blkAt n,64⟩:=⟨_,rfl⟩;rw[←hpe]at HF hpi;have hpa:Gd.blkAt n=p.a:=by rw[hpe]
 have hps:(64:Nat)=p.s:=by rw[hpe]
 rw[hpa,hps]at hbk;obtain⟨L,hL⟩:=nm (M.blk n);rw[←hL]at hbk⊢;have H:=hid h;have HFi:=hid hf;have HBk:=hid hbk;clear h hp hf hG hpe hpa hps hbk hL;go_enter func80,ntmps80;go_wp2_with fail
 refine HF.o.mono ?_;rintro e w1 ⟨rfl,hb1⟩;unfold ptO ptV;have hn:=heap_alloc_new w1 (.cells (ptC p) 139);have hba:=(Below.refl w1.heap.size w1).alloc (Nat.le_refl _) (.cells (ptC p) 139);obtain⟨w2,hw2⟩:=nm (w1.alloc (.cells (ptC p) 139));rw[←hw2]at hn hba;have hb2:Below w.heap.size w w2:=hb1.trans (hba.mono hb1.size);obtain⟨pb,hpb⟩:=nm w1.heap.size;rw[←hpb]at hn;have hdr:Below w.heap.size w w2.drew:=hb2.drew;have H2:=H.o.below hdr;have hx:jG w2.drew f t x:=HFi.o.below hdr;have hnd:w2.drew.heap[pb]? =some (.cells (ptC p) 139 (0,0)):=hn;have hs0:w2.drew.cell? ⟨f,0,none⟩=some (.pointer (some ⟨t,0,none⟩))∧w2.drew.cell? ⟨pb,2,none⟩=some (.int .i64 p.a)∧w2.drew.cell? ⟨pb,3,none⟩=some (.int .i64 p.s):=⟨hx.cells.1,cell_of_row _ pb 2 _ _ _ hnd,cell_of_row _ pb 3 _ _ _ hnd⟩
 have HLd:=hid (xO p.a p.s w2.drew H2.txn (by have:=H2.len;omega) (by have:=H2.len;omega) (by omega));rw[HBk.o]at HLd;have HTr:Hid (∀W,Below w2.drew.heap.size w2.drew W→W.cell? ⟨f,0,none⟩=some (.pointer (some ⟨t,0,none⟩))∧W.cell? ⟨pb,2,none⟩=some (.int .i64 p.a)∧W.cell? ⟨pb,3,none⟩=some (.int .i64 p.s)):=hid fun W hW=>⟨(hW.cell (p:=⟨f,0,none⟩) (za hx)).trans hs0.1,(hW.cell (p:=⟨pb,2,none⟩) (za hnd)).trans hs0.2.1,(hW.cell (p:=⟨pb,3,none⟩) (za hnd)).trans hs0.2.2⟩;have HD:=hid hdr;have Hpb:=hid hpb.symm;have Hw2:=hid hw2.symm;unfold ptC at Hw2;clear hb1 HF hn hba hw2 hb2 hpb hdr H2 hx hnd hpi;go_upto_region 2 with fail
 rw[Hw2.o,Hpb.o];refine wp_region_held_drew (S:=(fun W=>W.cell? ⟨f,0,none⟩=some (.pointer (some ⟨t,0,none⟩))∧W.cell? ⟨pb,2,none⟩=some (.int .i64 p.a)∧W.cell? ⟨pb,3,none⟩=some (.int .i64 p.s))) (by kernel_rfl) ?_ (fun hHeld=> ?_)
 ·exact hs0
 refine tk 0 ?_;refine tk 1 ?_;refine tk 2 ?_;refine tk 3 ?_;refine tk 4 ?_;refine tk 5 ?_;refine tk 6 ?_;refine tk 7 ?_;refine rd 8 (fun K hK=> ?_);go_simp
 refine HLd.o.mono ?_;rintro e w3 ⟨v,rfl,ho,hb⟩;have HO:=hid ho;have HB:=hid hb;have hs3:=HTr.o w3 hb;clear ho hb;dsimp only;refine hK.o _ _ hs3 (fun hHeld=> ?_);clear hK K;try simp only[put]
 refine tk 9 ?_;refine tk 10 ?_;refine tk 11 ?_;refine tk 12 ?_;refine tk 13 ?_;refine dn ?_
 (try simp only[Exit.then])
 clear hs0 hs3 HLd HTr;have hcv:=jJ v L w3 HO.o.at_;go_wp2;go_ret
 exact⟨rfl,HD.o.trans (HB.o.mono HD.o.size)⟩
end
section
open Go.Shelf
attribute [local go_sem] Oper.semAt_some
theorem VH(L M:List UInt8):((⟨L.toArray⟩:ByteArray).toList==(⟨M.toArray⟩:ByteArray).toList)=decide (L=M):=uz L M
theorem Jo[zc]{x t c K f:Nat}{S:List UInt8}{M:Gd.Vol}{F:Nat→Prop}(n:Nat)(L:List UInt8)(w:World)(h:zC x t S M c K w F)(hf:jG w f t x)(hfF:¬F f)(n1:1≤n)(n2:n≤128)(hL:L.length=64)(hc:c<64):
 Calls prog 157 #[.pointer (some ⟨f,0,none⟩),.int .i64 n,.string ⟨L.toArray⟩] w fun e w'=>e= .returned (.int .i64 0)∧zV x t S (M.setBlk n L) (c+1) K F w w':=by
 have HBl:=hid (ul n w h hf n1 n2);have HEq:=hid (VH (M.blk n) L);by_cases hsame:M.blk n=L
 ·have hM:M.setBlk n L=M:=by
   unfold Gd.Vol.setBlk;have:(fun j=>if j=n then L else M.blk j)=M.blk:=funext fun j=>by
    by_cases e:j=n
    ·subst e;rw[if_pos rfl,hsame]
    ·rw[if_neg e]
   rw[this]
  rw[hM];have he:=HEq.o;rw[decide_eq_true hsame]at he;have H:=hid h;obtain⟨a,ha⟩:∃a:ByteArray,a=⟨(M.blk n).toArray⟩:=⟨_,rfl⟩;obtain⟨b,hb⟩:∃b:ByteArray,b=⟨L.toArray⟩:=⟨_,rfl⟩;rw[←ha]at he HBl;rw[←hb]at he⊢;clear h hf hsame hM HEq ha hb hL;go_enter func157,ntmps157;go_wp2_with fail
  refine HBl.o.mono ?_;rintro e w1 ⟨rfl,hb1⟩;go_wp2;go_ret
  exact⟨rfl,F,je.behind hb1 (je.refl ((H.o.below hb1).more (Nat.le_succ c) (Nat.le_refl K)))⟩
 ·have he:=HEq.o;rw[decide_eq_false hsame]at he;have hp:=Gd.ptAt_block n1 n2;have hpi:=xf hp;obtain⟨p,hpe⟩:∃p:Gd.Pt,p=⟨7,n,Gd.blkAt n,64⟩:=⟨_,rfl⟩;rw[←hpe]at hp hpi;have hpa:Gd.blkAt n=p.a:=by rw[hpe]
  have hps:p.s=64:=by rw[hpe]
  have HFn:=hid fun W=>ju 7 n W;rw[hp]at HFn;have HGd:Hid (∀V,Gd.Good V M→Gd.Good (Gd.splice V p.a L) (M.setBlk n L)):=hid fun V hV=>by rw[←hpa];exact hV.setBlk n1 n2 hL
  have HPi:=hid (And.intro hpi hps);obtain⟨a,ha⟩:∃a:ByteArray,a=⟨(M.blk n).toArray⟩:=⟨_,rfl⟩;obtain⟨b,hb⟩:∃b:ByteArray,b=⟨L.toArray⟩:=⟨_,rfl⟩;rw[←ha]at he HBl;rw[←hb]at he⊢;have Hb:=hid hb;obtain⟨P,h,hG⟩:=h;have H:=hid h;have HG:=hid hG;have HFi:=hid hf;have HfF:=hid hfF;have HL:=hid hL;have HC:=hid hc;clear h hf hsame HEq ha hb hL hp hpi hpe hpa hps hG hfF hc;go_enter func157,ntmps157;go_wp2_with fail
  refine HBl.o.mono ?_;rintro e w0 ⟨rfl,hb0⟩;have HB0:=hid hb0;clear hb0 HBl;go_wp2_with fail
  refine(HFn.o w0).mono ?_
  rintro e w1 ⟨rfl,hb1⟩;unfold ptO ptV;have hn:=heap_alloc_new w1 (.cells (ptC p) 139);have hba:=(Below.refl w1.heap.size w1).alloc (Nat.le_refl _) (.cells (ptC p) 139);obtain⟨w2,hw2⟩:=nm (w1.alloc (.cells (ptC p) 139));rw[←hw2]at hn hba;have hb01:Below w.heap.size w w1:=HB0.o.trans (hb1.mono HB0.o.size);have hb2:Below w.heap.size w w2:=hb01.trans (hba.mono hb01.size);obtain⟨pb,hpb⟩:=nm w1.heap.size;rw[←hpb]at hn;have hdr:Below w.heap.size w w2.drew:=hb2.drew;have hx:jG w2.drew f t x:=HFi.o.below hdr;have hnd:w2.drew.heap[pb]? =some (.cells (ptC p) 139 (0,0)):=hn;obtain⟨v2,wm,hcv,hbt,hbel,hob,-⟩:=yS w2.drew L;rw[←Hb.o]at hcv;have hdm:Below w.heap.size w wm:=hdr.trans (hbel.mono hdr.size);have H2:=H.o.below hdm;have hxm:jG wm f t x:=HFi.o.below hdm;have hndm:=(hbel.block pb (za hnd)).trans hnd
  have hs1:w2.drew.cell? ⟨f,0,none⟩=some (.pointer (some ⟨t,0,none⟩))∧w2.drew.cell? ⟨pb,2,none⟩=some (.int .i64 p.a):=⟨hx.cells.1,cell_of_row _ pb 2 _ _ _ hnd⟩;have hs2:wm.cell? ⟨f,0,none⟩=some (.pointer (some ⟨t,0,none⟩))∧wm.cell? ⟨pb,2,none⟩=some (.int .i64 p.a):=⟨hxm.cells.1,cell_of_row _ pb 2 _ _ _ hndm⟩;have hpF:¬F pb:=fun e=>by
   have h1:=H.o.tight pb e;have h2:=hb01.size;omega
  have HSt:=hid (ye p.a v2 L wm H2.txn hbt (by have:=H2.len;have:=HPi.o;omega) (by have:=H2.len;have:=HL.o;have:=HPi.o;omega) (by have:=HL.o;omega) (by have:=H2.light.many;have:=HC.o;omega) (fun q hq e=>by
   rw[hob]at hq
   cases hq
   have h1:=H.o.tight _ e.1;have h2:=hdr.size;omega))
  have HD:=hid hdm;have Hpb:=hid hpb.symm;have Hw2:=hid hw2.symm;have HTr:Hid (∀W,zi (Fx x F) wm W→W.cell? ⟨f,0,none⟩=some (.pointer (some ⟨t,0,none⟩))∧W.cell? ⟨pb,2,none⟩=some (.int .i64 p.a)):=hid fun W hW=>⟨(hW.cell (p:=⟨f,0,none⟩) (za hxm) (fun e=>HfF.o e.1)).trans hs2.1,(hW.cell (p:=⟨pb,2,none⟩) (za hndm) (fun e=>hpF e.1)).trans hs2.2⟩;unfold ptC at Hw2;clear hb1 HFn hn hba hw2 hb2 hb01 hpb hdr hdm H2 hx hxm hnd hndm hpF hbt hbel hob;go_upto_region 4 with fail
  rw[Hw2.o,Hpb.o];refine wp_region_held_drew (S:=(fun W=>W.cell? ⟨f,0,none⟩=some (.pointer (some ⟨t,0,none⟩))∧W.cell? ⟨pb,2,none⟩=some (.int .i64 p.a))) (by kernel_rfl) ?_ (fun hHeld=> ?_)
  ·exact hs1
  refine tk 0 ?_;refine tk 1 ?_;refine tk 2 ?_;refine tk 3 ?_;refine tk 4 ?_;refine tk 5 ?_;refine tk 6 ?_;refine rd 7 (fun K hK=> ?_);go_simp
  try dsimp only
  refine hK.o _ _ hs2 (fun hHeld=> ?_);clear hK K;try simp only[put]
  refine rd 8 (fun K hK=> ?_);go_simp
  refine HSt.o.mono ?_;rintro e w3 ⟨rfl,hT3,hO3⟩;have HT3:=hid hT3;have HO3:=hid hO3;have hs3:=HTr.o w3 hO3;clear hT3 hO3;dsimp only;refine hK.o _ _ hs3 (fun hHeld=> ?_);clear hK K;try simp only[put]
  refine tk 9 ?_;refine dn ?_
  (try simp only[Exit.then])
  clear hs1 hs2 hs3 HSt HTr;go_wp2;go_ret
  have h1:=HD.o.size;have h2:=HO3.o.size;have hxl:x<w3.heap.size:=Nat.lt_of_lt_of_le (za H.o.obj) (Nat.le_trans h1 h2);have hox:w3.heap[x]? =w.heap[x]? :=(HO3.o.block x (Nat.lt_of_lt_of_le (za H.o.obj) h1) fun e=>e.2 rfl).trans (HD.o.block x (za H.o.obj));refine⟨rfl,fun k=>(F k∨w.heap.size≤k)∧k<w3.heap.size,⟨P++[(p.a,L)],⟨?_,hox.trans H.o.obj,⟨Or.inl H.o.inF,hxl⟩,H.o.len,H.o.log,⟨?_,?_⟩,fun k hk=>hk.2⟩,?_⟩,?_,?_⟩
  ·refine(jC.held t S _ K).mono HT3.o fun k hk e=> ?_
   rcases e with e|e
   ·exact⟨⟨Or.inl e.1,hk⟩,e.2⟩
   ·exact⟨⟨Or.inr (Nat.le_trans h1 e),hk⟩,fun he=>by
     have:=za H.o.obj
     omega⟩
  ·rw[List.length_append];have:=H.o.light.many
   simp
   omega
  ·intro q hq;rcases List.mem_append.1 hq with e|e
   ·exact H.o.light.len q e
   ·rw[List.mem_singleton.1 e];have:=HL.o
    show L.length≤64
    omega
  ·rw[Gd.view_snoc];exact HGd.o _ HG.o
  ·intro k hk e;rcases e.1 with e|e
   ·exact e
   ·omega
  ·exact(zg HD.o F).trans (HO3.o.mono fun _ _ e=>e.1) fun _ _ e=>e
end
section
open Go.Shelf
attribute [local go_sem] Oper.semAt_some
namespace Gd
def catB(M:Vol)(B:List Int):List UInt8:=B.flatMap fun n=>if 0<n then M.blk n.toNat else[]
theorem catB_step(M:Vol){B:List Int}{i:Nat}{n:Int}(h:B[i]? =some n):catB M (B.take (i+1))=catB M (B.take i)++(if 0<n then M.blk n.toNat else[]):=by
 unfold catB;rw[List.take_add_one,h,List.flatMap_append];simp
end Gd
theorem XE{f:Nat}{y:Gd.Ino}{E:Int}(i:Int)(w:World)(hsh:y.Shape)(hE:E≠0)(hf:Calls prog 79 #[.pointer (some ⟨f,0,none⟩),.int .i64 i] w fun e w'=>e= .returned (.tuple #[zQ y,.int .i64 E])∧Below w.heap.size w w'):
 Calls prog 41 #[.pointer (some ⟨f,0,none⟩),.int .i64 i] w fun e w'=>e= .returned (.tuple #[.string ⟨#[]⟩,.int .i64 E])∧Below w.heap.size w w':=by
 have HF:=hid hf;have HS:=hid (zy hsh);clear hf hsh;unfold zQ at*;go_enter func41,ntmps41;go_upto_region 2 with(first|(go_at_call 79;refine HF.o.mono ?_;rintro e w2 ⟨rfl,hb2⟩;have HB2:=hid hb2;clear hb2)|(rw[←ja];refine wpList_store_mid rfl 40 _ _ rfl w2.heap.size 0 (zj y) rfl rfl (zf (heap_alloc_new _ _) (by rw[zt,HS.o])) (by rw[HS.o];exact sizeIno) (zw _) ?_;obtain⟨hbw,hbg⟩:=zG w2 zP 40 (zj y).toList (by rw[zt,Array.length_toList,HS.o]);generalize (World.setCells _ _ _ _)=w3 at hbw hbg⊢;have HB3:=HB2.t hbw;clear hbw hbg))
 go_wp2;go_ret2
 exact⟨rfl,HB3.o⟩
theorem YT[zc]{x t c K f:Nat}{S:List UInt8}{M:Gd.Vol}{F:Nat→Prop}(i:Nat)(w:World)(h:zC x t S M c K w F)(hf:jG w f t x)(h1:1≤i)(h2:i≤32)(hE:Gd.fileE M i=0)(hB:∀n∈(M.ino i).B,0≤n∧n≤128)(hs0:0≤(M.ino i).s)(hs:(M.ino i).s.toNat≤(Gd.catB M (M.ino i).B).length):
 Calls prog 41 #[.pointer (some ⟨f,0,none⟩),.int .i64 i] w fun e w'=>e= .returned (.tuple #[.string ⟨((Gd.catB M (M.ino i).B).take (M.ino i).s.toNat).toArray⟩,.int .i64 0])∧Below w.heap.size w w':=by
 have HF:=hid (uj i w h hf h1 h2);rw[hE]at HF;have HBk:=hid fun n W (hW:Below w.heap.size w W) n1 n2=>ul n W (h.below hW) (hf.below hW) n1 n2;have hbl:∀n,1≤n→n≤128→(M.blk n).length=64:=by
  obtain⟨P,h3,h4⟩:=h;exact h4.blkl
 have hsh:(M.ino i).Shape:=by
  obtain⟨P,h3,h4⟩:=h;exact h4.shape i h1 h2
 obtain⟨y,hy⟩:=nm (M.ino i);rw[←hy]at HF hsh hB hs hs0⊢;have HS:=hid (zy hsh);have HSh:=hid hsh;have HB:=hid hB;have HBl:=hid hbl;have HL:Hid ((z7 y.B).length=4):=hid (by rw[jg];exact hsh.1);have HLt:Hid (∀k,k≤4→(Gd.catB M (y.B.take k)).length≤64*k):=hid fun k=>by
  induction k with
  |zero=>
   intro _;rw[List.take_zero];exact Nat.zero_le _
  |succ k ih=>
   intro hk;obtain⟨n,hg⟩:∃n,y.B[k]? =some n:=⟨_,List.getElem?_eq_getElem (by rw[hsh.1];omega)⟩;rw[Gd.catB_step M hg,List.length_append];have:=ih (by omega)
   by_cases h0:0<n
   ·rw[if_pos h0,hbl _ (by omega) (by have:=(hB _ (List.mem_of_getElem? hg)).2;omega)];omega
   ·rw[if_neg h0];simp
    omega
 obtain⟨sz,hsz⟩:=nm y.s.toNat;have HSz:Hid (y.s=sz):=hid (by omega);rw[←hsz]at hs⊢;have Hs:=hid hs;clear h hf h1 h2 hE hy hsh hB hs0 hs hbl hsz;unfold zQ at*;go_enter func41,ntmps41;go_upto_region 2 with(first|(go_at_call 79;refine HF.o.mono ?_;rintro e w2 ⟨rfl,hb2⟩;have HB2:=hid hb2;clear hb2)|(rw[←ja];refine wpList_store_mid rfl 40 _ _ rfl w2.heap.size 0 (zj y) rfl rfl (zf (heap_alloc_new _ _) (by rw[zt,HS.o])) (by rw[HS.o];exact sizeIno) (zw _) ?_;obtain⟨hbw,hbg⟩:=zG w2 zP 40 (zj y).toList (by rw[zt,Array.length_toList,HS.o]);generalize (World.setCells _ _ _ _)=w3 at hbw hbg⊢;have HB3:=HB2.t hbw;have HN3:Hid (w3.heap[w2.heap.size]? =some (.cells (zj y) 40 (0,0))):=hid hbg;clear hbw hbg))
 obtain⟨ib,hib⟩:=nm w2.heap.size;rw[←hib]at HN3⊢;clear hib;have HI3:Hid (zz w3 ib y):=hid ⟨HN3.o,HSh.o⟩;go_upto_region 6 with(refine wpList_load_mid rfl 37 _ rfl ib 3 rfl (z7 y.B) _ HI3.o.blocks underlying37 rfl (by rw[HL.o];exact size4) ?_)
 go_loopw[8,22] (fun u z wr=>∃(k:Nat) (a:ByteArray),z= .int .i64 k∧u= .string a∧k≤4∧Hid (a.data.toList=Gd.catB M (y.B.take k))∧Hid (Below w.heap.size w wr)∧Hid (zz wr ib y)) (fun _ z _=>4-(intOf z).toNat)
 case atStart=>exact⟨0,_,rfl,rfl,by omega,hid (by rw[List.take_zero];rfl),HB3,HI3⟩
 case round=>
  obtain⟨k,a,rfl,rfl,hk,HA,HBr,HIr⟩:=hrel;have HAl:Hid (a.size≤64*k):=hid (by rw[Lib.size_eq,HA.o];exact HLt.o k hk);by_cases hlt:k<4
  ·obtain⟨n,hn⟩:∃n,y.B[k]? =some n:=⟨_,List.getElem?_eq_getElem (by rw[HSh.o.1];omega)⟩;have hc:=jk 37 3 4 (z7 y.B).toArray .i64 .i64 k _ wr underlying37 underlying3 infoInts hlt (by rw[List.getElem?_toArray];exact jI hn);have hst:=Gd.catB_step M hn;have hnr:=HB.o n (List.mem_of_getElem? hn);have h4:(k:Int)<4:=by omega
   by_cases h0:0<n
   ·obtain⟨q,rfl⟩:∃q:Nat,n=q:=⟨n.toNat,by omega⟩;rw[if_pos h0,Int.toNat_natCast]at hst;have HBc:=hid (HBk.o q wr HBr.o (by omega) (by omega));have hbl:=HBl.o q (by omega) (by omega);obtain⟨d,hd⟩:∃d:ByteArray,d=⟨(M.blk q).toArray⟩:=⟨_,rfl⟩;rw[←hd]at HBc;have HSt:Hid ((a++d).data.toList=Gd.catB M (y.B.take (k+1))):=hid (by rw[xK,HA.o,hst,hd]);have hdl:d.size=64:=by rw[hd,Lib.size_eq];exact hbl
    have hal:=HAl.o;clear hn hst hnr hbl hd hlt;go_wp2_with fail
    refine HBc.o.mono ?_;rintro e w4 ⟨rfl,hb4⟩;have HB4:=HBr.t hb4;have HI4:=hid (HIr.o.keep hb4);clear hb4;go_wp2;go_roundw
    case rel=>exact⟨k+1,a++d,by go_num,rfl,by omega,HSt,HB4,HI4⟩
    case measure=>simp[intOf];omega
   ·have HSt:Hid (a.data.toList=Gd.catB M (y.B.take (k+1))):=hid (by rw[hst,if_neg h0,List.append_nil];exact HA.o);clear hn hst hnr hlt;go_wp2_with fail
    go_roundw
    case rel=>exact⟨k+1,a,by go_num,rfl,by omega,HSt,HBr,HIr⟩
    case measure=>simp[intOf];omega
  ·obtain rfl:k=4:=by omega
   clear hlt;have ha:a.data.toList=Gd.catB M y.B:=by
    have:=HA.o
    rw[List.take_of_length_le (by rw[HSh.o.1];exact Nat.le_refl _)]at this;exact this
   have HA4:=hid ha;have hsl:(sz:Int)≤a.size:=by
    have:=Hs.o
    rw[Lib.size_eq,ha];omega
   have b2:=HIr.o.c2;rw[HSz.o]at b2;clear ha;go_wp2_with fail
   go_ret2
   refine⟨?_,HBr.o⟩;have he:(⟨((Gd.catB M y.B).take sz).toArray⟩:ByteArray)=a.extract 0 sz:=va (by rw[vD,HA4.o]);rw[he];rfl
end
end Go.Proofs.YtccpdkjonepoiaaGreatDoor
