/- Walks: a name that is not there; a name taken out; a node kept, or let go. -/
import Derived.Test.YtjlpkbhgphjpeaaGreatDoorV13
set_option linter.unusedVariables false
set_option linter.unusedSimpArgs false
set_option linter.unusedSectionVars false
set_option maxHeartbeats 8000000
set_option maxRecDepth 100000
namespace Go.Proofs.YtjlpkbhgphjpeaaGreatDoor
open Go.RowKit
open Lib(hid)
open Go.Proofs.Tryz
section
open Go.Shelf
attribute [local go_sem] Oper.semAt_some
theorem ve[zg]{x t c K d:Nat}{S:List UInt8}{M:Gd.Vol}{T:Gd.Tab}{F:Nat→Prop}(s:List UInt8)(w:World)(h:zy x t S M c K w F)(hD:Gd.DirOf M d T)(hs:s.length≤1000)(hne:s≠[])(hf:Gd.findT T s (Gd.hN s)=none):
 Calls prog 90 #[.pointer (some ⟨x,0,none⟩),.int .i64 d,.string ⟨s.toArray⟩] w fun e w'=>e= .returned (.tuple #[.int .i64 0,.int .i64 0])∧Below w.heap.size w w':=by
 have HTb:=hid (jw w h hD);have HTs:=hid (zF hD.ok.len);have HFi:=hid fun W=>xH T hD.ok.len ⟨s.toArray⟩ (by rw[Lib.size_eq];show s.length≤_;omega) hne (Gd.hN s) rfl W;rw[show(⟨s.toArray⟩:ByteArray).data.toList=s from rfl,hf,show vG none= -1 from rfl]at HFi;obtain⟨sb,hsb⟩:∃sb:ByteArray,sb=⟨s.toArray⟩:=⟨_,rfl⟩;rw[←hsb]at HFi⊢;clear h hD hs hne hf hsb;unfold zW at*;go_enter func90,ntmps90
 go_upto_region 2 with(first|(go_at_call 28;refine HTb.o.mono ?_;rintro e w2 ⟨rfl,hb2⟩;have HB2:=hid hb2;clear hb2)|(rw[←qh];refine wpList_store_mid rfl 77 _ _ rfl w2.heap.size 0 (zk T) rfl rfl (zd (heap_alloc_new _ _) (by rw[zn,HTs.o])) (by rw[HTs.o];exact sizeTab) (zQ _) ?_;obtain⟨hbw,hbg⟩:=zi w2 (zk Gd.noTab) 77 (zk T).toList (by rw[zn,Array.length_toList,HTs.o]);generalize (World.setCells _ _ _ _)=w3 at hbw hbg⊢;have HN3:Hid (w3.heap[w2.heap.size]? =some (.cells (zk T) 77 (0,0))):=hid hbg;have HB3:=HB2.t hbw;clear hbw hbg))
 go_wp2_with(first|(refine wpList_load_row rfl 77 _ rfl w2.heap.size rfl 77 (zk T) (0,0) _ HN3.o underlying77 rfl (by rw[HTs.o];exact sizeTab) ?_)|(go_at_call 29;refine(HFi.o w3).mono ?_;rintro e w4 ⟨rfl,hb4⟩;have HB4:=HB3.t hb4;clear hb4))
 go_ret2
 exact⟨rfl,HB4.o⟩
theorem Qx[zg]{x t c K d:Nat}{S:List UInt8}{M:Gd.Vol}{T:Gd.Tab}{F:Nat→Prop}(s:List UInt8)(r:Int)(j:Fin 16)(w:World)(R:World→Prop)(h:zy x t S M c K w F)(hD:Gd.DirOf M d T)(hs:s.length≤1000)(hne:s≠[])(hj:Gd.findT T s (Gd.hN s)=some j)
 (hC:∀W,Below w.heap.size w W→Calls prog 149 #[.pointer (some ⟨x,0,none⟩),.int .i64 d,.int .i64 (j.val:Nat),zW (Gd.setT T j.val Gd.noEnt),.int .i64 (-1),.int .i64 0] W fun e w'=>e= .returned (.int .i64 r)∧R w'):
 Calls prog 107 #[.pointer (some ⟨x,0,none⟩),.int .i64 d,.string ⟨s.toArray⟩] w fun e w'=>e= .returned (.int .i64 r)∧R w':=by
 have HTb:=hid (jw w h hD);have HTs:=hid (zF hD.ok.len);have HPl:=hid fun W=>xH T hD.ok.len ⟨s.toArray⟩ (by rw[Lib.size_eq];show s.length≤_;omega) hne (Gd.hN s) rfl W;rw[show(⟨s.toArray⟩:ByteArray).data.toList=s from rfl,hj]at HPl;have HSt:=hid fun W=>ZB T hD.ok.len j.val j.isLt Gd.noEnt W;have HC:=hid hC;obtain⟨k,hk⟩:=nm j.val;have hnk:vG (some j)=(k:Int):=by rw[hk];rfl
 have hk16:(k:Int)<16:=by have:=j.isLt;omega
 have hk0:(0:Int)≤k:=by omega
 rw[←hk]at HSt HC;rw[hnk]at HPl;obtain⟨T2,hT2⟩:=nm (Gd.setT T k Gd.noEnt);rw[←hT2]at HSt HC;have HSt2:Hid (∀W,Calls prog 150 #[zW T,.int .i64 k,.agg #[.string ⟨#[]⟩,.int .i64 0]] W fun x w'=>x= .returned (zW T2)∧Below W.heap.size W w'):=hid fun W=>HSt.o W;obtain⟨sb,hsb⟩:∃sb:ByteArray,sb=⟨s.toArray⟩:=⟨_,rfl⟩;rw[←hsb]at HPl⊢;clear h hD hs hj hC hk hnk hT2 hsb hne HSt;unfold zW at*;go_enter func107,ntmps107
 go_upto_region 2 with(first|(go_at_call 28;refine HTb.o.mono ?_;rintro e w2 ⟨rfl,hb2⟩;have HB2:=hid hb2;clear hb2)|(rw[←qh];refine wpList_store_mid rfl 77 _ _ rfl w2.heap.size 0 (zk T) rfl rfl (zd (heap_alloc_new _ _) (by rw[zn,HTs.o])) (by rw[HTs.o];exact sizeTab) (zQ _) ?_;obtain⟨hbw,hbg⟩:=zi w2 (zk Gd.noTab) 77 (zk T).toList (by rw[zn,Array.length_toList,HTs.o]);generalize (World.setCells _ _ _ _)=w3 at hbw hbg⊢;have HN3:Hid (w3.heap[w2.heap.size]? =some (.cells (zk T) 77 (0,0))):=hid hbg;have HB3:=HB2.t hbw;clear hbw hbg))
 go_upto_region 7 with(first|(refine wpList_load_row rfl 77 _ rfl w2.heap.size rfl 77 (zk T) (0,0) _ HN3.o underlying77 rfl (by rw[HTs.o];exact sizeTab) ?_)|(go_at_call 29;refine(HPl.o w3).mono ?_;rintro e w4 ⟨rfl,hb4⟩;have HB4:=HB3.t hb4;have HN4:=HN3.r hb4;clear hb4))
 go_wp2_with(first|(refine wpList_load_row rfl 77 _ rfl w2.heap.size rfl 77 (zk T) (0,0) _ HN4.o underlying77 rfl (by rw[HTs.o];exact sizeTab) ?_)|(go_at_call 150;refine(HSt2.o w4).mono ?_;rintro e w5 ⟨rfl,hb5⟩;have HCc:=hid (HC.o w5 (HB4.o.trans (hb5.mono HB4.o.size)));clear hb5)|(go_at_call 149;refine HCc.o.mono ?_;rintro e w6 ⟨rfl,hr6⟩))
 go_ret
 exact⟨rfl,hr6⟩
theorem Q6(b o:Nat)(w:World):(Instr.sliceAt 46 (.pointer (some ⟨b,o,none⟩)) none none none).run prog w= .ok (.slice (some ⟨b,o,none⟩) 4 4) w:=by
 simp[go_sem,Instr.sliceAt,Instr.sliceBounds,Program.arrayLen,underlying46,slicedAt,Program.elem,Addr.add]
end
section
open Go.Shelf
attribute [local go_sem] Oper.semAt_some
theorem xp{w:World}{b t:Nat}{C:Array Value}(h:w.heap[b]? =some (.cells C t (0,0)))(hs:C.size=15):(Instr.loadAt 48 (.pointer (some ⟨b,0,none⟩))).run prog w= .ok (.agg C) w:=by
 have hr:w.rangeAt b 0 C.toList:=fun j v hj=>by
  rw[Nat.zero_add,cell_of_row w b j _ _ _ h];simpa using hj
 have:=run_loadAt_mid (P:=prog) w b 0 48 C.toList _ hr underlying48 rfl (by rw[Array.length_toList,hs];exact sizeIno)
 rw[this]
theorem Jd[zg]{x t c K:Nat}{S:List UInt8}{M:Gd.Vol}{F:Nat→Prop}(i:Nat)(y:Gd.Ino)(hy:y.Shape)(hm:Gd.mayI y=true)(w:World)(h:zy x t S M c K w F)(h1:1≤i)(h2:i≤32)(hc:c<64)(hk:0<y.l∨0<y.O.sum):
 Calls prog 60 #[.pointer (some ⟨x,0,none⟩),.int .i64 i,zv y] w fun e w'=>e= .returned (.int .i64 0)∧zt x t S (M.setIno i y) (c+1) K F w w':=by
 obtain⟨hb0,hr0⟩:=zI w (zf y) 48;obtain⟨yb,hyb⟩:=nm w.heap.size;obtain⟨w0,hw0⟩:=nm (w.alloc (.cells (zf y) 48));rw[←hw0,←hyb]at hr0;rw[←hw0]at hb0;have HIr:=hid hr0;have hI0:zp w0 yb y:=⟨hr0,hy⟩;have b1:=hI0.c1;have HB0:=hid hb0;have HS:=hid (zm hy);have HOp:=hid fun W=>yJ y hy (fun n hn=>by have:=(Gd.mayI_in hm).O n hn;omega) W;have HSi:Hid (∀W,Below w.heap.size w W→Calls prog 74 #[.pointer (some ⟨x,0,none⟩),.int .i64 i,zv y] W fun e w'=>e= .returned (.int .i64 0)∧zt x t S (M.setIno i y) (c+1) K F w w'):=hid fun W hW=>by
  have:=jI (i:Int) y hy hm W (h.below hW) (by omega) (by omega) hc
  rw[Int.toNat_natCast]at this;refine this.mono ?_;rintro e w' ⟨he,ht⟩;exact⟨he,ht.behind hW⟩
 have HW0:=hid hw0.symm;have Hyb:=hid hyb.symm;obtain⟨q,hq⟩:=nm y.O.sum;obtain⟨l,hl⟩:=nm y.l;rw[←hq]at HOp hk;rw[←hl]at hk b1;clear h hy hm h1 h2 hc hb0 hr0 hyb hw0 hI0 hq hl;unfold zv at*;go_enter func60,ntmps60;go_upto_region 1 with fail
 rw[HW0.o,Hyb.o];by_cases hl0:0<l
 ·have HSc:=hid (HSi.o w0 HB0.o);clear hk;go_wp2_with(first|(refine wpList_load_row rfl 48 _ rfl yb rfl 48 (zf y) (0,0) _ HIr.o underlying48 rfl (by rw[HS.o];exact sizeIno) ?_)|(go_at_call 74;refine HSc.o.mono ?_;rintro e w3 ⟨rfl,ht3⟩))
  go_ret
  exact⟨rfl,ht3⟩
 ·have hq0:0<q:=hk.resolve_left hl0;have hlg:=xp HIr.o HS.o;clear hk;go_upto_region 2 with(first|(refine zJ _ _ rfl (by rfl) 48 _ rfl (.pointer (some ⟨yb,0,none⟩)) (.agg (zf y)) rfl hlg ?_)|(go_at_call 45;refine(HOp.o w0).mono ?_;rintro e w2 ⟨rfl,hb2⟩;have HI2:=hid ((hb2.block yb (za HIr.o)).trans HIr.o);have HSc:=hid (HSi.o w2 (HB0.o.trans (hb2.mono HB0.o.size)));clear hb2))
  go_wp2_with(first|(refine wpList_load_row rfl 48 _ rfl yb rfl 48 (zf y) (0,0) _ HI2.o underlying48 rfl (by rw[HS.o];exact sizeIno) ?_)|(go_at_call 74;refine HSc.o.mono ?_;rintro e w3 ⟨rfl,ht3⟩))
  go_ret
  exact⟨rfl,ht3⟩
theorem QI[zg]{x t c K:Nat}{S:List UInt8}{M:Gd.Vol}{F:Nat→Prop}(i:Nat)(y:Gd.Ino)(hy:y.Shape)(hO:∀n∈y.O,0≤n∧n≤8)(w:World)(h:zy x t S M c K w F)(h1:1≤i)(h2:i≤32)(hc:c+1<64)(hk:y.l=0∧y.O.sum=0):
 Calls prog 60 #[.pointer (some ⟨x,0,none⟩),.int .i64 i,zv y] w fun e w'=>e= .returned (.int .i64 0)∧zt x t S ((M.setMap (y.B.foldl Gd.giveI M.map)).setIno i Gd.noIno) (c+2) K F w w':=by
 obtain⟨hb0,hr0⟩:=zI w (zf y) 48;obtain⟨yb,hyb⟩:=nm w.heap.size;obtain⟨w0,hw0⟩:=nm (w.alloc (.cells (zf y) 48));rw[←hw0,←hyb]at hr0;rw[←hw0]at hb0;have HIr:=hid hr0;have hI0:zp w0 yb y:=⟨hr0,hy⟩;have b1:=hI0.c1;rw[hk.1]at b1;have HB0:=hid hb0;have HS:=hid (zm hy);have HOp:=hid fun W=>yJ y hy hO W;rw[hk.2]at HOp;have HGv:Hid (∀W,Below w0.heap.size w0 W→Calls prog 117 #[.pointer (some ⟨x,0,none⟩),.slice (some ⟨yb,3,none⟩) 4 4] W fun e w'=>e= .returned (.int .i64 0)∧zt x t S (M.setMap (y.B.foldl Gd.giveI M.map)) (c+1) K F w w'):=hid fun W hW=>by
  have hIW:=hI0.keep hW;have:=uK yb 3 4 y.B W (h.below (hb0.trans (hW.mono hb0.size))) (by omega) (by rw[hy.1];omega) (za hIW.row) (fun j n hj=>(hIW.cB hj).1)
  rw[hy.1]at this;refine this.mono ?_;rintro e w' ⟨he,ht⟩;exact⟨he,ht.behind (hb0.trans (hW.mono hb0.size))⟩
 have HSi:Hid (∀W,zt x t S (M.setMap (y.B.foldl Gd.giveI M.map)) (c+1) K F w W→Calls prog 74 #[.pointer (some ⟨x,0,none⟩),.int .i64 i,zv Gd.noIno] W fun e w'=>e= .returned (.int .i64 0)∧zt x t S ((M.setMap (y.B.foldl Gd.giveI M.map)).setIno i Gd.noIno) (c+2) K F w w'):=hid fun W hW=>by
  obtain⟨F1,s1⟩:=hW;have:=jI (i:Int) Gd.noIno qd (by decide) W s1.inv (by omega) (by omega) (by omega)
  rw[Int.toNat_natCast]at this;refine this.mono ?_;rintro e w' ⟨he,F2,s2⟩;exact⟨he,F2,s1.trans s2⟩
 have HW0:=hid hw0.symm;have Hyb:=hid hyb.symm;have hlg:=xp HIr.o HS.o;have hsl:=fun W=>Q6 yb 3 W;clear h hy hO h1 h2 hc hb0 hr0 hyb hw0 hI0 hk;unfold zv at*;go_enter func60,ntmps60;go_upto_region 1 with fail
 rw[HW0.o,Hyb.o];go_upto_region 3 with(first|(refine zJ _ _ rfl (by rfl) 48 _ rfl (.pointer (some ⟨yb,0,none⟩)) (.agg (zf y)) rfl hlg ?_)|(go_at_call 45;refine(HOp.o w0).mono ?_;rintro e w2 ⟨rfl,hb2⟩;have HGc:=hid (HGv.o w2 hb2);clear hb2))
 go_wp2_with(first|(go_at_call 117;refine HGc.o.mono ?_;rintro e w3 ⟨rfl,ht3⟩;have HSc:=hid (HSi.o w3 ht3);clear ht3)|(go_at_call 74;refine HSc.o.mono ?_;rintro e w4 ⟨rfl,ht4⟩))
 go_ret
 exact⟨rfl,ht4⟩
end
section
open Go.Shelf
attribute [local go_sem] Oper.semAt_some
theorem QH[zg]{x t c K:Nat}{S:List UInt8}{M:Gd.Vol}{F:Nat→Prop}(i:Nat)(r:Int)(w:World)(R:World→Prop)(h:zy x t S M c K w F)(h1:1≤i)(h2:i≤32)(hl:1≤(M.ino i).l∧(M.ino i).l≤20)
 (hC:∀W,Below w.heap.size w W→Calls prog 60 #[.pointer (some ⟨x,0,none⟩),.int .i64 i,zv ((M.ino i).setL ((M.ino i).l-1))] W fun e w'=>e= .returned (.int .i64 r)∧R w'):
 Calls prog 94 #[.pointer (some ⟨x,0,none⟩),.int .i64 i] w fun e w'=>e= .returned (.int .i64 r)∧R w':=by
 have HI:=hid (zZ (i:Int) w h (by omega) (by omega));rw[Int.toNat_natCast]at HI;have hsh:(M.ino i).Shape:=by
  obtain⟨P,h3,h4⟩:=h;exact h4.shape i h1 h2
 obtain⟨y,hy⟩:=nm (M.ino i);rw[←hy]at HI hsh hl hC;have HS:=hid (zm hsh);have HSh:=hid hsh;have HS2:=hid (zm (x:=y.setL (y.l-1)) ⟨hsh.1,hsh.2⟩);have HSt:=hid (jz (uM y (y.l-1)));have HC:=hid hC;obtain⟨l,hlq⟩:=nm y.l;obtain⟨l1,hl1⟩:=nm (y.l-1);have hwr:IntKind.i64.wrap (l-1)=l1:=by rw[hl1,hlq,IntKind.wrap_i64];omega
 have Hlq:=hid hlq.symm;rw[←hl1]at HSt HS2 HC;clear h h1 h2 hsh hy hl hC hlq hl1;unfold zv at*;go_enter func94,ntmps94;go_upto_region 4 with(first|(go_at_call 17;refine HI.o.mono ?_;rintro e w2 ⟨rfl,hb2⟩;have HB2:=hid hb2;clear hb2)|(rw[←zA];refine wpList_store_mid rfl 48 _ _ rfl w2.heap.size 0 (zf y) rfl rfl (zd (heap_alloc_new _ _) (by rw[zc,HS.o])) (by rw[HS.o];exact sizeIno) (zr _) ?_;obtain⟨hbw,hbg⟩:=zi w2 zU 48 (zf y).toList (by rw[zc,Array.length_toList,HS.o]);generalize (World.setCells _ _ _ _)=w3 at hbw hbg⊢;have HB3:=HB2.t hbw;have HN3:Hid (w3.heap[w2.heap.size]? =some (.cells (zf y) 48 (0,0))):=hid hbg;clear hbw hbg))
 obtain⟨ib,hib⟩:=nm w2.heap.size;have Hib:Hid (w.heap.size≤ib):=hid (by rw[hib];exact HB2.o.size);rw[←hib]at HN3⊢;have hI3:zp w3 ib y:=⟨HN3.o,HSh.o⟩;have b1:=hI3.c1;have f1:=hI3.f 1;rw[Hlq.o]at b1;obtain⟨w4,hw4⟩:=nm (w3.setCell ⟨ib,1,none⟩ (.int .i64 l1));have HN4:Hid (w4.heap[ib]? =some (.cells (zf (y.setL l1)) 48 (0,0))):=hid (by rw[hw4,←HSt.o];exact Go.heap_setCell_same w3 ib 1 _ _ _ HN3.o);have HB4:Hid (Below w.heap.size w w4):=hid (by rw[hw4];exact HB3.o.setCell Hib.o _);have HW4:=hid hw4.symm;have HCc:=hid (HC.o w4 HB4.o);clear hI3 hw4 hib;go_upto_region 5 with fail
 rw[HW4.o];clear hwr;go_wp2_with(first|(refine wpList_load_row rfl 48 _ rfl ib rfl 48 (zf (y.setL l1)) (0,0) _ HN4.o underlying48 rfl (by rw[HS2.o];exact sizeIno) ?_)|(go_at_call 60;refine HCc.o.mono ?_;rintro e w6 ⟨rfl,hr6⟩))
 go_ret
 exact⟨rfl,hr6⟩
theorem sizeInfo:(prog.info? 54).map (fun i=>i.size)=some 3:=by kernel_rfl
theorem Qz{x:Nat}(s:ByteArray)(i:Nat)(y:Gd.Ino)(hy:y.Shape)(w:World)
 (hW:Ret w 25 #[.pointer (some ⟨x,0,none⟩),.string s] (.tuple #[.int .i64 i,.int .i64 0]))
 (hI:Ret w 17 #[.pointer (some ⟨x,0,none⟩),.int .i64 i] (.tuple #[zv y,.int .i64 0])):
 Calls prog 26 #[.pointer (some ⟨x,0,none⟩),.string s] w fun e w'=>e= .returned (.tuple #[.agg #[.int .i64 y.k,.int .i64 y.l,.int .i64 y.s],.int .i64 0])∧Below w.heap.size w w':=by
 have HW:=hid hW;have HI:=hid hI;have HS:=hid (zm hy);have HSh:=hid hy;clear hW hI hy;obtain⟨hb0,hr0⟩:=zI w #[.int .i64 0,.int .i64 0,.int .i64 0] 54;obtain⟨rb,hrb⟩:=nm w.heap.size;obtain⟨w0,hw0⟩:=nm (w.alloc (.cells #[.int .i64 0,.int .i64 0,.int .i64 0] 54));rw[←hw0,←hrb]at hr0;rw[←hw0]at hb0;have HR0:=hid hr0;have HB0:=hid hb0;have HW0:=hid hw0.symm;have Hrb:=hid hrb.symm;have Hrb2:Hid (w.heap.size≤rb):=hid (by omega);have HWc:=hid (HW.o w0 hb0);clear hb0 hr0 hw0 hrb;unfold zv at*;go_enter func26,ntmps26;go_upto_region 1 with fail
 rw[HW0.o,Hrb.o];go_upto_region 4 with(go_at_call 25;refine HWc.o.mono ?_;rintro e w1 ⟨rfl,hb1⟩;have HB1:=HB0.t hb1;have HR1:=hid ((hb1.block rb (za HR0.o)).trans HR0.o);have HIc:=hid (HI.o w1 HB1.o);clear hb1)
 go_upto_region 5 with(first|(go_at_call 17;refine HIc.o.mono ?_;rintro e w2 ⟨rfl,hb2⟩;have HB2:=HB1.t hb2;have HR2:=hid ((hb2.block rb (za HR1.o)).trans HR1.o);clear hb2)|(rw[←zA];refine wpList_store_mid rfl 48 _ _ rfl w2.heap.size 0 (zf y) rfl rfl (zd (heap_alloc_new _ _) (by rw[zc,HS.o])) (by rw[HS.o];exact sizeIno) (zr _) ?_;obtain⟨hbw,hbg⟩:=zi w2 zU 48 (zf y).toList (by rw[zc,Array.length_toList,HS.o]);generalize (World.setCells _ _ _ _)=w3 at hbw hbg⊢;have HB3:=HB2.t hbw;have HR3:=hid ((hbw.block rb (za HR2.o)).trans HR2.o);have HN3:Hid (w3.heap[w2.heap.size]? =some (.cells (zf y) 48 (0,0))):=hid hbg;clear hbw hbg))
 obtain⟨ib,hib⟩:=nm w2.heap.size;rw[←hib]at HN3⊢;have hI3:zp w3 ib y:=⟨HN3.o,HSh.o⟩;have b0:=hI3.c0;have b1:=hI3.c1;have b2:=hI3.c2;have r0:=cell_of_row w3 rb 0 _ _ _ HR3.o;have r1:=cell_of_row w3 rb 1 _ _ _ HR3.o;have r2:=cell_of_row w3 rb 2 _ _ _ HR3.o;have f0:=frozen_of_row w3 rb 0 _ _ HR3.o;have f1:=frozen_of_row w3 rb 1 _ _ HR3.o;have f2:=frozen_of_row w3 rb 2 _ _ HR3.o;clear hI3 hib;go_wp2;have g0:=Go.heap_setCell_same w3 rb 0 _ _ (.int .i64 y.k) HR3.o;have g1:=Go.heap_setCell_same _ rb 1 _ _ (.int .i64 y.l) g0;have g2:=Go.heap_setCell_same _ rb 2 _ _ (.int .i64 y.s) g1;refine bodyPost_ret (zO rfl _ _ rb 54 #[.int .i64 y.k,.int .i64 y.l,.int .i64 y.s] (0,0) _ rfl g2 underlying54 rfl sizeInfo) rfl ?_;exact⟨rfl,((HB3.o.setCell Hrb2.o _).setCell Hrb2.o _).setCell Hrb2.o _⟩
theorem Jr[zg]{x t c K:Nat}{S:List UInt8}{M:Gd.Vol}{F:Nat→Prop}(k i:Nat)(o r:Int)(w:World)(R:World→Prop)(h:zy x t S M c K w F)(h1:1≤i)(h2:i≤32)(hk:k<8)(ho:(M.ino i).O[k]? =some o)(ho1:1≤o)(ho8:o≤8)
 (hC:∀W,Below w.heap.size w W→Calls prog 60 #[.pointer (some ⟨x,0,none⟩),.int .i64 i,zv ((M.ino i).setO k (o-1))] W fun e w'=>e= .returned (.int .i64 r)∧R w'):
 Calls prog 42 #[.pointer (some ⟨x,0,none⟩),.int .i64 ((k:Int)+1),.int .i64 i] w fun e w'=>e= .returned (.int .i64 r)∧R w':=by
 have HI:=hid (zZ (i:Int) w h (by omega) (by omega));rw[Int.toNat_natCast]at HI;have hsh:(M.ino i).Shape:=by
  obtain⟨P,h3,h4⟩:=h;exact h4.shape i h1 h2
 obtain⟨y,hy⟩:=nm (M.ino i);rw[←hy]at HI hsh hC ho;have HS:=hid (zm hsh);have HSh:=hid hsh;have Ho:=hid ho;have HS2:=hid (zm (Gd.Ino.setO_shape hsh k (o-1)));have HSt:=hid (jz (qQ hsh hk (o-1)));have HC:=hid hC;have HIs:=hid fun W=>j3 ((k:Int)+1) W;rw[show(decide ((1:Int)≤(k:Int)+1)&&decide (((k:Int)+1)≤8))=true by simp;omega]at HIs;have hk8:(k:Int)<8:=by omega
 have hk0:(0:Int)≤k:=by omega
 obtain⟨o1,ho1q⟩:=nm (o-1);have hwo:IntKind.i64.wrap (o-1)=o1:=by rw[ho1q,IntKind.wrap_i64];omega
 have hob:(o==0)=false:=by simp;omega
 have hon:¬o=0:=by omega
 rw[←ho1q]at HSt HS2 HC;clear h h1 h2 hsh hy hC ho1q ho ho1 ho8;unfold zv at*;go_enter func42,ntmps42;go_upto_region 2 with(first|(go_at_call 17;refine HI.o.mono ?_;rintro e w2 ⟨rfl,hb2⟩;have HB2:=hid hb2;clear hb2)|(rw[←zA];refine wpList_store_mid rfl 48 _ _ rfl w2.heap.size 0 (zf y) rfl rfl (zd (heap_alloc_new _ _) (by rw[zc,HS.o])) (by rw[HS.o];exact sizeIno) (zr _) ?_;obtain⟨hbw,hbg⟩:=zi w2 zU 48 (zf y).toList (by rw[zc,Array.length_toList,HS.o]);generalize (World.setCells _ _ _ _)=w3 at hbw hbg⊢;have HB3:=HB2.t hbw;have HN3:Hid (w3.heap[w2.heap.size]? =some (.cells (zf y) 48 (0,0))):=hid hbg;clear hbw hbg))
 obtain⟨ib,hib⟩:=nm w2.heap.size;have Hib:Hid (w.heap.size≤ib):=hid (by rw[hib];exact HB2.o.size);rw[←hib]at HN3⊢;have hI3:zp w3 ib y:=⟨HN3.o,HSh.o⟩;obtain⟨b1,f1⟩:=hI3.cO (k:=k) (n:=o) Ho.o;obtain⟨w4,hw4⟩:=nm (w3.setCell ⟨ib,7+k,none⟩ (.int .i64 o1));have HN4:Hid (w4.heap[ib]? =some (.cells (zf (y.setO k o1)) 48 (0,0))):=hid (by rw[hw4,←HSt.o];exact Go.heap_setCell_same w3 ib (7+k) _ _ _ HN3.o);have HB4:Hid (Below w.heap.size w w4):=hid (by rw[hw4];exact HB3.o.setCell Hib.o _);have HW4:=hid hw4.symm;have HCc:=hid (HC.o w4 HB4.o);clear hI3 hw4 hib;go_upto_region 5 with(go_at_call 59;refine(HIs.o _).mono ?_;rintro e wq ⟨rfl,rfl⟩)
 rw[HW4.o];clear hwo;go_wp2_with(first|(refine wpList_load_row rfl 48 _ rfl ib rfl 48 (zf (y.setO k o1)) (0,0) _ HN4.o underlying48 rfl (by rw[HS2.o];exact sizeIno) ?_)|(go_at_call 60;refine HCc.o.mono ?_;rintro e w6 ⟨rfl,hr6⟩))
 go_ret
 exact⟨rfl,hr6⟩
end
section
open Go.Shelf
attribute [local go_sem] Oper.semAt_some
theorem yY[zg]{x t c K d a:Nat}{S:List UInt8}{M:Gd.Vol}{F:Nat→Prop}(n:Int)(T:Gd.Tab)(more spare:Int)(w:World)(h:zy x t S M c K w F)(h1:1≤d)(h2:d≤32)(ha:a<16)(hT:Gd.TabOk T)(hu:Gd.usedT T (a/4)=false)(hB:(M.ino d).B[a/4]? =some n)(hmay:Gd.mayI (((M.ino d).setB (a/4) 0).setS ((M.ino d).s+more))=true)(hsz:0≤(M.ino d).s+more∧(M.ino d).s+more≤16)(hc:c+10<64):
 Calls prog 149 #[.pointer (some ⟨x,0,none⟩),.int .i64 d,.int .i64 a,zW T,.int .i64 more,.int .i64 spare] w fun e w'=>e= .returned (.int .i64 0)∧zt x t S ((M.setMap (Gd.giveI M.map n)).setIno d (((M.ino d).setB (a/4) 0).setS ((M.ino d).s+more))) (c+2) K F w w':=by
 obtain⟨k,hk⟩:=nm (a/4);have hq:=VO a;rw[←hk]at hq hu hB hmay⊢;have hk4:k<4:=by omega
 have hsh:(M.ino d).Shape:=by
  obtain⟨P,h3,h4⟩:=h;exact h4.shape d h1 h2
 have HTs:=hid (zF hT.len);obtain⟨hb0,hr0⟩:=zI w (zk T) 77;obtain⟨tb,htb⟩:=nm w.heap.size;obtain⟨w0,hw0⟩:=nm (w.alloc (.cells (zk T) 77));rw[←hw0,←htb]at hr0;rw[←hw0]at hb0;have HL0:=hid ((Tl.start h).new hb0 (k:=tb) (by omega) hr0);have HIn:=hid (zZ (d:Int) w0 (h.below hb0) (by omega) (by omega));rw[Int.toNat_natCast]at HIn;have HGv:=hid fun W F1 (h3:zy x t S M c K W F1) gb (hg:W.heap[gb]? =some (.cells #[.int .i64 n] 3 (0,0)))=>uK gb 0 1 [n] W h3 (by omega) (by show 1≤100;omega) (za hg) (fun j m hj=>by
  match j,hj with
  |0,hj=>
   cases hj
   exact cell_of_row W gb 0 _ _ _ hg)
 have HUs:=hid fun W=>xG T hT.len k hk4 W;rw[hu]at HUs;obtain⟨x0,hx0⟩:=nm (M.ino d);rw[←hx0]at hsh hB hmay hsz HIn⊢;obtain⟨x1,hx1⟩:=nm (x0.setB k 0);rw[←hx1]at hmay⊢;obtain⟨y,hy⟩:=nm ((x1.setS (x0.s+more)));rw[←hy]at hmay⊢;have hsh1:x1.Shape:=by rw[hx1];exact Gd.Ino.setB_shape hsh k 0
 have hB1:x1.B[k]? =some 0:=by
  rw[hx1];show(x0.B.set k 0)[k]? =some 0
  rw[List.getElem?_set_self (by rw[hsh.1];exact hk4)]
 have hs1:x1.s=x0.s:=by rw[hx1];rfl
 have hC1:(zf x0).setIfInBounds (3+k) (.int .i64 0)=zf x1:=by rw[hx1];exact jz (uN hsh hk4 0)
 have hC2:(zf x1).setIfInBounds 2 (.int .i64 (x0.s+more))=zf y:=by rw[hy];exact jz (yK x1 _)
 have hyS:y.Shape:=by rw[hy];exact Gd.Ino.setS_shape hsh1 _
 obtain⟨M1,hM1⟩:=nm (M.setMap (Gd.giveI M.map n));have hM1':M.setMap ([n].foldl Gd.giveI M.map)=M1:=by rw[hM1];rfl
 rw[hM1']at HGv;rw[←hM1];have HSi:=hid fun W F1 (h3:zy x t S M1 (c+1) K W F1)=>jI (d:Int) y hyS hmay W h3 (by omega) (by omega) (by omega);rw[Int.toNat_natCast]at HSi;have HS:=hid (zm hsh);have HSy:=hid (zm hyS);have HX:=hid (And.intro hsh hsh1);have HB0:=hid hB;have HB1:=hid hB1;have HC1:=hid hC1;have HC2:=hid hC2;have Htb:=hid htb.symm;have HW0:=hid hw0.symm;obtain⟨sm,hsm⟩:=nm (x0.s+more);have hwr:IntKind.i64.wrap (x0.s+more)=sm:=by rw[hsm,IntKind.wrap_i64];omega
 obtain⟨xs,hxs⟩:=nm x0.s;rw[←hxs]at hwr hs1;rw[←hsm]at HC2;have Hs1:=hid hs1;have g4:(k:Int)<4:=by omega
 have g0:(0:Int)≤k:=by omega
 have ga:(0:Int)≤a:=by omega
 have Hq:=hid hq;clear hk hq hB hmay hsz hsh hsh1 hB1 hC1 hC2 hyS htb hw0 hr0 hb0 h h1 h2 hT hu hsm hxs hs1 hx0 hy hx1 hM1 hM1';unfold zv zW at*;go_enter func149,ntmps149;go_upto_region 1 with fail
 rw[HW0.o,Htb.o];go_upto_region 2 with(first|(go_at_call 17;refine HIn.o.mono ?_;rintro e w2 ⟨rfl,hb2⟩;have HL2:=hid (HL0.o.below hb2);clear hb2)|(rw[←zA];refine wpList_store_mid rfl 48 _ _ rfl w2.heap.size 0 (zf x0) rfl rfl (zd (heap_alloc_new _ _) (by rw[zc,HS.o])) (by rw[HS.o];exact sizeIno) (zr _) ?_;obtain⟨hbw,hbg⟩:=zi w2 zU 48 (zf x0).toList (by rw[zc,Array.length_toList,HS.o]);generalize (World.setCells _ _ _ _)=w3 at hbw hbg⊢;have HL3:=hid (HL2.o.new hbw (Nat.le_refl _) (o:= .cells (zf x0) 48 (0,0)) hbg);clear hbw hbg))
 obtain⟨ib,hib⟩:=nm w2.heap.size;rw[←hib]at HL3⊢;have htib:Hid (ib≠tb):=hid (by
  have:=za (HL2.o.get (k:=tb) (o:= .cells (zk T) 77 (0,0)) (by simp))
  omega)
 clear hib;have HTr3:=hid (HL3.o.get (k:=tb) (o:= .cells (zk T) 77 (0,0)) (by simp));go_upto_region 5 with fail
 rw[Hq.o];go_upto_region 6 with(first|(refine wpList_load_row rfl 77 _ rfl tb rfl 77 (zk T) (0,0) _ HTr3.o underlying77 rfl (by rw[HTs.o];exact sizeTab) ?_)|(go_at_call 174;refine(HUs.o w3).mono ?_;rintro e w4 ⟨rfl,hb4⟩;have HL4:=hid (HL3.o.below hb4);clear hb4))
 have hI4:zp w4 ib x0:=⟨HL4.o.get (k:=ib) (by simp),HX.o.1⟩;obtain⟨b0,-⟩:=hI4.cB HB0.o;obtain⟨w5,hw5⟩:=nm (w4.alloc (.cells #[.int .i64 n] 3));obtain⟨gb,hgb⟩:=nm w4.heap.size;have hl5:Tl x t S M c K F w w5 [(gb,.cells #[.int .i64 n] 3 (0,0)),(ib,.cells (zf x0) 48 (0,0)),(tb,.cells (zk T) 77 (0,0))]:=by
  rw[hw5,hgb];exact HL4.o.new ((Below.refl _ _).alloc (Nat.le_refl _) _) (Nat.le_refl _) (heap_alloc_new _ _)
 have hgr:=hl5.get (k:=gb) (o:= .cells #[.int .i64 n] 3 (0,0)) (by simp);obtain⟨F5,h5s,h5l⟩:=hl5;have HGc:Hid (Calls prog 117 #[.pointer (some ⟨x,0,none⟩),.slice (some ⟨gb,0,none⟩) 1 1] w5 fun e w'=>e= .returned (.int .i64 0)∧Tl x t S M1 (c+1) K F w w' [(ib,.cells (zf x0) 48 (0,0)),(tb,.cells (zk T) 77 (0,0))]):=hid (by
  refine(HGv.o w5 F5 h5s.inv gb hgr).mono ?_
  rintro e w' ⟨he,ht⟩;exact⟨he,Tl.next h5s (fun p hp=>h5l p (List.mem_cons_of_mem _ hp)) ht⟩)
 have HW5:=hid hw5.symm;have Hgb:=hid hgb.symm;clear hI4 hw5 hgb hgr h5s h5l;go_upto_region 7 with(first|(rw[HW5.o,Hgb.o];go_at_call 117;refine HGc.o.mono ?_;rintro e w6 ⟨rfl,hl6⟩;have HL6:=hid hl6;clear hl6)|(go_at_call 117;rw[HW5.o,Hgb.o];refine HGc.o.mono ?_;rintro e w6 ⟨rfl,hl6⟩;have HL6:=hid hl6;clear hl6))
 clear b0;have hI6:zp w6 ib x0:=⟨HL6.o.get (k:=ib) (by simp),HX.o.1⟩;obtain⟨b0,f0⟩:=hI6.cB HB0.o;clear hI6;have hl7:Tl x t S M1 (c+1) K F w (w6.setCell ⟨ib,3+k,none⟩ (.int .i64 0)) [(ib,.cells (zf x1) 48 (0,0))]:=by
  refine HL6.o.set (k:=ib) (C:=zf x0) (ty:=48) (by simp) _ fun p hp=> ?_;rw[HC1.o];exact Or.inl (by simpa using hp)
 obtain⟨w7,hw7⟩:=nm (w6.setCell ⟨ib,3+k,none⟩ (.int .i64 0));rw[←hw7]at hl7;have HL7:=hid hl7;have HW7:=hid hw7.symm;clear hl7 hw7;go_upto_region 10 with fail
 rw[HW7.o];clear b0 f0;have hI7:zp w7 ib x1:=⟨HL7.o.get (k:=ib) (by simp),HX.o.2⟩;obtain⟨b0,-⟩:=hI7.cB HB1.o;have b2:=hI7.c2;rw[Hs1.o]at b2;have f2:=hI7.f 2;clear hI7;have hl9:Tl x t S M1 (c+1) K F w (w7.setCell ⟨ib,2,none⟩ (.int .i64 sm)) [(ib,.cells (zf y) 48 (0,0))]:=by
  refine HL7.o.set (k:=ib) (C:=zf x1) (ty:=48) (by simp) _ fun p hp=> ?_;rw[HC2.o];exact Or.inl (by simpa using hp)
 obtain⟨w9,hw9⟩:=nm (w7.setCell ⟨ib,2,none⟩ (.int .i64 sm));rw[←hw9]at hl9;have HL9:=hid hl9;have HW9:=hid hw9.symm;clear hl9 hw9;go_upto_region 20 with fail
 rw[HW9.o];have HIr:=hid (HL9.o.get (k:=ib) (o:= .cells (zf y) 48 (0,0)) (by simp));obtain⟨F9,h9s,h9l⟩:=HL9.o;have HSc9:=hid (HSi.o w9 F9 h9s.inv);have HNx:=hid fun b N d (h:zt x t S N d K F9 w9 b)=>Tl.next h9s h9l h;clear h9s h9l b2 f2;go_wp2_with(first|(refine wpList_load_row rfl 48 _ rfl ib rfl 48 (zf y) (0,0) _ HIr.o underlying48 rfl (by rw[HSy.o];exact sizeIno) ?_)|(go_at_call 74;refine HSc9.o.mono ?_;rintro e w10 ⟨rfl,ht10⟩;have HL10:=hid (HNx.o _ _ _ ht10);clear ht10))
 go_ret
 exact⟨rfl,HL10.o.turns⟩
end
section
open Go.Shelf
attribute [local go_sem] Oper.semAt_some
theorem uz:zv Gd.rootI= .agg #[.int .i64 2,.int .i64 1,.int .i64 0,.int .i64 0,.int .i64 0,.int .i64 0,.int .i64 0,.int .i64 0,.int .i64 0,.int .i64 0,.int .i64 0,.int .i64 0,.int .i64 0,.int .i64 0,.int .i64 0]:=rfl
theorem YX{x:Nat}(s n:ByteArray)(wi d f:Nat)(E spare:Int)(w:World)(R:World→Prop)(hE:E≠0)
 (hW:Ret w 25 #[.pointer (some ⟨x,0,none⟩),.string s] (.tuple #[.int .i64 wi,.int .i64 E]))
 (hP:Ret w 89 #[.pointer (some ⟨x,0,none⟩),.string s] (.tuple #[.int .i64 d,.string n,.int .i64 0]))
 (hF:Ret w 90 #[.pointer (some ⟨x,0,none⟩),.int .i64 d,.string n] (.tuple #[.int .i64 0,.int .i64 0]))
 (hM:∀W,Below w.heap.size w W→Calls prog 91 #[.pointer (some ⟨x,0,none⟩),.int .i64 d,.string n,zv Gd.rootI,.int .i64 spare] W fun e w'=>e= .returned (.tuple #[.int .i64 f,.int .i64 0])∧R w'):
 Calls prog 39 #[.pointer (some ⟨x,0,none⟩),.string s,.int .i64 spare] w fun e w'=>e= .returned (.int .i64 0)∧R w':=by
 have HW0:=hid (hW w (Below.refl _ _));have HP:=hid hP;have HF:=hid hF;have HM:Hid (∀W,Below w.heap.size w W→Calls prog 91 #[.pointer (some ⟨x,0,none⟩),.int .i64 d,.string n,.agg #[.int .i64 2,.int .i64 1,.int .i64 0,.int .i64 0,.int .i64 0,.int .i64 0,.int .i64 0,.int .i64 0,.int .i64 0,.int .i64 0,.int .i64 0,.int .i64 0,.int .i64 0,.int .i64 0,.int .i64 0],.int .i64 spare] W fun e w'=>e= .returned (.tuple #[.int .i64 f,.int .i64 0])∧R w'):=hid fun W hW=>by
  have h0:=hM W hW;rw[uz]at h0;exact h0
 have hEb:(E==0)=false:=by simp[hE]
 clear hW hP hF hM;go_enter func39,ntmps39;go_upto_region 4 with(go_at_call 25;refine HW0.o.mono ?_;rintro e w2 ⟨rfl,hb2⟩;have HB2:=hid hb2;clear hb2)
 have HP2:=hid (HP.o w2 HB2.o);go_upto_region 7 with(go_at_call 89;refine HP2.o.mono ?_;rintro e w3 ⟨rfl,hb3⟩;have HB3:=HB2.t hb3;clear hb3)
 have HF3:=hid (HF.o w3 HB3.o);go_upto_region 10 with(go_at_call 90;refine HF3.o.mono ?_;rintro e w4 ⟨rfl,hb4⟩;have HB4:=HB3.t hb4;clear hb4)
 have HMc:=hid (HM.o w4 HB4.o);go_wp2_with(go_at_call 91;refine HMc.o.mono ?_;rintro e w6 ⟨rfl,hr6⟩)
 go_ret
 exact⟨rfl,hr6⟩
theorem uA{x:Nat}(s n:ByteArray)(i d:Nat)(r:Int)(w:World)(Q R:World→Prop)
 (hP:Ret w 89 #[.pointer (some ⟨x,0,none⟩),.string s] (.tuple #[.int .i64 d,.string n,.int .i64 0]))
 (hT:∀W,Below w.heap.size w W→Calls prog 107 #[.pointer (some ⟨x,0,none⟩),.int .i64 d,.string n] W fun e w'=>e= .returned (.int .i64 0)∧Q w')
 (hL:∀W,Q W→Calls prog 94 #[.pointer (some ⟨x,0,none⟩),.int .i64 i] W fun e w'=>e= .returned (.int .i64 r)∧R w'):
 Calls prog 93 #[.pointer (some ⟨x,0,none⟩),.string s,.int .i64 i,.func (.func 94) #[.pointer (some ⟨x,0,none⟩)] #[]] w fun e w'=>e= .returned (.int .i64 r)∧R w':=by
 have HP0:=hid (hP w (Below.refl _ _));have HT:=hid hT;have HL:=hid hL;clear hP hT hL;go_enter func93,ntmps93;go_upto_region 4 with(go_at_call 89;refine HP0.o.mono ?_;rintro e w1 ⟨rfl,hb1⟩;have HTc:=hid (HT.o w1 hb1);clear hb1)
 go_upto_region 7 with(go_at_call 107;refine HTc.o.mono ?_;rintro e w2 ⟨rfl,hq2⟩;have HLc:=hid (HL.o w2 hq2);clear hq2)
 go_wp2_with(go_at_call 94;refine HLc.o.mono ?_;rintro e w3 ⟨rfl,hr3⟩)
 go_ret
 exact⟨rfl,hr3⟩
theorem un{x:Nat}(s:ByteArray)(i:Nat)(y:Gd.Ino)(r:Int)(hy:y.Shape)(hk:y.k≠2)(w:World)(R:World→Prop)
 (hW:Ret w 25 #[.pointer (some ⟨x,0,none⟩),.string s] (.tuple #[.int .i64 i,.int .i64 0]))
 (hI:Ret w 17 #[.pointer (some ⟨x,0,none⟩),.int .i64 i] (.tuple #[zv y,.int .i64 0]))
 (hR:∀W,Below w.heap.size w W→Calls prog 93 #[.pointer (some ⟨x,0,none⟩),.string s,.int .i64 i,.func (.func 94) #[.pointer (some ⟨x,0,none⟩)] #[]] W fun e w'=>e= .returned (.int .i64 r)∧R w'):
 Calls prog 41 #[.pointer (some ⟨x,0,none⟩),.string s] w fun e w'=>e= .returned (.int .i64 r)∧R w':=by
 have HW0:=hid (hW w (Below.refl _ _));have HI:=hid hI;have HR:=hid hR;have HS:=hid (zm hy);have HSh:=hid hy;have hkb:(y.k==2)=false:=by simp[hk]
 clear hW hI hy hR;unfold zv at*;go_enter func41,ntmps41;go_upto_region 4 with(go_at_call 25;refine HW0.o.mono ?_;rintro e w1 ⟨rfl,hb1⟩;have HB1:=hid hb1;have HIc:=hid (HI.o w1 hb1);clear hb1)
 go_upto_region 5 with(first|(go_at_call 17;refine HIc.o.mono ?_;rintro e w2 ⟨rfl,hb2⟩;have HB2:=HB1.t hb2;clear hb2)|(rw[←zA];refine wpList_store_mid rfl 48 _ _ rfl w2.heap.size 0 (zf y) rfl rfl (zd (heap_alloc_new _ _) (by rw[zc,HS.o])) (by rw[HS.o];exact sizeIno) (zr _) ?_;obtain⟨hbw,hbg⟩:=zi w2 zU 48 (zf y).toList (by rw[zc,Array.length_toList,HS.o]);generalize (World.setCells _ _ _ _)=w3 at hbw hbg⊢;have HB3:=HB2.t hbw;have HN3:Hid (w3.heap[w2.heap.size]? =some (.cells (zf y) 48 (0,0))):=hid hbg;clear hbw hbg))
 obtain⟨ib,hib⟩:=nm w2.heap.size;rw[←hib]at HN3⊢;have hI3:zp w3 ib y:=⟨HN3.o,HSh.o⟩;have b0:=hI3.c0;clear hI3 hib;go_upto_region 9 with fail
 have HRc:=hid (HR.o w3 HB3.o);go_wp2_with fail
 refine HRc.o.mono ?_;rintro e w4 ⟨rfl,hr4⟩;go_wp2;go_ret
 exact⟨rfl,hr4⟩
end
namespace Gd
def z8:List Int:=[0,0,0,0,0,0,0,0]
def lvD:Tab:=setT noTab 14 ⟨[100],2⟩
def lvT:Tab:=setT noTab 14 ⟨[97],3⟩
theorem lvD_ok:TabOk lvD:=noTab_ok.set (Or.inr ⟨names4.2.2.2,by decide,by decide⟩)
theorem lvT_ok:TabOk lvT:=noTab_ok.set (Or.inr ⟨names4.1,by decide,by decide⟩)
theorem lvD_no:∀(k:Fin 3) (i:Fin 4),entAt lvD (4*k.val+i.val)=noEnt:=by decide+kernel
theorem lvT_no:∀(k:Fin 3) (i:Fin 4),entAt lvT (4*k.val+i.val)=noEnt:=by decide+kernel
theorem findD:findT noTab [100] 14=none∧findT lvD [100] 14=some 14∧(entAt lvD 14).i=2:=by decide+kernel
theorem findA:findT noTab [97] 14=none∧findT lvT [97] 14=some 14∧(entAt lvT 14).i=3:=by decide+kernel
theorem place0:placeT noTab 14=some 14:=by decide+kernel
theorem lvT_back:setT lvT 14 noEnt=noTab∧usedT noTab 3=false:=by decide+kernel
theorem lvD_ent:∀e∈lvD,e≠noEnt→e.i=2:=by decide+kernel
theorem lvT_ent:∀e∈lvT,e≠noEnt→e.i=3:=by decide+kernel
theorem dir_last{N:Vol}{d:Nat}{T:Tab}{n:Nat}(lo:1≤d)(hi:d≤32)(kind:(N.ino d).k=2)(ok:TabOk T)(hB:(N.ino d).B=[0,0,0,(n:Int)])(hno:∀(k:Fin 3) (i:Fin 4),entAt T (4*k.val+i.val)=noEnt)(hn1:1≤n)(hn2:n≤128)(hb:N.blk n=blkT T 3):DirOf N d T:=by
 refine⟨lo,hi,kind,ok,fun k hk=> ?_⟩;rw[hB];by_cases e:k=3
 ·subst e;exact⟨n,rfl,Or.inr ⟨hn1,hn2,hb⟩⟩
 ·refine⟨0,?_,Or.inl ⟨rfl,fun i hi=>hno ⟨k,by omega⟩ ⟨i,hi⟩⟩⟩;match k,hk,e with
  |0,_,_=>rfl
  |1,_,_=>rfl
  |2,_,_=>rfl
  |3,_,e=>exact absurd rfl e
theorem dir_none{N:Vol}{d:Nat}(lo:1≤d)(hi:d≤32)(kind:(N.ino d).k=2)(hB:(N.ino d).B=[0,0,0,0]):DirOf N d noTab:=by
 refine⟨lo,hi,kind,noTab_ok,fun k hk=>⟨0,?_,Or.inl ⟨rfl,fun i _=>noTab_at _⟩⟩⟩;rw[hB];match k,hk with
 |0,_=>rfl
 |1,_=>rfl
 |2,_=>rfl
 |3,_=>rfl
structure Lv1(M:Vol):Prop where
 i1:M.ino 1=⟨2,1,1,[0,0,0,1],z8⟩
 i2:M.ino 2=rootI
 rest:∀i,3≤i→M.ino i=noIno
 map:M.map=map1
 b1:M.blk 1=blkT lvD 3
structure Lv2(M:Vol):Prop where
 i1:M.ino 1=⟨2,1,1,[0,0,0,1],z8⟩
 i2:M.ino 2=⟨2,1,1,[0,0,0,2],z8⟩
 i3:M.ino 3=jf.setO 0 1
 rest:∀i,4≤i→M.ino i=noIno
 map:M.map=map2
 b1:M.blk 1=blkT lvD 3
 b2:M.blk 2=blkT lvT 3
def tre1(d:Nat):Tab:=if d=1 then lvD else noTab
def tre2(d:Nat):Tab:=if d=1 then lvD else if d=2 then lvT else noTab
theorem Lv1.tree{M:Vol}(h:Lv1 M):Tree M tre1:=by
 have hd:∀d,1≤d→(M.ino d).k=2→d=1∨d=2:=fun d h1 hk=>by
  by_cases e:3≤d
  ·rw[h.rest d e]at hk;exact absurd hk (by decide)
  ·omega
 refine⟨by rw[h.i1],fun d h1 h2 hk=> ?_,fun d h1 h2 hk e he hne=> ?_⟩
 ·rcases hd d h1 hk with rfl|rfl
  ·exact dir_last (n:=1) (by omega) (by omega) (by rw[h.i1]) lvD_ok (by rw[h.i1];rfl) lvD_no (by omega) (by omega) h.b1
  ·exact dir_none (by omega) (by omega) hk (by rw[h.i2];rfl)
 ·rcases hd d h1 hk with rfl|rfl
  ·rw[lvD_ent e he hne,h.i2];decide
  ·exact absurd (List.eq_of_mem_replicate he) hne
theorem Lv2.tree{M:Vol}(h:Lv2 M):Tree M tre2:=by
 have hd:∀d,1≤d→(M.ino d).k=2→d=1∨d=2:=fun d h1 hk=>by
  by_cases e:4≤d
  ·rw[h.rest d e]at hk;exact absurd hk (by decide)
  ·by_cases e3:d=3
   ·rw[e3,h.i3]at hk;exact absurd hk (by decide)
   ·omega
 refine⟨by rw[h.i1],fun d h1 h2 hk=> ?_,fun d h1 h2 hk e he hne=> ?_⟩
 ·rcases hd d h1 hk with rfl|rfl
  ·exact dir_last (n:=1) (by omega) (by omega) (by rw[h.i1]) lvD_ok (by rw[h.i1];rfl) lvD_no (by omega) (by omega) h.b1
  ·exact dir_last (n:=2) (by omega) (by omega) (by rw[h.i2]) lvT_ok (by rw[h.i2];rfl) lvT_no (by omega) (by omega) h.b2
 ·rcases hd d h1 hk with rfl|rfl
  ·rw[lvD_ent e he hne,h.i2];show(2:Int)≠0
   decide
  ·rw[lvT_ent e he hne,h.i3];decide
theorem lv1_of(S:List UInt8){N:Vol}(hN:N=((((freshV S).setIno 2 rootI).take.setBlk 1 (blkT lvD 3)).setIno 1 ⟨2,1,1,[0,0,0,1],z8⟩)):Lv1 N:=by
 have hmp:((freshV S).setIno 2 rootI).map=map0:=rfl;have hf:firstB ((freshV S).setIno 2 rootI).map=1:=by rw[hmp];exact first0.1
 subst hN;refine⟨rfl,rfl,fun i hi=> ?_,?_,?_⟩
 ·show(if i=1 then _ else if i=2 then rootI else if i=1 then rootI else noIno)=noIno
  rw[if_neg (by omega),if_neg (by omega),if_neg (by omega)]
 ·show takeB ((freshV S).setIno 2 rootI).map (firstB ((freshV S).setIno 2 rootI).map)=_
  rw[hf];rfl
 ·simp[Vol.setIno,Vol.setBlk]
theorem lv2_of{M N:Vol}(h:Lv1 M)(hN:N=(((M.setIno 3 (jf.setO 0 1)).take.setBlk 2 (blkT lvT 3)).setIno 2 ⟨2,1,1,[0,0,0,2],z8⟩)):Lv2 N:=by
 have hf:firstB M.map=2:=by rw[h.map];exact first1.1
 subst hN;refine⟨h.i1,rfl,rfl,fun i hi=> ?_,?_,?_,?_⟩
 ·show(if i=2 then _ else if i=3 then _ else M.ino i)=noIno
  rw[if_neg (by omega),if_neg (by omega)];exact h.rest i (by omega)
 ·show takeB M.map (firstB M.map)=_
  rw[hf,h.map];rfl
 ·have hb:=h.b1;simp[Vol.setIno,Vol.setBlk,Vol.take,Vol.setMap,hf,hb]
 ·simp[Vol.setIno,Vol.setBlk]
theorem walk_d0(S:List UInt8):walkT (freshV S) (fun _=>noTab) [[100]] 1=(0,10):=by
 unfold walkT;rw[if_pos (show((freshV S).ino 1).k=2 from rfl),hash4.2.2.2,findD.1]
theorem place_d0(S:List UInt8):placeP (freshV S) (fun _=>noTab) [] [100]=(1,[100],0):=by
 unfold placeP walkT;rfl
theorem Lv1.walk_a{M:Vol}(h:Lv1 M):walkT M tre1 [[100],[97]] 1=(0,10):=by
 have e2:(entAt (tre1 1) 14).i=2:=findD.2.2;unfold walkT;rw[if_pos (by rw[h.i1]),hash4.2.2.2,show findT (tre1 1) [100] 14=some 14 from findD.2.1];show walkT M tre1 [[97]] (entAt (tre1 1) 14).i=_
 rw[e2];unfold walkT;rw[if_pos (by rw[h.i2];rfl),hash4.1,show findT (tre1 2) [97] 14=none from findA.1]
theorem Lv1.walk_d{M:Vol}(h:Lv1 M):walkT M tre1 [[100]] 1=(2,0):=by
 have e2:(entAt (tre1 1) 14).i=2:=findD.2.2;unfold walkT;rw[if_pos (by rw[h.i1]),hash4.2.2.2,show findT (tre1 1) [100] 14=some 14 from findD.2.1];show walkT M tre1 [] (entAt (tre1 1) 14).i=_
 rw[e2];rfl
theorem Lv1.place_a{M:Vol}(h:Lv1 M):placeP M tre1 [[100]] [97]=(2,[97],0):=by
 unfold placeP;rw[h.walk_d];show(if(0:Nat)≠0 then _ else if(M.ino 2).k=2 then _ else _)=_
 rw[if_neg (by omega),if_pos (by rw[h.i2];rfl)]
theorem Lv2.walk_d{M:Vol}(h:Lv2 M):walkT M tre2 [[100]] 1=(2,0):=by
 have e2:(entAt (tre2 1) 14).i=2:=findD.2.2;unfold walkT;rw[if_pos (by rw[h.i1]),hash4.2.2.2,show findT (tre2 1) [100] 14=some 14 from findD.2.1];show walkT M tre2 [] (entAt (tre2 1) 14).i=_
 rw[e2];rfl
theorem Lv2.walk_a{M:Vol}(h:Lv2 M):walkT M tre2 [[100],[97]] 1=(3,0):=by
 have e2:(entAt (tre2 1) 14).i=2:=findD.2.2;have e3:(entAt (tre2 2) 14).i=3:=findA.2.2;unfold walkT;rw[if_pos (by rw[h.i1]),hash4.2.2.2,show findT (tre2 1) [100] 14=some 14 from findD.2.1];show walkT M tre2 [[97]] (entAt (tre2 1) 14).i=_
 rw[e2];unfold walkT;rw[if_pos (by rw[h.i2]),hash4.1,show findT (tre2 2) [97] 14=some 14 from findA.2.1];show walkT M tre2 [] (entAt (tre2 2) 14).i=_
 rw[e3];rfl
theorem Lv2.place_a{M:Vol}(h:Lv2 M):placeP M tre2 [[100]] [97]=(2,[97],0):=by
 unfold placeP;rw[h.walk_d];show(if(0:Nat)≠0 then _ else if(M.ino 2).k=2 then _ else _)=_
 rw[if_neg (by omega),if_pos (by rw[h.i2])]
theorem pathsL:Np.pathL [47,100]=some [[100]]∧Np.pathL [47,100,47,97]=some [[100],[97]]:=by decide+kernel
theorem mayL:mayI ⟨2,1,1,[0,0,0,1],z8⟩=true∧mayI ⟨2,1,1,[0,0,0,2],z8⟩=true∧mayI ⟨2,1,0,[0,0,0,0],z8⟩=true∧mayI ((jf.setO 0 1).setL 0)=true:=by decide+kernel
end Gd
section
open Go.Shelf
section
variable {x t K:Nat} {S Z:List UInt8} {F:Nat→Prop} {w a:World} {Ls:List (Nat×Obj)}
theorem Y2[zg](mx:Int)(h:Tl x t S (Gd.freshV Z) 0 K F w a Ls)(hmx:a.cell? ⟨0,0,none⟩=some (.int .i64 mx))(hml:0<a.heap.size):
 Calls prog 39 #[.pointer (some ⟨x,0,none⟩),.string ⟨#[47,100]⟩,.int .i64 0] a fun e b=>e= .returned (.int .i64 0)∧∃N,Gd.Lv1 N∧Tl x t S N 5 K F w b Ls:=by
 obtain⟨F1,h1,h2⟩:=h;have hT:=Gd.fresh_tree Z;have hD1:=hT.dir 1 (by omega) (by omega) rfl;have hh:Gd.hN [100]=14:=Gd.hash4.2.2.2;have hf1:Gd.firstB ((Gd.freshV Z).setIno 2 Gd.rootI).map=1:=Gd.first0.1;have hc0:Gd.countB ((Gd.freshV Z).setIno 2 Gd.rootI).map=0:=Gd.first0.2;refine(YX (x:=x) ⟨#[47,100]⟩ ⟨#[100]⟩ 0 1 2 10 0 a (fun b=>zt x t S ((((Gd.freshV Z).setIno 2 Gd.rootI).take.setBlk 1 (Gd.blkT Gd.lvD 3)).setIno 1 ⟨2,1,1,[0,0,0,1],Gd.z8⟩) 5 K F1 a b) (by omega) (fun W hW=> ?_) (fun W hW=> ?_) (fun W hW=> ?_) (fun W hW=> ?_)).mono ?_
 ·have:=qN ⟨#[47,100]⟩ [[100]] mx W (h1.inv.below hW) hT (by decide) ((hW.cell (p:=⟨0,0,none⟩) hml).trans hmx) Gd.pathsL.1
  rw[Gd.walk_d0]at this;exact this
 ·have:=qY ⟨#[47,100]⟩ [] [100] mx W (h1.inv.below hW) hT (by decide) ((hW.cell (p:=⟨0,0,none⟩) hml).trans hmx) Gd.pathsL.1
  rw[Gd.place_d0]at this;exact this
 ·exact ve [100] W (h1.inv.below hW) hD1 (by decide) (by decide) (by rw[hh];exact Gd.findD.1)
 ·refine(QG (M2:=((((Gd.freshV Z).setIno 2 Gd.rootI).take.setBlk 1 (Gd.blkT Gd.lvD 3)).setIno 1 ⟨2,1,1,[0,0,0,1],Gd.z8⟩)) (c2:=5) ⟨#[100]⟩ 2 Gd.rootI 0 W (h1.inv.below hW) Gd.root_shape Gd.root_may (by omega) (by omega) rfl (fun i i1 i2=> ?_) (by omega) (fun W1 F2 h3=> ?_)).mono ?_
  ·obtain rfl:i=1:=by omega
   show(2:Int)≠0
   decide
  ·refine vz [100] 2 0 0 14 W1 (fun w'=>zt x t S ((((Gd.freshV Z).setIno 2 Gd.rootI).take.setBlk 1 (Gd.blkT Gd.lvD 3)).setIno 1 ⟨2,1,1,[0,0,0,1],Gd.z8⟩) 5 K F2 W1 w') h3 (hD1.same rfl rfl) (by decide) (by rw[hh];exact Gd.place0) fun W2 hW2=> ?_;have:=xX (a:=14) (d:=1) Gd.lvD 1 0 W2 (h3.below hW2) (by omega) (by omega) (by omega) Gd.lvD_ok (Gd.usedT_set rfl (by omega) (QN (by omega))) rfl (by rw[hc0];decide) (by rw[hf1];exact Gd.mayL.1) (show(0:Int)≤0+1∧(0:Int)+1≤16 by decide) (by omega)
   rw[hf1]at this;exact this.mono fun e w' ⟨he,ht⟩=>⟨he,ht.behind hW2⟩
  ·rintro e w' ⟨he,ht⟩;exact⟨he,ht.behind hW⟩
 ·rintro e w' ⟨he,ht⟩;exact⟨he,_,Gd.lv1_of Z rfl,Tl.next h1 h2 ht⟩
theorem VV[zg]{M:Gd.Vol}(mx:Int)(h:Tl x t S M 5 K F w a Ls)(hL:Gd.Lv1 M)(hmx:a.cell? ⟨0,0,none⟩=some (.int .i64 mx))(hml:0<a.heap.size):
 Calls prog 40 #[.pointer (some ⟨x,0,none⟩),.int .i64 1,.string ⟨#[47,100,47,97]⟩,.int .i64 1,.bool false,.int .i64 0] a fun e b=>e= .returned (.tuple #[.int .i64 3,.int .i64 0])∧∃N,Gd.Lv2 N∧Tl x t S N 10 K F w b Ls:=by
 obtain⟨F1,h1,h2⟩:=h;have hT:=hL.tree;have hD2:Gd.DirOf M 2 Gd.noTab:=hT.dir 2 (by omega) (by omega) (by rw[hL.i2];rfl);have hh:Gd.hN [97]=14:=Gd.hash4.1;have hf1:Gd.firstB (M.setIno 3 (jf.setO 0 1)).map=2:=by
  show Gd.firstB M.map=2
  rw[hL.map];exact Gd.first1.1
 have hc0:Gd.countB (M.setIno 3 (jf.setO 0 1)).map=1:=by
  show Gd.countB M.map=1
  rw[hL.map];exact Gd.first1.2
 have hi2:(M.setIno 3 (jf.setO 0 1)).ino 2=Gd.rootI:=by
  show(if 2=3 then jf.setO 0 1 else M.ino 2)=_
  rw[if_neg (by omega),hL.i2]
 refine(YP (x:=x) 1 ⟨#[47,100,47,97]⟩ ⟨#[97]⟩ 0 2 3 0 a (fun b=>zt x t S (((M.setIno 3 (jf.setO 0 1)).take.setBlk 2 (Gd.blkT Gd.lvT 3)).setIno 2 ⟨2,1,1,[0,0,0,2],Gd.z8⟩) 10 K F1 a b) (by omega) (by omega) (fun W hW=> ?_) (fun W hW=> ?_) (fun W hW=> ?_)).mono ?_
 ·have:=qN ⟨#[47,100,47,97]⟩ [[100],[97]] mx W (h1.inv.below hW) hT (by decide) ((hW.cell (p:=⟨0,0,none⟩) hml).trans hmx) Gd.pathsL.2
  rw[hL.walk_a]at this;exact this
 ·have:=qY ⟨#[47,100,47,97]⟩ [[100]] [97] mx W (h1.inv.below hW) hT (by decide) ((hW.cell (p:=⟨0,0,none⟩) hml).trans hmx) Gd.pathsL.2
  rw[hL.place_a]at this;exact this
 ·refine(QG (M2:=(((M.setIno 3 (jf.setO 0 1)).take.setBlk 2 (Gd.blkT Gd.lvT 3)).setIno 2 ⟨2,1,1,[0,0,0,2],Gd.z8⟩)) (c2:=10) ⟨#[97]⟩ 3 (jf.setO 0 1) 0 W (h1.inv.below hW) (Gd.Ino.setO_shape jk 0 1) (by decide) (by omega) (by omega) (by rw[hL.rest 3 (by omega)];rfl) (fun i i1 i2=> ?_) (by omega) (fun W1 F2 h3=> ?_)).mono ?_
  ·rcases(by omega:i=1∨i=2)with rfl|rfl
   ·rw[hL.i1];show(2:Int)≠0
    decide
   ·rw[hL.i2];decide
  ·refine vz [97] 3 0 0 14 W1 (fun w'=>zt x t S (((M.setIno 3 (jf.setO 0 1)).take.setBlk 2 (Gd.blkT Gd.lvT 3)).setIno 2 ⟨2,1,1,[0,0,0,2],Gd.z8⟩) 10 K F2 W1 w') h3 (hD2.same (hi2.trans hL.i2.symm) rfl) (by decide) (by rw[hh];exact Gd.place0) fun W2 hW2=> ?_;have:=xX (a:=14) (d:=2) Gd.lvT 1 0 W2 (h3.below hW2) (by omega) (by omega) (by omega) Gd.lvT_ok (Gd.usedT_set rfl (by omega) (QN (by omega))) (by rw[hi2];rfl) (by rw[hc0];decide) (by rw[hf1,hi2];exact Gd.mayL.2.1) (by rw[hi2];decide) (by omega)
   rw[hf1,hi2]at this;exact this.mono fun e w' ⟨he,ht⟩=>⟨he,ht.behind hW2⟩
  ·rintro e w' ⟨he,ht⟩;exact⟨he,ht.behind hW⟩
 ·rintro e w' ⟨he,ht⟩;exact⟨he,_,Gd.lv2_of hL rfl,Tl.next h1 h2 ht⟩
end
end
section
open Go.Shelf
theorem setIno_at(M:Gd.Vol)(i:Nat)(y:Gd.Ino):(M.setIno i y).ino i=y:=by simp[Gd.Vol.setIno]
section
variable {x t K:Nat} {S:List UInt8} {F:Nat→Prop} {w a:World} {Ls:List (Nat×Obj)} {M:Gd.Vol}
theorem VU[zg](mx:Int)(h:Tl x t S M 10 K F w a Ls)(hL:Gd.Lv2 M)(hmx:a.cell? ⟨0,0,none⟩=some (.int .i64 mx))(hml:0<a.heap.size):
 Calls prog 26 #[.pointer (some ⟨x,0,none⟩),.string ⟨#[47,100]⟩] a fun e b=>e= .returned (.tuple #[.agg #[.int .i64 2,.int .i64 1,.int .i64 1],.int .i64 0])∧Below a.heap.size a b:=by
 obtain⟨F1,h1,h2⟩:=h;refine Qz (x:=x) ⟨#[47,100]⟩ 2 ⟨2,1,1,[0,0,0,2],Gd.z8⟩ ⟨rfl,rfl⟩ a (fun W hW=> ?_) (fun W hW=> ?_)
 ·have:=qN ⟨#[47,100]⟩ [[100]] mx W (h1.inv.below hW) hL.tree (by decide) ((hW.cell (p:=⟨0,0,none⟩) hml).trans hmx) Gd.pathsL.1
  rw[hL.walk_d]at this;exact this
 ·have:=zZ (2:Int) W (h1.inv.below hW) (by omega) (by omega)
  rw[show((2:Int)).toNat=2 from rfl,hL.i2]at this;exact this
theorem XQ[zg](mx:Int)(h:Tl x t S M 10 K F w a Ls)(hL:Gd.Lv2 M)(hmx:a.cell? ⟨0,0,none⟩=some (.int .i64 mx))(hml:0<a.heap.size):
 Calls prog 41 #[.pointer (some ⟨x,0,none⟩),.string ⟨#[47,100,47,97]⟩] a fun e b=>e= .returned (.int .i64 0)∧∃N,N.ino 3=(jf.setO 0 1).setL 0∧Tl x t S N 13 K F w b Ls:=by
 obtain⟨F1,h1,h2⟩:=h;have hT:=hL.tree;have hD2:Gd.DirOf M 2 Gd.lvT:=hT.dir 2 (by omega) (by omega) (by rw[hL.i2]);have hh:Gd.hN [97]=14:=Gd.hash4.1;obtain⟨A,hA⟩:=nm ((M.setMap (Gd.giveI M.map 2)).setIno 2 ⟨2,1,0,[0,0,0,0],Gd.z8⟩);have hA3:A.ino 3=jf.setO 0 1:=by
  rw[hA];show(if 3=2 then(⟨2,1,0,[0,0,0,0],Gd.z8⟩:Gd.Ino)else M.ino 3)=_
  rw[if_neg (by omega),hL.i3]
 refine(un (x:=x) ⟨#[47,100,47,97]⟩ 3 (jf.setO 0 1) 0 (Gd.Ino.setO_shape jk 0 1) (by decide) a (fun b=>zt x t S (A.setIno 3 ((jf.setO 0 1).setL 0)) 13 K F1 a b) (fun W hW=> ?_) (fun W hW=> ?_) (fun W hW=> ?_)).mono ?_
 ·have:=qN ⟨#[47,100,47,97]⟩ [[100],[97]] mx W (h1.inv.below hW) hT (by decide) ((hW.cell (p:=⟨0,0,none⟩) hml).trans hmx) Gd.pathsL.2
  rw[hL.walk_a]at this;exact this
 ·have:=zZ (3:Int) W (h1.inv.below hW) (by omega) (by omega)
  rw[show((3:Int)).toNat=3 from rfl,hL.i3]at this;exact this
 ·refine uA (x:=x) ⟨#[47,100,47,97]⟩ ⟨#[97]⟩ 3 2 0 W (fun b=>zt x t S A 12 K F1 a b) _ (fun W2 hW2=> ?_) (fun W2 hW2=> ?_) (fun W2 hQ=> ?_)
  ·have hb:=hW.trans (hW2.mono hW.size);have:=qY ⟨#[47,100,47,97]⟩ [[100]] [97] mx W2 (h1.inv.below hb) hT (by decide) ((hb.cell (p:=⟨0,0,none⟩) hml).trans hmx) Gd.pathsL.2
   rw[hL.place_a]at this;exact this
  ·have hb:=hW.trans (hW2.mono hW.size);refine Qx [97] 0 14 W2 (fun b=>zt x t S A 12 K F1 a b) (h1.inv.below hb) hD2 (by decide) (by decide) (by rw[hh];exact Gd.findA.2.1) fun W3 hW3=> ?_;have hb3:=hb.trans (hW3.mono hb.size);have:=yY (a:=14) (d:=2) 2 Gd.noTab (-1) 0 W3 (h1.inv.below hb3) (by omega) (by omega) (by omega) Gd.noTab_ok Gd.lvT_back.2 (by rw[hL.i2];rfl) (by rw[hL.i2];exact Gd.mayL.2.2.1) (by rw[hL.i2];decide) (by omega)
   rw[hL.i2]at this;rw[show Gd.setT Gd.lvT (14:Fin 16).val Gd.noEnt=Gd.noTab from Gd.lvT_back.1];refine this.mono ?_;rintro e w' ⟨he,ht⟩;rw[hA];exact⟨he,ht.behind hb3⟩
  ·obtain⟨F2,s2⟩:=hQ;refine QH 3 0 W2 _ s2.inv (by omega) (by omega) (by rw[hA3];decide) fun W3 hW3=> ?_;rw[hA3];have:=Jd 3 ((jf.setO 0 1).setL 0) ⟨rfl,rfl⟩ Gd.mayL.2.2.2 W3 (s2.inv.below hW3) (by omega) (by omega) (by omega) (Or.inr (by decide))
   refine this.mono ?_;rintro e w' ⟨he,ht⟩;obtain⟨F3,s3⟩:=ht.behind hW3;exact⟨he,F3,s2.trans s3⟩
 ·rintro e w' ⟨he,ht⟩;exact⟨he,_,setIno_at _ _ _,Tl.next h1 h2 ht⟩
theorem Y3[zg](h:Tl x t S M 13 K F w a Ls)(h3:M.ino 3=(jf.setO 0 1).setL 0):
 Calls prog 42 #[.pointer (some ⟨x,0,none⟩),.int .i64 1,.int .i64 3] a fun e b=>e= .returned (.int .i64 0)∧∃N,N.ino 3=Gd.noIno∧Tl x t S N 15 K F w b Ls:=by
 obtain⟨F1,h1,h2⟩:=h;obtain⟨A,hA⟩:=nm ((M.setMap (([0,0,0,0]:List Int).foldl Gd.giveI M.map)).setIno 3 Gd.noIno);refine(Jr 0 3 1 0 a (fun b=>zt x t S A 15 K F1 a b) h1.inv (by omega) (by omega) (by omega) (by rw[h3];rfl) (by omega) (by omega) (fun W hW=> ?_)).mono ?_
 ·rw[h3];have:=QI 3 (((jf.setO 0 1).setL 0).setO 0 (1-1)) ⟨rfl,rfl⟩ (by decide) W (h1.inv.below hW) (by omega) (by omega) (by omega) ⟨rfl,by decide⟩
  refine this.mono ?_;rintro e w' ⟨he,ht⟩;rw[hA];exact⟨he,ht.behind hW⟩
 ·rintro e w' ⟨he,ht⟩;exact⟨he,A,by rw[hA];exact setIno_at _ _ _,Tl.next h1 h2 ht⟩
end
end
section
open Go.Shelf
attribute [local go_sem] Oper.semAt_some
end
theorem yf(s:ByteArray)(w:World)(hs:s.size≤9223372036854775807):
 Calls prog 63 #[.string s] w fun e w'=>e= .returned (.bool (Np.nameB s.data.toList))∧w=w':=by
 have hsz:s.toList.length=s.size:=by rw[Lib.toList_data,←Lib.size_eq]
 have Hsz:=hid hsz;clear hsz;rw[←Lib.toList_data];by_cases h0:s.size<1
 ·have hb:=yh s.toList (by left;have:=Hsz.o;cases h:s.toList with|nil=>rfl|cons _ _=>rw[h]at this;simp at this;omega);rw[hb];clear hb;go_enter func63,ntmps63;go_wp2;go_ret
  exact⟨rfl,rfl⟩
 by_cases h1:12<s.size
 ·have hb:=yh s.toList (by right;left;have:=Hsz.o;omega);rw[hb];clear hb;go_enter func63,ntmps63;go_wp2;go_ret
  exact⟨rfl,rfl⟩
 by_cases h2:s.toList=[46]
 ·have hb:=yh s.toList (by right;right;left;exact h2);rw[hb];clear hb;go_enter func63,ntmps63;go_wp2;go_ret
  exact⟨rfl,rfl⟩
 by_cases h3:s.toList=[46,46]
 ·have hb:=yh s.toList (by right;right;right;exact h3);rw[hb];clear hb;go_enter func63,ntmps63;go_wp2;go_ret
  exact⟨rfl,rfl⟩
 have hb:=XA s.toList (by have:=Hsz.o;cases h:s.toList with|nil=>rw[h]at this;simp at this;omega|cons _ _=>rfl) (by have:=Hsz.o;omega) h2 h3;rw[Lib.toList_data]at hb⊢;have Hb:=hid hb;clear hb;have h2b:(s.toList==[46])=false:=beq_eq_false_iff_ne.2 h2;have h3b:(s.toList==[46,46])=false:=beq_eq_false_iff_ne.2 h3;clear h2 h3;go_enter func63,ntmps63;go_wp2;go_loop [3] (fun i=>∃k:Nat,k≤s.size∧i= .int .i64 k∧Hid ((s.data.toList.take k).all Np.okc=true)) (fun i=>s.size-(intOf i).toNat)
 case atStart=>exact⟨0,by omega,rfl,by show(s.data.toList.take 0).all Np.okc=true;simp⟩
 case round=>
  obtain⟨k,hk,rfl,hok⟩:=hrel;by_cases hlt:k<s.size
  ·go_wp2;all_goals first
    |(have hk:okr (s[k]'hlt).toNat=true:=by
       (simp only[okr,Bool.or_eq_true,Bool.and_eq_true,decide_eq_true_eq,beq_iff_eq]
        try simp only[Bool.not_eq_eq_eq_not,Bool.not_true,Bool.not_false,decide_eq_true_eq,decide_eq_false_iff_not,bne_iff_ne,bne_eq_false_iff_eq,ne_eq,beq_iff_eq,beq_eq_false_iff_ne]at*
        omega)
      go_round
      case rel=>exact⟨k+1,by omega,by go_num,by show _=_;rw[QD hlt hk,hok.o];rfl⟩
      case measure=>simp[intOf];omega)
    |(have hk:okr (s[k]'hlt).toNat=false:=by
       (rw[Bool.eq_false_iff]
        simp only[okr,ne_eq,Bool.or_eq_true,Bool.and_eq_true,decide_eq_true_eq,beq_iff_eq];try simp only[Bool.not_eq_eq_eq_not,Bool.not_true,Bool.not_false,decide_eq_true_eq,decide_eq_false_iff_not,bne_iff_ne,bne_eq_false_iff_eq,ne_eq,beq_iff_eq,beq_eq_false_iff_ne]at*
        omega)
      go_ret
      refine⟨zq ?_,rfl⟩;rw[Hb.o,ua (k:=k+1) (by rw[QD hlt hk];simp)])
  ·go_wp2;go_ret
   refine⟨zq ?_,rfl⟩;have:=hok.o
   rw[List.take_of_length_le (by rw[←Lib.size_eq];omega)]at this;rw[Hb.o,this]
end Go.Proofs.YtjlpkbhgphjpeaaGreatDoor
