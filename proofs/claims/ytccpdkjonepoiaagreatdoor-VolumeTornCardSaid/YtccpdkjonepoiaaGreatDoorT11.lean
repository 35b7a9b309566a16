/- Walks: metadata: inodes and the map are set. -/
import Derived.Test.YtccpdkjonepoiaaGreatDoorT10
set_option linter.unusedVariables false
set_option linter.unusedSimpArgs false
set_option linter.unusedSectionVars false
set_option maxHeartbeats 8000000
set_option maxRecDepth 100000
namespace Go.Proofs.YtccpdkjonepoiaaGreatDoor
open Go.RowKit
open Lib(hid)
open Go.Proofs.Tryz
section
attribute [local go_sem] Oper.semAt_some
theorem xy[zc]{x t c K:Nat}{S:List UInt8}{M M':Gd.Vol}{F:Nat→Prop}(k m:Int)(p:Gd.Pt)(v:Value)(L:List UInt8)(w:World)(h:zC x t S M c K w F)(hp:Gd.ptAt k m=some p)(hv:zr w v L)(hL:L.length≤64)(hLp:L.length≤p.s)(hc:c<64)(hap:∀q,v.ownBlock=some q→¬F q)(hM:∀V,Gd.Good V M→Gd.Good (Gd.splice V p.a L) M'):
 Calls prog 91 #[.pointer (some ⟨x,0,none⟩),.int .i64 k,.int .i64 m,v] w fun e w'=>e= .returned (.int .i64 0)∧zV x t S M' (c+1) K F w w':=by
 obtain⟨P,h,hG⟩:=h;refine(qB k m p v L w h hp hv hL hLp hc hap).mono ?_
 rintro e w' ⟨he,F',hs⟩;refine⟨he,F',hs.mono fun h'=>⟨_,h',?_⟩⟩;rw[Gd.view_snoc];exact hM _ hG
theorem ZN[zc]{x t c K:Nat}{S:List UInt8}{P:List Gd.Pa}{F:Nat→Prop}(i:Int)(y:Gd.Ino)(hy:y.Shape)(hm:Gd.mayI y=true)(w:World)(h:zY x t S P c K w F)(h1:1≤i)(h2:i≤32)(hc:c<64):
 Calls prog 94 #[.pointer (some ⟨x,0,none⟩),.int .i64 i,zQ y] w fun e w'=>e= .returned (.int .i64 0)∧∃F',je (zY x t S (P++[(Gd.inoAt i.toNat,Gd.inoB y)]) (c+1) K) F w F' w':=by
 obtain⟨hb0,hbb⟩:=xg w hy;obtain⟨b,hbe⟩:=nm w.heap.size;obtain⟨wb,hwb⟩:=nm (w.alloc (.cells (zj y) 40));rw[←hwb,←hbe]at hb0;rw[←hwb]at hbb;have Hbe:=hid hbe.symm;have HBb:=hid hbb;have HWb:=hid hwb;have HI:=hid hb0;have HS:=hid (zy hy);have HM:=hid (h.below hbb);have HT:=hid h.tight;have HPu:=hid (vT y hy (Qv hm) hm wb);have HPt:=hid (Gd.ptAt_node h1 h2);have HLn:=hid (Gd.inoB_length hy);have HC:=hid hc;clear hbe hbb hwb hb0 hy hm h h1 h2 hc;go_enter func94,ntmps94;unfold zQ at*;go_upto_region 1 with fail
 rw[←HWb.o,Hbe.o];go_wp2_with(refine wpList_load_row rfl 40 _ rfl b rfl 40 (zj y) (0,0) _ HI.o.row underlying40 rfl (by rw[HS.o];exact sizeIno) ?_)
 refine HPu.o.mono ?_;rintro e w1 ⟨v1,rfl,ho1,hb1⟩;have HB1:=HBb.t hb1;have HSt:=hid (qB 4 i _ v1 (Gd.inoB y) w1 (HM.o.below hb1) HPt.o ho1.at_ (by rw[HLn.o];omega) (by rw[HLn.o];exact Nat.le_refl _) HC.o (fun q hq e=>by
  have h3:=(zE ho1 q hq).1;have h4:=HT.o q e;have h5:=HBb.o.size;omega))
 clear ho1 hb1 HPu;go_wp2_with fail
 refine HSt.o.mono ?_;rintro e w2 ⟨rfl,F2,ht2⟩;go_wp2;go_ret
 exact⟨rfl,F2,je.behind HB1.o ht2⟩
theorem qW[zc]{x t c K:Nat}{S:List UInt8}{M:Gd.Vol}{F:Nat→Prop}(i:Int)(y:Gd.Ino)(hy:y.Shape)(hm:Gd.mayI y=true)(w:World)(h:zC x t S M c K w F)(h1:1≤i)(h2:i≤32)(hc:c<64):
 Calls prog 94 #[.pointer (some ⟨x,0,none⟩),.int .i64 i,zQ y] w fun e w'=>e= .returned (.int .i64 0)∧zV x t S (M.setIno i.toNat y) (c+1) K F w w':=by
 obtain⟨P,h,hG⟩:=h;refine(ZN i y hy hm w h h1 h2 hc).mono ?_
 rintro e w' ⟨he,F',hs⟩;refine⟨he,F',hs.mono fun h'=>⟨_,h',?_⟩⟩;rw[Gd.view_snoc];exact hG.setIno (by omega) (by omega) hy hm
theorem Zs[zc]{x t c K:Nat}{S:List UInt8}{M:Gd.Vol}{F:Nat→Prop}(w:World)(h:zC x t S M c K w F):
 Calls prog 154 #[.pointer (some ⟨x,0,none⟩)] w fun e w'=>e= .returned (jO M.map)∧Below w.heap.size w w':=by
 obtain⟨P,h,hG⟩:=h;have hml:=hG.mapl;have hmp:=hG.map;obtain⟨Z,hZ⟩:∃Z:Array Value,Z=#[.int .u8 0,.int .u8 0,.int .u8 0,.int .u8 0,.int .u8 0,.int .u8 0,.int .u8 0,.int .u8 0,.int .u8 0,.int .u8 0,.int .u8 0,.int .u8 0,.int .u8 0,.int .u8 0,.int .u8 0,.int .u8 0]:=⟨_,rfl⟩;have hZs:Z.size=16:=by rw[hZ];rfl
 obtain⟨hb0,hr0⟩:=zM w Z 153;obtain⟨r,hr⟩:=nm w.heap.size;obtain⟨w0,hw0⟩:=nm (w.alloc (.cells Z 153));rw[←hw0,←hr]at hr0;rw[←hw0]at hb0;have hlen:(Gd.part (Gd.view S P) 576 64).length=64:=Gd.part_length (by rw[h.view_len];omega);have htk:(Gd.part (Gd.view S P) 576 64).take 16=M.map:=by rw[Gd.part_take _ _ (by omega),hmp]
 have HLd:=hid (q9 3 0 _ w0 (h.below hb0) Gd.ptAt_map);dsimp only at HLd;obtain⟨L,hL⟩:=nm (Gd.part (Gd.view S P) 576 64);rw[←hL]at HLd hlen htk;obtain⟨m,hmm⟩:=nm M.map;rw[←hmm]at htk hml⊢;have HR0:=hid hr0;have HB0:=hid hb0;have HW0:=hid hw0.symm;have Hr:=hid hr.symm;have HZ:=hid hZ.symm;have HZs:=hid hZs;have HS:=hid (jQ hml);have HT:=hid (And.intro hlen htk);clear h hG hml hmp hZ hZs hb0 hr0 hr hw0 hlen htk hL hmm;go_enter func154,ntmps154;go_upto_region 1 with fail
 rw[HZ.o,HW0.o,Hr.o];go_wp2_with fail
 refine HLd.o.mono ?_;rintro e w1 ⟨v1,rfl,ho1,hb1⟩;have HR1:=hid ((hb1.block r (za HR0.o)).trans HR0.o);have HB1:=HB0.t hb1;have HRd:=hid (Q5 v1 L _ w1 ho1 (by rw[HT.o.1];omega));rw[HT.o.2]at HRd;unfold jO at*;clear hb1 HLd ho1;go_wp2_with fail
 refine HRd.o.mono ?_;rintro e w2 ⟨rfl,hb2⟩;have HR2:=hid ((hb2.block r (za HR1.o)).trans HR1.o);have HB2:=HB1.t hb2;obtain⟨hb3,hn3⟩:=zM w2 Z 153;obtain⟨w3,hw3⟩:=nm (w2.alloc (.cells Z 153));obtain⟨b,hbe⟩:=nm w2.heap.size;rw[←hw3,←hbe]at hn3;rw[←hw3]at hb3;have HN3:=hid hn3;have HR3:=hid ((hb3.block r (za HR2.o)).trans HR2.o);have HB3:=HB2.t hb3;have Hbe:=hid hbe.symm;have HW3:=hid hw3.symm;rw[←HZ.o]at HW3;have HbB:Hid (r<b):=hid (by rw[hbe];exact za HR2.o);clear hb2 HRd hw3 hb3 hn3 hbe
 go_wp2_with(first|(refine wpList_store_mid rfl 153 _ _ rfl b 0 (ze m) (by rw[←Hbe.o];rfl) rfl (by rw[HW3.o];exact zf HN3.o (by rw[HZs.o,HS.o])) (by rw[HS.o];exact sizeMap) (jq _) ?_;rw[HW3.o];obtain⟨hbw,hbg⟩:=zh HN3.o (vs:=(ze m).toList) (B:=b) (by rw[HZs.o,Array.length_toList,HS.o]) (Nat.le_refl b);generalize (World.setCells _ _ _ _)=w4 at hbw hbg⊢;have HG4:=hid hbg;have HR4:=hid ((hbw.block r HbB.o).trans HR3.o);have HB4:=hid (HB3.o.trans (hbw.mono (show w.heap.size≤b by have:=HbB.o;have:=Hr.o;omega)));clear hbw hbg)|(refine wpList_load_row rfl 153 _ rfl b (by rw[←Hbe.o];rfl) 153 (ze m) (0,0) _ HG4.o underlying153 rfl (by rw[HS.o];exact sizeMap) ?_)|(refine wpList_store_mid rfl 153 _ _ rfl r 0 (ze m) rfl rfl (zf HR4.o (by rw[HZs.o,HS.o])) (by rw[HS.o];exact sizeMap) (jq _) ?_;obtain⟨hbw,hbg⟩:=zh HR4.o (vs:=(ze m).toList) (B:=r) (by rw[HZs.o,Array.length_toList,HS.o]) (Nat.le_refl r);generalize (World.setCells _ _ _ _)=wf at hbw hbg⊢))
 refine bodyPost_ret (results_cell_row rfl _ _ r 153 (ze m) (0,0) _ rfl hbg underlying153 rfl (by rw[HS.o];exact sizeMap)) rfl ?_;exact⟨rfl,HB4.o.trans (by rw[Hr.o];exact hbw)⟩
theorem ZM[zc]{x t c K:Nat}{S:List UInt8}{P:List Gd.Pa}{F:Nat→Prop}(m:List UInt8)(hm:m.length=16)(w:World)(h:zY x t S P c K w F)(hc:c<64):
 Calls prog 93 #[.pointer (some ⟨x,0,none⟩),jO m] w fun e w'=>e= .returned (.int .i64 0)∧∃F',je (zY x t S (P++[(576,m)]) (c+1) K) F w F' w':=by
 obtain⟨hbb,hbc⟩:=zM w (ze m) 153;obtain⟨b,hbe⟩:=nm w.heap.size;obtain⟨wb,hwb⟩:=nm (w.alloc (.cells (ze m) 153));rw[←hwb,←hbe]at hbc;rw[←hwb]at hbb;have HM:=hid (h.below hbb);have HT:=hid h.tight;have Hbe:=hid hbe.symm;have HBb:=hid hbb;have HWb:=hid hwb.symm;have Hbc:=hid hbc;have HS:=hid (jQ hm);have HBy:=hid (Qe m hm wb);have Hm:=hid hm;have HC:=hid hc;clear hbe hbb hwb hbc hm h hc;unfold jO at*;go_enter func93,ntmps93;go_upto_region 1 with fail
 rw[HWb.o,Hbe.o];go_wp2_with(refine wpList_load_row rfl 153 _ rfl b rfl 153 (ze m) (0,0) _ Hbc.o underlying153 rfl (by rw[HS.o];exact sizeMap) ?_)
 refine HBy.o.mono ?_;rintro e w1 ⟨v1,rfl,ho1,hb1⟩;have HB1:=HBb.t hb1;have HSt:=hid (qB 3 0 _ v1 m w1 (HM.o.below hb1) Gd.ptAt_map ho1.at_ (by rw[Hm.o];omega) (by rw[Hm.o];show 16≤64;omega) HC.o (fun q hq e=>by
  have h3:=(zE ho1 q hq).1;have h4:=HT.o q e;have h5:=HBb.o.size;omega))
 clear ho1 hb1 HBy;go_wp2_with fail
 refine HSt.o.mono ?_;rintro e w2 ⟨rfl,F2,ht2⟩;go_wp2;go_ret
 exact⟨rfl,F2,je.behind HB1.o ht2⟩
theorem vN[zc]{x t c K:Nat}{S:List UInt8}{M:Gd.Vol}{F:Nat→Prop}(m:List UInt8)(hm:m.length=16)(w:World)(h:zC x t S M c K w F)(hc:c<64):
 Calls prog 93 #[.pointer (some ⟨x,0,none⟩),jO m] w fun e w'=>e= .returned (.int .i64 0)∧zV x t S (M.setMap m) (c+1) K F w w':=by
 obtain⟨P,h,hG⟩:=h;refine(ZM m hm w h hc).mono ?_
 rintro e w' ⟨he,F',hs⟩;refine⟨he,F',hs.mono fun h'=>⟨_,h',?_⟩⟩;rw[Gd.view_snoc];exact hG.setMap hm
theorem yl(n e:Int)(w:World):Calls prog 100 #[.int .i64 n,.int .i64 e] w fun e' w'=>e'= .returned (.tuple #[.int .i64 (if e=0 then n else 0),.int .i64 e])∧w'=w:=by
 by_cases h:e=0
 ·subst h;go_enter func100,ntmps100;go_wp2;go_ret2
  exact⟨rfl,rfl⟩
 ·go_enter func100,ntmps100;go_wp2;go_ret2
  exact⟨by simp[h],rfl⟩
end
section
attribute [local go_sem] Oper.semAt_some
namespace Gd
theorem byte_full:∀c:Fin 256,(∀b:Fin 8,(c.val&&& 2^b.val !=0)=true)→cnt c.val=8:=by decide+kernel
theorem count_le{m:List UInt8}(hm:m.length=16):countB m≤128:=by
 have h:∀L:List UInt8,(L.map fun c=>cnt c.toNat).sum≤L.length*8:=by
  intro L;induction L with
  |nil=>simp
  |cons a r ih=>
   have:=cnt_le ⟨a.toNat,a.toNat_lt⟩
   simp only[List.map_cons,List.sum_cons,List.length_cons];dsimp only at this;omega
 have:=h m
 unfold countB;omega
theorem count_full{m:List UInt8}(hm:m.length=16)(h:∀k,1≤k→k≤128→usedB m k=true):countB m=128:=by
 have h8:∀(i:Nat) (c:UInt8),m[i]? =some c→cnt c.toNat=8:=by
  intro i c hc;have hi:=(List.getElem?_eq_some_iff.1 hc).1;refine byte_full ⟨c.toNat,c.toNat_lt⟩ fun b=> ?_;have:=h (i*8+b.val+1) (by omega) (by omega)
  unfold usedB byteAt bitOf at this;rw[show(i*8+b.val+1-1)/8=i by omega,show(i*8+b.val+1-1) % 8=b.val by omega,List.getD_eq_getElem?_getD,hc]at this;exact this
 have h2:∀(L:List UInt8),(∀c∈L,cnt c.toNat=8)→(L.map fun c=>cnt c.toNat).sum=L.length*8:=by
  intro L;induction L with
  |nil=>simp
  |cons a r ih=>
   intro hL;simp only[List.map_cons,List.sum_cons,List.length_cons];rw[ih fun c hc=>hL c (List.mem_cons_of_mem _ hc),hL a (List.mem_cons_self ..)];omega
 have:=h2 m fun c hc=>by
  obtain⟨i,hi,e⟩:=List.mem_iff_getElem.1 hc;exact h8 i c (by rw[List.getElem?_eq_getElem hi,e])
 unfold countB;omega
theorem first_some{m:List UInt8}(hm:m.length=16)(h:countB m<128):1≤firstB m∧firstB m≤128∧usedB m (firstB m)=false:=by
 rcases firstFrom_in (m:=m) (f:=128) (n:=1) (by omega) (by omega)with⟨e,ha⟩|⟨h1,h2,h3,_⟩
 ·have:=count_full hm ha
  omega
 ·exact⟨h1,h2,h3⟩
def Vol.take(M:Vol):Vol:=(M.setMap (takeB M.map (firstB M.map))).setBlk (firstB M.map) (List.replicate 64 0)
end Gd
theorem xz{w:World}{b t:Nat}{C:Array Value}(h:w.heap[b]? =some (.cells C t (0,0)))(hs:C.size=16):(Instr.loadAt 153 (.pointer (some ⟨b,0,none⟩))).run prog w= .ok (.agg C) w:=by
 have hr:w.rangeAt b 0 C.toList:=fun j v hj=>by
  rw[Nat.zero_add,cell_of_row w b j _ _ _ h];simpa using hj
 have:=run_loadAt_mid (P:=prog) w b 0 153 C.toList _ hr underlying153 rfl (by rw[Array.length_toList,hs];exact sizeMap)
 rw[this]
theorem Qg[zc]{x t c K:Nat}{S:List UInt8}{M:Gd.Vol}{F:Nat→Prop}(spare:Int)(w:World)(h:zC x t S M c K w F)(hsp:128-(Gd.countB M.map:Int)≤max 0 spare):
 Calls prog 156 #[.pointer (some ⟨x,0,none⟩),.int .i64 spare] w fun e w'=>e= .returned (.tuple #[.int .i64 0,.int .i64 18])∧Below w.heap.size w w':=by
 have hml:M.map.length=16:=by
  obtain⟨P,h,hG⟩:=h;exact hG.mapl
 obtain⟨m,hmm⟩:=nm M.map;have HMp:=hid (Zs w h);rw[←hmm]at hml HMp hsp
 (try rw[←hmm])
 have HM:=hid h;have HS:=hid (jQ hml);have Hml:=hid hml;obtain⟨Z,hZ⟩:∃Z:Array Value,Z=#[.int .u8 0,.int .u8 0,.int .u8 0,.int .u8 0,.int .u8 0,.int .u8 0,.int .u8 0,.int .u8 0,.int .u8 0,.int .u8 0,.int .u8 0,.int .u8 0,.int .u8 0,.int .u8 0,.int .u8 0,.int .u8 0]:=⟨_,rfl⟩;have HZs:Hid (Z.size=16):=hid (by rw[hZ];rfl);have HZ:=hid hZ.symm;have HFi:=hid fun W=>uZ m hml W;have HCo:=hid fun W=>Zd m hml W;obtain⟨f,hf⟩:=nm (Gd.firstB m);obtain⟨cn,hcn⟩:=nm (Gd.countB m);rw[←hf]at HFi;rw[←hcn]at HCo hsp;have hcl:cn≤128:=by rw[hcn];exact Gd.count_le hml
 have hcw:IntKind.i64.wrap (128-(cn:Int))=128-(cn:Int):=by rw[IntKind.wrap_i64];omega
 have hcw2:(cn:Int)≤128:=by omega
 have Hf:=hid hf;have Hcn:=hid hcn;have Hmm:=hid hmm;unfold jO at*;clear h hmm hZ hf hcn hcl hml;go_enter func156,ntmps156;go_wp2_with fail
 refine HMp.o.mono ?_;rintro e w1 ⟨rfl,hb1⟩;obtain⟨hb2,hn2⟩:=zM w1 Z 153;obtain⟨w2,hw2⟩:=nm (w1.alloc (.cells Z 153));obtain⟨b,hbe⟩:=nm w1.heap.size;rw[←hw2,←hbe]at hn2;rw[←hw2]at hb2;obtain⟨hb3,hn3⟩:=zh hn2 (vs:=(ze m).toList) (B:=b) (by rw[HZs.o,Array.length_toList,HS.o]) (Nat.le_refl b);obtain⟨w3,hw3⟩:=nm (w2.setCells b 0 (ze m).toList);rw[←hw3]at hb3 hn3;have HN2:=hid hn2;have HN3:Hid (w3.heap[b]? =some (.cells (ze m) 153 (0,0))):=hid hn3;have HB3:Hid (Below w.heap.size w w3∧w.heap.size≤b):=hid (by
  have h1:=hb1.size;have h2:=hb2.size;have h3:w1.heap.size≤b:=by omega
  exact⟨(hb1.trans (hb2.mono h1)).trans (hb3.mono (by omega)),by omega⟩)
 have Hbe:=hid hbe.symm;have HW2:=hid hw2.symm;have HW3:=hid hw3.symm;rw[←HZ.o]at HW2;clear hb1 hb2 hn2 hw2 hbe hb3 hn3 hw3 HMp;go_upto_region 2 with(refine wpList_store_mid rfl 153 _ _ rfl b 0 (ze m) (by rw[←Hbe.o];rfl) rfl (by rw[HW2.o];exact zf HN2.o (by rw[HZs.o,HS.o])) (by rw[HS.o];exact sizeMap) (jq _) ?_;rw[HW2.o,HW3.o])
 rw[Hbe.o];go_wp2_with(refine wpList_load_row rfl 153 _ rfl b rfl 153 (ze m) (0,0) _ HN3.o underlying153 rfl (by rw[HS.o];exact sizeMap) ?_)
 refine(HFi.o w3).mono ?_
 rintro e w4 ⟨rfl,hb4⟩;have HN4:=hid ((hb4.block b (za HN3.o)).trans HN3.o);have HB4:=hid (HB3.o.1.trans (hb4.mono HB3.o.1.size));have HL4:=hid (xz HN4.o HS.o);clear hb4 HFi;by_cases hf0:f=0
 ·subst hf0;clear hsp hcw;go_wp2;go_ret2
  exact⟨rfl,HB4.o⟩
 ·have hf1:¬(f:Int)=0:=by omega
  have hf2:((f:Int)==0)=false:=by simp[hf0]
  have hf3:(f==0)=false:=by simp[hf0]
  by_cases hs0:0<spare
  ·have hs1:(128:Int)-cn≤spare:=by omega
   clear hsp;go_wp2_with(first|(refine zI _ _ rfl (by rfl) 153 _ rfl (.pointer (some ⟨b,0,none⟩)) (.agg (ze m)) rfl HL4.o ?_)|(go_at_call 185;refine(HCo.o w4).mono ?_;rintro e w5 ⟨rfl,hb5⟩))
   go_ret2
   exact⟨rfl,HB4.o.trans (hb5.mono HB4.o.size)⟩
  ·have hs1:(128:Int)-cn≤0:=by omega
   have hs2:¬0<spare:=hs0;have hc0:(cn:Int)=128:=by omega
   clear hsp;go_wp2_with(first|(refine zI _ _ rfl (by rfl) 153 _ rfl (.pointer (some ⟨b,0,none⟩)) (.agg (ze m)) rfl HL4.o ?_)|(go_at_call 185;refine(HCo.o w4).mono ?_;rintro e w5 ⟨rfl,hb5⟩))
   go_ret2
   exact⟨rfl,HB4.o.trans (hb5.mono HB4.o.size)⟩
theorem JA[zc]{x t c K:Nat}{S:List UInt8}{M:Gd.Vol}{F:Nat→Prop}(spare:Int)(w:World)(h:zC x t S M c K w F)(hsp:max 0 spare<128-(Gd.countB M.map:Int))(hc:c+2<64):
 Calls prog 156 #[.pointer (some ⟨x,0,none⟩),.int .i64 spare] w fun e w'=>e= .returned (.tuple #[.int .i64 (Gd.firstB M.map),.int .i64 0])∧zV x t S M.take (c+2) K F w w':=by
 have hml:M.map.length=16:=by
  obtain⟨P,h,hG⟩:=h;exact hG.mapl
 obtain⟨m,hmm⟩:=nm M.map;have HMp:=hid (Zs w h);rw[←hmm]at hml HMp hsp
 (try rw[←hmm])
 have HM:=hid h;have HS:=hid (jQ hml);have Hml:=hid hml;obtain⟨Z,hZ⟩:∃Z:Array Value,Z=#[.int .u8 0,.int .u8 0,.int .u8 0,.int .u8 0,.int .u8 0,.int .u8 0,.int .u8 0,.int .u8 0,.int .u8 0,.int .u8 0,.int .u8 0,.int .u8 0,.int .u8 0,.int .u8 0,.int .u8 0,.int .u8 0]:=⟨_,rfl⟩;have HZs:Hid (Z.size=16):=hid (by rw[hZ];rfl);have HZ:=hid hZ.symm;have HFi:=hid fun W=>uZ m hml W;have HCo:=hid fun W=>Zd m hml W;obtain⟨f,hf⟩:=nm (Gd.firstB m);obtain⟨cn,hcn⟩:=nm (Gd.countB m);rw[←hf]at HFi;rw[←hcn]at HCo hsp;have hcl:cn≤128:=by rw[hcn];exact Gd.count_le hml
 have hcw:IntKind.i64.wrap (128-(cn:Int))=128-(cn:Int):=by rw[IntKind.wrap_i64];omega
 have hcw2:(cn:Int)≤128:=by omega
 have Hf:=hid hf;have Hcn:=hid hcn;have Hmm:=hid hmm;unfold jO at*;have hfs:1≤f∧f≤128:=by
  have h1:=Gd.first_some hml (by rw[←hcn];omega);rw[←hf]at h1;exact⟨h1.1,h1.2.1⟩
 have Hfs:=hid hfs;have htk:Gd.takeI m (f:Int)=Gd.takeB m f:=by
  unfold Gd.takeI Gd.isBlk;rw[Int.toNat_natCast,decide_eq_true (by omega),decide_eq_true (by omega)];rfl
 have HTk:=hid fun W=>XZ m hml (f:Int) W;rw[htk]at HTk;unfold jO at HTk;obtain⟨m2,hm2⟩:=nm (Gd.takeB m f);rw[←hm2]at HTk;have hm2l:m2.length=16:=by rw[hm2,Gd.take_length];exact hml
 have Hm2l:=hid hm2l;have HTa:Hid (M.take=(M.setMap m2).setBlk f (List.replicate 64 0)):=hid (by unfold Gd.Vol.take;rw[←hmm,←hf,←hm2]);have HC:=hid hc;have hf0:¬(f:Int)=0:=by omega
 have hf2:((f:Int)==0)=false:=by simp;omega
 have hf3:(f==0)=false:=by simp;omega
 rw[←hf];clear h hmm hZ hf hcn hcl hml hfs htk hm2 hm2l hc;go_enter func156,ntmps156;go_wp2_with fail
 refine HMp.o.mono ?_;rintro e w1 ⟨rfl,hb1⟩;obtain⟨hb2,hn2⟩:=zM w1 Z 153;obtain⟨w2,hw2⟩:=nm (w1.alloc (.cells Z 153));obtain⟨b,hbe⟩:=nm w1.heap.size;rw[←hw2,←hbe]at hn2;rw[←hw2]at hb2;obtain⟨hb3,hn3⟩:=zh hn2 (vs:=(ze m).toList) (B:=b) (by rw[HZs.o,Array.length_toList,HS.o]) (Nat.le_refl b);obtain⟨w3,hw3⟩:=nm (w2.setCells b 0 (ze m).toList);rw[←hw3]at hb3 hn3;have HN2:=hid hn2;have HN3:Hid (w3.heap[b]? =some (.cells (ze m) 153 (0,0))):=hid hn3;have HB3:Hid (Below w.heap.size w w3∧w.heap.size≤b):=hid (by
  have h1:=hb1.size;have h2:=hb2.size;have h3:w1.heap.size≤b:=by omega
  exact⟨(hb1.trans (hb2.mono h1)).trans (hb3.mono (by omega)),by omega⟩)
 have Hbe:=hid hbe.symm;have HW2:=hid hw2.symm;have HW3:=hid hw3.symm;rw[←HZ.o]at HW2;clear hb1 hb2 hn2 hw2 hbe hb3 hn3 hw3 HMp;go_upto_region 2 with(refine wpList_store_mid rfl 153 _ _ rfl b 0 (ze m) (by rw[←Hbe.o];rfl) rfl (by rw[HW2.o];exact zf HN2.o (by rw[HZs.o,HS.o])) (by rw[HS.o];exact sizeMap) (jq _) ?_;rw[HW2.o,HW3.o])
 rw[Hbe.o];go_wp2_with(refine wpList_load_row rfl 153 _ rfl b rfl 153 (ze m) (0,0) _ HN3.o underlying153 rfl (by rw[HS.o];exact sizeMap) ?_)
 refine(HFi.o w3).mono ?_
 rintro e w4 ⟨rfl,hb4⟩;have HN4:=hid ((hb4.block b (za HN3.o)).trans HN3.o);have HB4:=hid (HB3.o.1.trans (hb4.mono HB3.o.1.size));have HL4:=hid (xz HN4.o HS.o);clear hb4 HFi;have HN5:Hid (∀W,Below w4.heap.size w4 W→W.heap[b]? =some (.cells (ze m) 153 (0,0))):=hid fun W hW=>(hW.block b (za HN4.o)).trans HN4.o;have HTu:Hid (∀(w5 w6:World),Below w4.heap.size w4 w5→Below w5.heap.size w5 w6→Calls prog 93 #[.pointer (some ⟨x,0,none⟩),.agg (ze m2)] w6 fun e w'=>e= .returned (.int .i64 0)∧zV x t S (M.setMap m2) (c+1) K F w w'):=hid fun w5 w6 h5 h6=>by
  have hb6:Below w.heap.size w w6:=(HB4.o.trans (h5.mono HB4.o.size)).trans (h6.mono (Nat.le_trans HB4.o.size h5.size));refine(vN m2 Hm2l.o w6 (HM.o.below hb6) (by have:=HC.o;omega)).mono ?_
  rintro e w7 ⟨he,ht⟩;exact⟨he,ht.behind hb6⟩
 have HFin:Hid (∀w7,zV x t S (M.setMap m2) (c+1) K F w w7→∀v,zA (w7.alloc (.cells (ze (List.replicate 64 0)) 5)) w7.heap.size v (List.replicate 64 0)→Calls prog 91 #[.pointer (some ⟨x,0,none⟩),.int .i64 7,.int .i64 f,v] (w7.alloc (.cells (ze (List.replicate 64 0)) 5)) fun e w'=>e= .returned (.int .i64 0)∧zV x t S M.take (c+2) K F w w'):=hid fun w7 ht7 v hv=>by
  obtain⟨F7,hs7⟩:=ht7;have hba:=(Below.refl w7.heap.size w7).alloc (Nat.le_refl _) (.cells (ze (List.replicate 64 0)) 5);refine(xy 7 f _ v (List.replicate 64 0) _ (hs7.inv.below hba) (Gd.ptAt_block Hfs.o.1 Hfs.o.2) hv.at_ (by rw[List.length_replicate];exact Nat.le_refl _) (by rw[List.length_replicate];exact Nat.le_refl _) (by have:=HC.o;omega) (fun q hq e=>by
   have h3:=(zE hv q hq).1;have h4:=hs7.inv.tight q e;omega) (M':=M.take) (fun V hV=>by rw[HTa.o];exact hV.setBlk Hfs.o.1 Hfs.o.2 (by rw[List.length_replicate]))).mono ?_
  rintro e w8 ⟨he,F8,hs8⟩;exact⟨he,F8,hs7.trans (je.behind hba hs8)⟩
 by_cases hs0:0<spare
 ·have hs1:¬(128:Int)-cn≤spare:=by omega
  have hs3:spare<(128:Int)-cn:=by omega
  clear hsp;go_wp2_with(first|(refine zI _ _ rfl (by rfl) 153 _ rfl (.pointer (some ⟨b,0,none⟩)) (.agg (ze m)) rfl HL4.o ?_)|(refine wpList_load_row rfl 153 _ rfl b rfl 153 (ze m) (0,0) _ (HN5.o w5 hb5) underlying153 rfl (by rw[HS.o];exact sizeMap) ?_)|(go_at_call 185;refine(HCo.o w4).mono ?_;rintro e w5 ⟨rfl,hb5⟩))
  refine(HTk.o w5).mono ?_
  rintro e w6 ⟨rfl,hb6⟩;have HSm:=hid (HTu.o w5 w6 hb5 hb6);clear hb5 hb6 HTk HTu HN5;go_wp2_with fail
  refine HSm.o.mono ?_;rintro e w7 ⟨rfl,ht7⟩;have hmk:(Instr.makeSlice 22 (.int .i64 64) (.int .i64 64)).run prog w7= .ok (.slice (some ⟨w7.heap.size,0,none⟩) 64 64) (w7.alloc (.cells (ze (List.replicate 64 0)) 5)):=qc 64 (by omega) w7;have HSt:=hid (HFin.o w7 ht7 _ (qZ w7 64 (by omega) w7.heap.size (Nat.le_refl _)));obtain⟨w8,hw8⟩:=nm (w7.alloc (.cells (ze (List.replicate 64 0)) 5));rw[←hw8]at hmk HSt;clear ht7 hw8 HSm HFin;go_wp2_with fail
  refine HSt.o.mono ?_;rintro e w9 ⟨rfl,ht9⟩;have HT9:=hid ht9;have HTo:Hid (Calls prog 100 #[.int .i64 f,.int .i64 0] w9 fun e' w'=>e'= .returned (.tuple #[.int .i64 f,.int .i64 0])∧w'=w9):=hid (yl f 0 w9);clear ht9 HSt;go_wp2_with fail
  refine HTo.o.mono ?_;rintro e w10 ⟨rfl,rfl⟩;go_wp2;go_ret2
  exact⟨rfl,HT9.o⟩
 ·have hs1:¬(128:Int)-cn≤0:=by omega
  have hs3:(cn:Int)<128:=by omega
  clear hsp;go_wp2_with(first|(refine zI _ _ rfl (by rfl) 153 _ rfl (.pointer (some ⟨b,0,none⟩)) (.agg (ze m)) rfl HL4.o ?_)|(refine wpList_load_row rfl 153 _ rfl b rfl 153 (ze m) (0,0) _ (HN5.o w5 hb5) underlying153 rfl (by rw[HS.o];exact sizeMap) ?_)|(go_at_call 185;refine(HCo.o w4).mono ?_;rintro e w5 ⟨rfl,hb5⟩))
  refine(HTk.o w5).mono ?_
  rintro e w6 ⟨rfl,hb6⟩;have HSm:=hid (HTu.o w5 w6 hb5 hb6);clear hb5 hb6 HTk HTu HN5;go_wp2_with fail
  refine HSm.o.mono ?_;rintro e w7 ⟨rfl,ht7⟩;have hmk:(Instr.makeSlice 22 (.int .i64 64) (.int .i64 64)).run prog w7= .ok (.slice (some ⟨w7.heap.size,0,none⟩) 64 64) (w7.alloc (.cells (ze (List.replicate 64 0)) 5)):=qc 64 (by omega) w7;have HSt:=hid (HFin.o w7 ht7 _ (qZ w7 64 (by omega) w7.heap.size (Nat.le_refl _)));obtain⟨w8,hw8⟩:=nm (w7.alloc (.cells (ze (List.replicate 64 0)) 5));rw[←hw8]at hmk HSt;clear ht7 hw8 HSm HFin;go_wp2_with fail
  refine HSt.o.mono ?_;rintro e w9 ⟨rfl,ht9⟩;have HT9:=hid ht9;have HTo:Hid (Calls prog 100 #[.int .i64 f,.int .i64 0] w9 fun e' w'=>e'= .returned (.tuple #[.int .i64 f,.int .i64 0])∧w'=w9):=hid (yl f 0 w9);clear ht9 HSt;go_wp2_with fail
  refine HTo.o.mono ?_;rintro e w10 ⟨rfl,rfl⟩;go_wp2;go_ret2
  exact⟨rfl,HT9.o⟩
end
section
attribute [local go_sem] Oper.semAt_some
namespace Gd
def slot0:Slot:=⟨0,0,0,0,0,0⟩
def rootI:Ino:=⟨2,1,0,[0,0,0,0],[0,0,0,0,0,0,0,0]⟩
def fmtS(k:Nat):List Pa:=(List.range k).flatMap fun c=>[(64+64*c,slotB slot0),(6784+1024*c,List.replicate 8 0)]
def fmtN(k:Nat):List Pa:=(List.range k).map fun i=>(inoAt (i+2),List.replicate 64 0)
def fmtP:List Pa:=[(0,headB 0)]++fmtS 8++[(576,List.replicate 16 0)]++[(inoAt 1,inoB rootI)]++fmtN 31
theorem fmtS_succ(k:Nat):fmtS (k+1)=fmtS k++[(64+64*k,slotB slot0)]++[(6784+1024*k,List.replicate 8 0)]:=by
 unfold fmtS;rw[List.range_succ,List.flatMap_append];simp
theorem fmtN_succ(k:Nat):fmtN (k+1)=fmtN k++[(inoAt (k+2),List.replicate 64 0)]:=by
 unfold fmtN;rw[List.range_succ,List.map_append];simp
theorem ptAt_slot{k:Nat}(h:k<8):ptAt 2 ((k:Int)+1)=some ⟨2,k+1,64+64*k,64⟩:=by
 unfold ptAt partAt;rw[if_neg (by omega),if_pos rfl,if_pos ⟨by omega,by omega⟩];simp
theorem ptAt_clog{k:Nat}(h:k<8):ptAt 6 ((k:Int)+1)=some ⟨6,k+1,6784+1024*k,1024⟩:=by
 unfold ptAt partAt;rw[if_neg (by omega),if_neg (by omega),if_neg (by omega),if_neg (by omega),if_neg (by omega),if_pos rfl,if_pos ⟨by omega,by omega⟩];simp
theorem ptAt_head:ptAt 1 0=some ⟨1,0,0,64⟩:=rfl
theorem slot0_may:slot0.May:=⟨by decide,by decide,by decide,by decide,by decide,by decide⟩
theorem root_may:mayI rootI=true:=by decide
theorem root_shape:rootI.Shape:=⟨rfl,rfl⟩
end Gd
theorem zr.only{w w':World}{v:Value}{L:List UInt8}{G:Nat→Prop}(h:zr w v L)(hO:zi G w w')(hn:∀q,v.ownBlock=some q→¬G q):zr w' v L:=by
 obtain⟨A,c,rfl,hA⟩:=h;refine⟨A,c,rfl,hA.imp id ?_⟩;rintro⟨b,o,rfl,hb,hc⟩;exact⟨b,o,rfl,Nat.lt_of_lt_of_le hb hO.size,fun j x hx=>(hO.cell (p:=⟨b,o+j,none⟩) hb (hn b rfl)).trans (hc j x hx)⟩
theorem jY(eb:Nat)(w:World)(h:zd w eb 26 #[.int .i64 0]):Calls prog 92 #[.int .i64 0,.pointer (some ⟨eb,0,none⟩)] w fun e w'=>e= .returned (.tuple #[])∧zi (fun k=>k=eb) w w'∧zd w' eb 26 #[.int .i64 0]:=by
 have c0:=cell_of_row w eb 0 _ _ _ h;have f0:=frozen_of_row w eb 0 _ _ h;have H:=hid h;clear h;go_enter func92,ntmps92;go_wp2;go_end0
 exact⟨rfl,zq w _ _ rfl,Go.heap_setCell_same _ _ 0 _ _ _ H.o⟩
def qn[zc](x t:Nat)(S:List UInt8)(P:List Gd.Pa)(c K:Nat)(F:Nat→Prop)(w0:World)(eb:Nat)(v5:Value)(wr:World):Prop:=
 ∃F',je (zY x t S P c K) F w0 F' wr∧¬F' eb∧zd wr eb 26 #[.int .i64 0]∧zr wr v5 (Gd.slotB Gd.slot0)∧∀q,v5.ownBlock=some q→¬F' q∧q≠eb
theorem qn.below[zc]{x t c K eb:Nat}{S:List UInt8}{P:List Gd.Pa}{F:Nat→Prop}{w0 w w':World}{v5:Value}(h:qn x t S P c K F w0 eb v5 w)(hb:Below w.heap.size w w'):qn x t S P c K F w0 eb v5 w':=by
 obtain⟨F',h1,h2,h3,h4,h5⟩:=h;exact⟨F',h1.ahead hb,h2,(hb.block eb h3.lt).trans h3,h4.keep hb,h5⟩
theorem qn.first[zc]{x t c K eb:Nat}{S:List UInt8}{P:List Gd.Pa}{F:Nat→Prop}{w0 w w':World}{v5:Value}(h:qn x t S P c K F w0 eb v5 w)(h0:w0.heap.size≤eb)(hO:zi (fun k=>k=eb) w w')(hC:zd w' eb 26 #[.int .i64 0]):qn x t S P c K F w0 eb v5 w':=by
 obtain⟨F',h1,h2,h3,h4,h5⟩:=h;refine⟨F',⟨h1.inv.keep hO.size fun k hk hF=>hO.block k hk fun e=>h2 (e▸hF),h1.old,h1.only.trans hO fun j hj e=> ?_⟩,h2,hC,h4.only hO fun q hq e=>(h5 q hq).2 e,h5⟩;omega
theorem qn.step[zc]{x t c d K eb:Nat}{S:List UInt8}{P Q:List Gd.Pa}{F:Nat→Prop}{w0 w w':World}{v5:Value}(h:qn x t S P c K F w0 eb v5 w)(hs:∀F',zY x t S P c K w F'→(∀k,F' k→k<w.heap.size)→∃F2,je (zY x t S Q d K) F' w F2 w'):qn x t S Q d K F w0 eb v5 w':=by
 obtain⟨F',h1,h2,h3,h4,h5⟩:=h;obtain⟨F2,hs⟩:=hs F' h1.inv h1.inv.tight;have hb:∀q,v5.ownBlock=some q→q<w.heap.size:=fun q hq=>by
  obtain⟨A,c,rfl,hA⟩:=h4;rcases hA with⟨rfl,_⟩|⟨b,o,rfl,hb,_⟩
  ·cases hq
  ·cases hq
   exact hb
 exact⟨F2,h1.trans hs,(hs.own h3.lt h2).2,(hs.own h3.lt h2).1.trans h3,h4.only hs.only fun q hq=>(h5 q hq).1,fun q hq=>⟨(hs.own (hb q hq) (h5 q hq).1).2,(h5 q hq).2⟩⟩
theorem uX[zc]{x t c K eb:Nat}{S:List UInt8}{P:List Gd.Pa}{F:Nat→Prop}{w0 w1:World}{v5:Value}(k m:Int)(p:Gd.Pt)(v:Value)(L:List UInt8)(w:World)(h:qn x t S P c K F w0 eb v5 w1)(hb:Below w1.heap.size w1 w)(hp:Gd.ptAt k m=some p)(hv:zr w v L)(hL:L.length≤64)(hLp:L.length≤p.s)(hc:c<64)(hap:∀q,v.ownBlock=some q→w1.heap.size≤q∨v5.ownBlock=some q):
 Calls prog 91 #[.pointer (some ⟨x,0,none⟩),.int .i64 k,.int .i64 m,v] w fun e w'=>e= .returned (.int .i64 0)∧qn x t S (P++[(p.a,L)]) (c+1) K F w0 eb v5 w':=by
 obtain⟨F',h1,h2,h3,h4,h5⟩:=h;have hap2:∀q,v.ownBlock=some q→¬F' q:=fun q hq e=>by
  rcases hap q hq with e2|e2
  ·have:=h1.inv.tight q e
   omega
  ·exact(h5 q e2).1 e
 refine(qB k m p v L w (h1.inv.below hb) hp hv hL hLp hc hap2).mono ?_
 rintro e w' ⟨he,F2,hs⟩;have hH:qn x t S P c K F w0 eb v5 w:=(show qn x t S P c K F w0 eb v5 w1 from⟨F',h1,h2,h3,h4,h5⟩).below hb;have hs2:=je.behind hb hs;have hlt:∀q,v5.ownBlock=some q→q<w1.heap.size:=fun q hq=>by
  obtain⟨A,c,rfl,hA⟩:=h4;rcases hA with⟨rfl,_⟩|⟨b,o,rfl,hb,_⟩
  ·cases hq
  ·cases hq
   exact hb
 exact⟨he,F2,h1.trans hs2,(hs2.own h3.lt h2).2,(hs2.own h3.lt h2).1.trans h3,h4.only hs2.only fun q hq=>(h5 q hq).1,fun q hq=>⟨(hs2.own (hlt q hq) (h5 q hq).1).2,(h5 q hq).2⟩⟩
theorem Vy[zc]{x t c K eb:Nat}{S:List UInt8}{P:List Gd.Pa}{F:Nat→Prop}{w0:World}{v5:Value}(m:List UInt8)(hm:m.length=16)(w:World)(h:qn x t S P c K F w0 eb v5 w)(hc:c<64):
 Calls prog 93 #[.pointer (some ⟨x,0,none⟩),jO m] w fun e w'=>e= .returned (.int .i64 0)∧qn x t S (P++[(576,m)]) (c+1) K F w0 eb v5 w':=by
 have h0:=h;obtain⟨F',h1,h2,h3,h4,h5⟩:=h;refine(ZM m hm w h1.inv hc).mono ?_
 rintro e w' ⟨he,F2,hs⟩;have hlt:∀q,v5.ownBlock=some q→q<w.heap.size:=fun q hq=>by
  obtain⟨A,c,rfl,hA⟩:=h4;rcases hA with⟨rfl,_⟩|⟨b,o,rfl,hb,_⟩
  ·cases hq
  ·cases hq
   exact hb
 exact⟨he,F2,h1.trans hs,(hs.own h3.lt h2).2,(hs.own h3.lt h2).1.trans h3,h4.only hs.only fun q hq=>(h5 q hq).1,fun q hq=>⟨(hs.own (hlt q hq) (h5 q hq).1).2,(h5 q hq).2⟩⟩
theorem Qx[zc]{x t c K eb:Nat}{S:List UInt8}{P:List Gd.Pa}{F:Nat→Prop}{w0:World}{v5:Value}(i:Int)(y:Gd.Ino)(hy:y.Shape)(hm:Gd.mayI y=true)(w:World)(h:qn x t S P c K F w0 eb v5 w)(i1:1≤i)(i2:i≤32)(hc:c<64):
 Calls prog 94 #[.pointer (some ⟨x,0,none⟩),.int .i64 i,zQ y] w fun e w'=>e= .returned (.int .i64 0)∧qn x t S (P++[(Gd.inoAt i.toNat,Gd.inoB y)]) (c+1) K F w0 eb v5 w':=by
 obtain⟨F',h1,h2,h3,h4,h5⟩:=h;refine(ZN i y hy hm w h1.inv i1 i2 hc).mono ?_
 rintro e w' ⟨he,F2,hs⟩;have hlt:∀q,v5.ownBlock=some q→q<w.heap.size:=fun q hq=>by
  obtain⟨A,c,rfl,hA⟩:=h4;rcases hA with⟨rfl,_⟩|⟨b,o,rfl,hb,_⟩
  ·cases hq
  ·cases hq
   exact hb
 exact⟨he,F2,h1.trans hs,(hs.own h3.lt h2).2,(hs.own h3.lt h2).1.trans h3,h4.only hs.only fun q hq=>(h5 q hq).1,fun q hq=>⟨(hs.own (hlt q hq) (h5 q hq).1).2,(h5 q hq).2⟩⟩
theorem J0[zc]{x t c K:Nat}{S:List UInt8}{P:List Gd.Pa}{F:Nat→Prop}(w:World)(h:zY x t S P c K w F)(hc:c+50≤64):
 Calls prog 48 #[.pointer (some ⟨x,0,none⟩)] w fun e w'=>e= .returned (.int .i64 0)∧∃F',je (zY x t S (P++Gd.fmtP) (c+50) K) F w F' w':=by
 have H:=hid h;have HC:=hid hc;have HHd:Hid (Calls prog 65 #[.int .i64 0] w (qS w (Gd.headB 0))):=hid (xD 0 (by omega) w);have HSl:Hid (∀W,Calls prog 62 #[.agg #[.int .i64 0,.int .i64 0,.int .i64 0,.int .i64 0,.int .i64 0,.int .i64 0]] W (qS W (Gd.slotB Gd.slot0))):=hid fun W=>qN Gd.slot0 Gd.slot0_may W;clear h hc;go_enter func48,ntmps48;go_wp2_with fail
 refine HHd.o.mono ?_;rintro e w1 ⟨v3,rfl,ho3,hb1⟩;clear HHd;have HO3:=hid ho3;have HB1:=hid hb1;clear ho3 hb1;go_wp2_with fail
 refine(HSl.o w1).mono ?_
 rintro e w2 ⟨v5,rfl,ho5,hb2⟩;have HB2:=HB1.t hb2;have HSt:=hid (qB 1 0 _ v3 (Gd.headB 0) w2 (H.o.below HB2.o) Gd.ptAt_head (HO3.o.keep hb2).at_ (by rw[Gd.headB_length];exact Nat.le_refl _) (by rw[Gd.headB_length];exact Nat.le_refl _) (by have:=HC.o;omega) (fun q hq e=>by
  have h3:=(zE HO3.o q hq).1;have h4:=H.o.tight q e;omega))
 have HO5:=hid ho5;have HQ5:Hid (∀q,v5.ownBlock=some q→w.heap.size≤q∧q<w2.heap.size):=hid fun q hq=>by
  have h3:=zE ho5 q hq;have h4:=HB1.o.size;omega
 clear ho5 hb2 HSl HO3;go_wp2_with fail
 refine HSt.o.mono ?_;rintro e w3 ⟨rfl,F3,hs3⟩;obtain⟨w4,hw4⟩:=nm (w3.alloc (.cells #[.int .i64 0] 26));obtain⟨eb,heb⟩:=nm w3.heap.size;have hb4:Below w3.heap.size w3 w4:=by rw[hw4];exact(Below.refl _ _).alloc (Nat.le_refl _) _
 have hc4:zd w4 eb 26 #[.int .i64 0]:=by rw[hw4,heb];exact heap_alloc_new _ _
 have HI4:Hid (qn x t S (P++[(0,Gd.headB 0)]++Gd.fmtS 0) (c+1+2*0) K F w eb v5 w4):=hid (by
  have hs4:=(je.behind HB2.o hs3).ahead hb4;rw[show Gd.fmtS 0=[] from rfl,List.append_nil];refine⟨F3,hs4,fun e=> ?_,hc4,?_,fun q hq=>⟨fun e=> ?_,?_⟩⟩
  ·have:=hs3.inv.tight eb e
   omega
  ·exact((HO5.o.at_).only hs3.only fun q hq e=>by have h1:=H.o.tight q e;have h2:=HQ5.o q hq;omega).keep hb4
  ·have h1:=hs3.old q (HQ5.o q hq).2 e;have h2:=H.o.tight q h1;have h3:=HQ5.o q hq;omega
  ·have h3:=(HQ5.o q hq).2;have h4:=hs3.only.size;omega)
 have HEb:Hid (w.heap.size≤eb):=hid (by have h1:=HB2.o.size;have h2:=hs3.only.size;omega);have Hw4:=hid hw4.symm;have Heb:=hid heb.symm;have HC4:=hid hc4;clear hs3 hw4 heb hb4 hc4 HSt;have HQ:=hid (And.intro HO5.o HQ5.o);go_upto_region 6 with fail
 rw[Hw4.o,Heb.o];go_loopw[24] (fun z wr=>∃k:Nat,z= .int .i64 k∧k≤8∧Hid (qn x t S (P++[(0,Gd.headB 0)]++Gd.fmtS k) (c+1+2*k) K F w eb v5 wr)) (fun z _=>8-(intOf z).toNat)
 case atStart=>exact⟨0,rfl,by omega,HI4⟩
 case round=>
  obtain⟨k,rfl,hk,HI⟩:=hrel;by_cases hlt:k<8
  ·have h1:(k:Int)<8:=by omega
   have hP5:zr wr v5 (Gd.slotB Gd.slot0):=by
    obtain⟨_,_,_,_,h4,_⟩:=HI.o;exact h4
   have HSt:=hid (uX 2 ((k:Int)+1) _ v5 (Gd.slotB Gd.slot0) wr HI.o (Below.refl _ _) (Gd.ptAt_slot hlt) hP5 (by rw[Gd.slotB_length];exact Nat.le_refl _) (by rw[Gd.slotB_length];exact Nat.le_refl _) (by have:=HC.o;omega) (fun q hq=>Or.inr hq));dsimp only at HSt;have Hlt:=hid hlt;clear hP5 hlt;go_wp2_with fail
   refine HSt.o.mono ?_;rintro e w5 ⟨rfl,hI5⟩;have HI5:=hid hI5;clear hI5 HSt;go_wp2_with fail
   refine(jY eb w5 (by obtain⟨_,_,_,h3,_⟩:=HI5.o;exact h3)).mono ?_
   rintro e w6 ⟨rfl,hO6,hC6⟩;have HI6:=hid (HI5.o.first HEb.o hO6 hC6);clear hO6 hC6;have hmk:(Instr.makeSlice 22 (.int .i64 8) (.int .i64 8)).run prog w6= .ok (.slice (some ⟨w6.heap.size,0,none⟩) 8 8) (w6.alloc (.cells (ze (List.replicate 8 0)) 5)):=qc 8 (by omega) w6;have hom:=qZ w6 8 (by omega) w6.heap.size (Nat.le_refl _);have hba:=(Below.refl w6.heap.size w6).alloc (Nat.le_refl _) (.cells (ze (List.replicate 8 0)) 5);obtain⟨w7,hw7⟩:=nm (w6.alloc (.cells (ze (List.replicate 8 0)) 5));rw[←hw7]at hmk hom hba;have HSt:=hid (uX 6 ((k:Int)+1) _ _ (List.replicate 8 0) w7 HI6.o hba (Gd.ptAt_clog Hlt.o) hom.at_ (by simp) (by rw[List.length_replicate];show 8≤1024;omega) (by have:=HC.o;have:=Hlt.o;omega) (fun q hq=>Or.inl (zE hom q hq).1));dsimp only at HSt;clear hom hba hw7;go_wp2_with fail
   refine HSt.o.mono ?_;rintro e w8 ⟨rfl,hI8⟩;have HI8:=hid hI8;clear hI8 HSt hmk;go_wp2_with fail
   refine(jY eb w8 (by obtain⟨_,_,_,h3,_⟩:=HI8.o;exact h3)).mono ?_
   rintro e w9 ⟨rfl,hO9,hC9⟩;have HI9:=hid (HI8.o.first HEb.o hO9 hC9);clear hO9 hC9;have HI10:Hid (qn x t S (P++[(0,Gd.headB 0)]++Gd.fmtS (k+1)) (c+1+2*(k+1)) K F w eb v5 w9):=hid (by
    have:=HI9.o
    rw[Gd.fmtS_succ,←List.append_assoc,←List.append_assoc,show c+1+2*(k+1)=c+1+2*k+1+1 by omega];exact this)
   go_wp2;go_roundw
   case rel=>exact⟨k+1,by go_num,by have:=Hlt.o;omega,HI10⟩
   case measure=>simp[intOf];have:=Hlt.o;omega
  ·obtain rfl:k=8:=by omega
   clear hlt;have HSm:Hid (Calls prog 93 #[.pointer (some ⟨x,0,none⟩),.agg #[.int .u8 0,.int .u8 0,.int .u8 0,.int .u8 0,.int .u8 0,.int .u8 0,.int .u8 0,.int .u8 0,.int .u8 0,.int .u8 0,.int .u8 0,.int .u8 0,.int .u8 0,.int .u8 0,.int .u8 0,.int .u8 0]] wr fun e w'=>e= .returned (.int .i64 0)∧qn x t S (P++[(0,Gd.headB 0)]++Gd.fmtS 8++[(576,List.replicate 16 0)]) (c+1+2*8+1) K F w eb v5 w'):=hid (Vy (List.replicate 16 0) rfl wr HI.o (by have:=HC.o;omega));go_wp2_with fail
   refine HSm.o.mono ?_;rintro e w5 ⟨rfl,hI5⟩;have HI5:=hid hI5;clear hI5 HSm HI;go_wp2_with fail
   refine(jY eb w5 (by obtain⟨_,_,_,h3,_⟩:=HI5.o;exact h3)).mono ?_
   rintro e w6 ⟨rfl,hO6,hC6⟩;have HI6:=hid (HI5.o.first HEb.o hO6 hC6);clear hO6 hC6;have HSi:Hid (Calls prog 94 #[.pointer (some ⟨x,0,none⟩),.int .i64 1,.agg #[.int .i64 2,.int .i64 1,.int .i64 0,.int .i64 0,.int .i64 0,.int .i64 0,.int .i64 0,.int .i64 0,.int .i64 0,.int .i64 0,.int .i64 0,.int .i64 0,.int .i64 0,.int .i64 0,.int .i64 0]] w6 fun e w'=>e= .returned (.int .i64 0)∧qn x t S (P++[(0,Gd.headB 0)]++Gd.fmtS 8++[(576,List.replicate 16 0)]++[(Gd.inoAt 1,Gd.inoB Gd.rootI)]) (c+1+2*8+1+1) K F w eb v5 w'):=hid (Qx 1 Gd.rootI Gd.root_shape Gd.root_may w6 HI6.o (by omega) (by omega) (by have:=HC.o;omega));go_wp2_with fail
   refine HSi.o.mono ?_;rintro e w7 ⟨rfl,hI7⟩;have HI7:=hid hI7;clear hI7 HSi HI5 HI6;go_wp2_with fail
   refine(jY eb w7 (by obtain⟨_,_,_,h3,_⟩:=HI7.o;exact h3)).mono ?_
   rintro e w8 ⟨rfl,hO8,hC8⟩;have HI8:=hid (HI7.o.first HEb.o hO8 hC8);clear hO8 hC8;have HI9:Hid (qn x t S (P++[(0,Gd.headB 0)]++Gd.fmtS 8++[(576,List.replicate 16 0)]++[(Gd.inoAt 1,Gd.inoB Gd.rootI)]++Gd.fmtN 0) (c+19+0) K F w eb v5 w8):=hid (by
    have:=HI8.o
    rw[show Gd.fmtN 0=[] from rfl,List.append_nil];exact this)
   clear HI7 HI8;go_upto_region 14 with fail
   go_loopw[10] (fun z wr=>∃k:Nat,z= .int .i64 (k+1:Nat)∧k≤31∧Hid (qn x t S (P++[(0,Gd.headB 0)]++Gd.fmtS 8++[(576,List.replicate 16 0)]++[(Gd.inoAt 1,Gd.inoB Gd.rootI)]++Gd.fmtN k) (c+19+k) K F w eb v5 wr)) (fun z _=>32-(intOf z).toNat)
   case atStart=>exact⟨0,rfl,by omega,HI9⟩
   case round=>
    obtain⟨k,rfl,hk,HI⟩:=hrel;by_cases hlt:k<31
    ·have h1:((k+1:Nat):Int)<32:=by omega
     have h2:(k:Int)+1<32:=by omega
     have HSi:Hid (Calls prog 94 #[.pointer (some ⟨x,0,none⟩),.int .i64 ((k:Int)+1+1),.agg #[.int .i64 0,.int .i64 0,.int .i64 0,.int .i64 0,.int .i64 0,.int .i64 0,.int .i64 0,.int .i64 0,.int .i64 0,.int .i64 0,.int .i64 0,.int .i64 0,.int .i64 0,.int .i64 0,.int .i64 0]] wr fun e w'=>e= .returned (.int .i64 0)∧qn x t S (P++[(0,Gd.headB 0)]++Gd.fmtS 8++[(576,List.replicate 16 0)]++[(Gd.inoAt 1,Gd.inoB Gd.rootI)]++Gd.fmtN (k+1)) (c+19+(k+1)) K F w eb v5 w'):=hid (by
      have:=Qx ((k:Int)+1+1) Gd.noIno xE (by decide) wr HI.o (by omega) (by omega) (by have:=HC.o;omega)
      rw[Gd.fmtN_succ,←List.append_assoc];rw[show((k:Int)+1+1).toNat=k+2 by omega]at this;exact this)
     have Hlt:=hid hlt;clear hlt;go_wp2_with fail
     refine HSi.o.mono ?_;rintro e w5 ⟨rfl,hI5⟩;have HI5:=hid hI5;clear hI5 HSi;go_wp2_with fail
     refine(jY eb w5 (by obtain⟨_,_,_,h3,_⟩:=HI5.o;exact h3)).mono ?_
     rintro e w6 ⟨rfl,hO6,hC6⟩;have HI6:=hid (HI5.o.first HEb.o hO6 hC6);clear hO6 hC6;go_wp2;go_roundw
     case rel=>exact⟨k+1,by go_num,by have:=Hlt.o;omega,HI6⟩
     case measure=>simp[intOf];have:=Hlt.o;omega
    ·obtain rfl:k=31:=by omega
     have hce:=(show zd wr eb 26 #[.int .i64 0] by obtain⟨_,_,_,h3,_⟩:=HI.o;exact h3);have c0:=cell_of_row wr eb 0 _ _ _ hce;clear hlt hce;go_wp2;go_ret
     obtain⟨F',h1,_⟩:=HI.o;refine⟨rfl,F',h1.mono fun h'=> ?_⟩;have e:P++Gd.fmtP=P++[(0,Gd.headB 0)]++Gd.fmtS 8++[(576,List.replicate 16 0)]++[(Gd.inoAt 1,Gd.inoB Gd.rootI)]++Gd.fmtN 31:=by
      unfold Gd.fmtP;simp only[List.append_assoc]
     rw[e];exact h'
end
namespace Np
def okc(c:UInt8):Bool:=(decide (97≤c.toNat)&&decide (c.toNat≤122))||(decide (48≤c.toNat)&&decide (c.toNat≤57))||c==46||c==95||c==45
def nameB(l:List UInt8):Bool:=l.all okc&& !l.isEmpty&&decide (l.length≤12)&& !(l==[46])&& !(l==[46,46])
def splitS:List UInt8→List (List UInt8)
 |[]=>[[]]
 |c::r=>if c=47 then[]::splitS r else
  match splitS r with
  |p::ps=>(c::p)::ps
  |[]=>[[c]]
def headS:List UInt8→List UInt8
 |[]=>[]
 |c::r=>if c=47 then[]else c::headS r
def tailS:List UInt8→List (List UInt8)
 |[]=>[]
 |c::r=>if c=47 then splitS r else tailS r
theorem splitS_eq:∀l,splitS l=headS l::tailS l
 |[]=>rfl
 |c::r=>by
  unfold splitS headS tailS;by_cases h:c=47
  ·simp[h]
  ·simp only[h,if_false];rw[splitS_eq r]
def pathL:List UInt8→Option (List (List UInt8))
 |[]=>none
 |c::r=>if c=47 then(if r=[]then some []else if decide ((splitS r).length≤6)&&(splitS r).all nameB then some (splitS r)else none)else none
def ua:List (List UInt8)→List UInt8
 |[]=>[]
 |[x]=>x
 |x::y::r=>x++47::ua (y::r)
def VQ(L:List (List UInt8)):List UInt8:=47::ua L
theorem name_ne{l:List UInt8}(h:nameB l=true):l≠[]:=by
 intro e;subst e;simp[nameB]at h
theorem yJ:∀(l:List UInt8),ua (splitS l)=l
 |[]=>rfl
 |c::r=>by
  have ih:=yJ r;unfold splitS;by_cases h:c=47
  ·rw[if_pos h];rw[splitS_eq r]at ih⊢;unfold ua;rw[ih,h];rfl
  ·rw[if_neg h];rw[splitS_eq r]at ih⊢;simp only
   cases ht:tailS r with
   |nil=>rw[ht]at ih;simp only[ua]at ih⊢;rw[ih]
   |cons y ys=>
    rw[ht]at ih;have e:ua ((c::headS r)::y::ys)=c::ua (headS r::y::ys):=rfl;rw[e,ih]
theorem pathL_some{l:List UInt8}{L:List (List UInt8)}(h:pathL l=some L):(decide (L.length≤6)&&L.all nameB)=true∧VQ L=l:=by
 unfold pathL at h;split at h
 ·cases h
 ·rename_i c r
  by_cases hc:c=47
  ·rw[if_pos hc]at h;by_cases hr:r=[]
   ·rw[if_pos hr]at h
    cases h
    exact⟨rfl,by subst hc hr;rfl⟩
   ·rw[if_neg hr]at h;split at h
    ·rename_i hcond
     cases h
     exact⟨hcond,by rw[VQ,yJ,hc]⟩
    ·cases h
  ·rw[if_neg hc]at h;cases h
def hashStep(h:Nat)(c:UInt8):Nat:=((h^^^c.toNat)*16777619) % 4294967296
def YX:Nat:=2166136261
theorem YW:YX<4294967296:=by unfold YX;omega
def hashN(l:List UInt8):Nat:=l.foldl hashStep YX
theorem hashStep_lt(h:Nat)(c:UInt8):hashStep h c<4294967296:=by
 unfold hashStep;exact Nat.mod_lt _ (by decide)
theorem Jp:∀(l:List UInt8) (h:Nat),h<4294967296→l.foldl hashStep h<4294967296
 |[],_,hh=>hh
 |c::r,h,_=>Jp r _ (hashStep_lt h c)
theorem hashN_lt(l:List UInt8):hashN l<4294967296:=by
 unfold hashN;exact Jp l _ YW
theorem hashN_snoc(l:List UInt8)(c:UInt8):hashN (l++[c])=hashStep (hashN l) c:=by
 unfold hashN;rw[List.foldl_append,List.foldl_cons,List.foldl_nil]
end Np
def okr(r:Nat):Bool:=(decide (97≤r)&&decide (r≤122))||(decide (48≤r)&&decide (r≤57))||r==46||r==95||r==45
theorem Ym{r:Nat}(h:okr r=true):r<128:=by
 unfold okr at h;simp only[Bool.or_eq_true,Bool.and_eq_true,decide_eq_true_eq,beq_iff_eq]at h;omega
theorem Qp(c:UInt8):Np.okc c=okr c.toNat:=by
 have h46:(c==46)=(c.toNat==46):=by rw[Bool.eq_iff_iff];simp[←UInt8.toNat_inj]
 have h95:(c==95)=(c.toNat==95):=by rw[Bool.eq_iff_iff];simp[←UInt8.toNat_inj]
 have h45:(c==45)=(c.toNat==45):=by rw[Bool.eq_iff_iff];simp[←UInt8.toNat_inj]
 unfold Np.okc okr;rw[h46,h95,h45]
theorem uM(s:ByteArray)(k:Nat)(h:k<s.size):s.data.toList.take (k+1)=s.data.toList.take k++[s[k]]:=by
 rw[List.take_succ_eq_append_getElem (by simpa using h)];rfl
theorem Y2{s:ByteArray}{pos:Nat}(h:(s.data.toList.take pos).all Np.okc=true)(hp:pos<s.size)(hr:okr (Utf8.decode s pos).1=true):
 (Utf8.decode s pos).2=1∧(s.data.toList.take (pos+1)).all Np.okc=true:=by
 have ha:(s[pos]'hp).toNat<128:=by
  rcases Nat.lt_or_ge (s[pos]'hp).toNat 128 with h1|h1
  ·exact h1
  ·have:=(decode_high s pos hp h1).1
   have:=Ym hr
   omega
 rw[decode_ascii s pos hp ha]at hr⊢;refine⟨rfl,?_⟩;rw[uM s pos hp,List.all_append,h,Bool.true_and,List.all_cons,List.all_nil,Bool.and_true,Qp];exact hr
theorem Y0{s:ByteArray}{pos:Nat}(hp:pos<s.size)(hr:okr (Utf8.decode s pos).1=false):Np.nameB s.data.toList=false:=by
 have hn:Np.okc (s[pos]'hp)=false:=by
  rw[Qp];rcases Nat.lt_or_ge (s[pos]'hp).toNat 128 with h1|h1
  ·rw[decode_ascii s pos hp h1]at hr;exact hr
  ·cases h:okr (s[pos]'hp).toNat with
   |false=>rfl
   |true=>have:=Ym h;omega
 have hm:(s[pos]'hp)∈s.data.toList:=by simp[ByteArray.getElem_eq_getElem_data]
 have:s.data.toList.all Np.okc=false:=by
  rw[List.all_eq_false];exact⟨_,hm,by rw[hn];simp⟩
 unfold Np.nameB;rw[this];rfl
theorem VK{s:ByteArray}{pos:Nat}(h:(s.data.toList.take pos).all Np.okc=true)(hp:¬pos<s.size):
 Np.nameB s.data.toList=(!s.data.toList.isEmpty&&decide (s.data.toList.length≤12)&& !(s.data.toList==[46])&& !(s.data.toList==[46,46])):=by
 rw[List.take_of_length_le (by rw[←Lib.size_eq];omega)]at h;unfold Np.nameB;rw[h,Bool.true_and]
theorem may_any(s:ByteArray)(w:World)(hs:s.size≤9223372036854775807):
 Calls prog 166 #[.string s] w fun e w'=>e= .returned (.bool (Np.nameB s.data.toList))∧Below w.heap.size w w':=by
 go_enter func166,ntmps166;go_wp2;go_loopw[] (fun wr=>∃pos:Nat,wr.heap[w.heap.size]? =some (.stringIter s pos)∧Below w.heap.size w wr∧Hid ((s.data.toList.take pos).all Np.okc=true)) (fun wr=>s.size-wr.iterPos w.heap.size)
 case atStart=>
  refine⟨0,?_,(Below.refl _ w).alloc (Nat.le_refl _) _,by show(s.data.toList.take 0).all Np.okc=true;simp⟩;have:=World.iter_heap w s 0
  simpa using this
 case round=>
  obtain⟨pos,hit,hbw,hok⟩:=hrel;by_cases hp:pos<s.size
  ·have hnx:∀ty,(Instr.next (.pointer (some ⟨w.heap.size,0,none⟩)) true ty).run prog wr=_:=fun ty=>Lib.run_next_any_at wr w.heap.size s pos ty hit hp;have hbw2:=Lib.below_iterAt hbw (k:=w.heap.size) (by omega) s (pos+(Utf8.decode s pos).2);have hit2:=Lib.iterAt_heap wr w.heap.size s pos (pos+(Utf8.decode s pos).2) hit;obtain⟨r,hr⟩:=nm ((Utf8.decode s pos).1);have Hr:=hid hr;rw[←hr]at hnx;clear hr;go_wp2;all_goals first
    |(have hk:okr r=true:=by
       (simp only[okr,Bool.or_eq_true,Bool.and_eq_true,decide_eq_true_eq,beq_iff_eq]
        try simp only[Bool.not_eq_eq_eq_not,Bool.not_true,Bool.not_false,decide_eq_true_eq,decide_eq_false_iff_not,bne_iff_ne,bne_eq_false_iff_eq,ne_eq]at*
        omega)
      rw[Hr.o]at hk;obtain⟨h1,h2⟩:=Y2 hok.o hp hk;go_roundw
      case rel=>exact⟨_,hit2,hbw2,by rw[h1];exact h2⟩
      case measure=>
       rw[World.iterPos,World.iterPos,hit2,hit];show s.size-(pos+(Utf8.decode s pos).2)<s.size-pos
       omega)
    |(have hk:okr r=false:=by
       (rw[Bool.eq_false_iff]
        simp only[okr,ne_eq,Bool.or_eq_true,Bool.and_eq_true,decide_eq_true_eq,beq_iff_eq];try simp only[Bool.not_eq_eq_eq_not,Bool.not_true,Bool.not_false,decide_eq_true_eq,decide_eq_false_iff_not,bne_iff_ne,bne_eq_false_iff_eq,ne_eq]at*
        omega)
      rw[Hr.o]at hk;go_ret
      exact⟨zn (Y0 hp hk).symm,hbw2⟩)
  ·have hnx:∀ty,(Instr.next (.pointer (some ⟨w.heap.size,0,none⟩)) true ty).run prog wr=_:=fun ty=>Lib.run_next_end_at wr w.heap.size s pos ty hit hp;have hend:=VK hok.o hp;rw[←Lib.toList_data,show s.toList.length=s.size by rw[Lib.toList_data,←Lib.size_eq]]at hend;have Hend:=hid hend;clear hend;go_wp2;all_goals
    go_ret
    refine⟨zn ?_,hbw⟩;rw[←Lib.toList_data,Hend.o];generalize s.toList=l at*;first
     |(have h:l=[]:=by assumption
       rw[h];rfl)
     |(have h:l=[46]:=by assumption
       rw[h];simp;done)
     |(have h:(s.size:Int)≤12:=by assumption
       rw[decide_eq_true (by omega:s.size≤12)];simp;done)
     |(rw[decide_eq_false (by omega:¬s.size≤12)];simp;done)
end Go.Proofs.YtccpdkjonepoiaaGreatDoor
