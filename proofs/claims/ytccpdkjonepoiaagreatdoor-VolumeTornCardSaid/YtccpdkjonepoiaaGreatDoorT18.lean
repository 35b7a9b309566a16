/- Walk: inode.Read of any bytes. -/
import Derived.Test.YtccpdkjonepoiaaGreatDoorT10
set_option linter.unusedVariables false
set_option linter.unusedSimpArgs false
set_option linter.unusedSectionVars false
set_option maxHeartbeats 8000000
set_option maxRecDepth 100000
namespace Go.Proofs.YtccpdkjonepoiaaGreatDoor
open Go.RowKit
open Lib(hid)
open Go.Proofs.Tryz
section
namespace Gd
def rawI(L:List UInt8):Ino:=⟨(L.getD 0 0).toNat,(L.getD 1 0).toNat,getN L 2 2,(List.range 4).map fun j=>((L.getD (4+j) 0).toNat:Int),(List.range 8).map fun j=>((L.getD (8+j) 0).toNat:Int)⟩
structure InoRaw(x:Ino)(L:List UInt8):Prop where
 len:L.length=64
 k:∃b:UInt8,L[0]? =some b∧(b.toNat:Int)=x.k
 l:∃b:UInt8,L[1]? =some b∧(b.toNat:Int)=x.l
 s:x.s=getN L 2 2
 B:∀j n,x.B[j]? =some n→∃b:UInt8,L[4+j]? =some b∧(b.toNat:Int)=n
 O:∀j n,x.O[j]? =some n→∃b:UInt8,L[8+j]? =some b∧(b.toNat:Int)=n
theorem raw_shape(L:List UInt8):(rawI L).Shape:=⟨by simp[rawI],by simp[rawI]⟩
theorem raw_one{L:List UInt8}{j:Nat}(h:j<L.length):L[j]? =some (L.getD j 0):=by
 rw[List.getD_eq_getElem?_getD,List.getElem?_eq_getElem h];rfl
theorem raw_bytes{L:List UInt8}(h:L.length=64):InoRaw (rawI L) L:=by
 refine⟨h,⟨_,raw_one (by omega),rfl⟩,⟨_,raw_one (by omega),rfl⟩,rfl,fun j n hn=> ?_,fun j n hn=> ?_⟩
 ·have hj:=(List.getElem?_eq_some_iff.1 hn).1;have hj4:j<4:=by simpa [rawI]using hj
  refine⟨_,raw_one (by omega),?_⟩;simp only[rawI,List.getElem?_map,List.getElem?_range hj4,Option.map_some,Option.some.injEq]at hn;exact hn
 ·have hj:=(List.getElem?_eq_some_iff.1 hn).1;have hj8:j<8:=by simpa [rawI]using hj
  refine⟨_,raw_one (by omega),?_⟩;simp only[rawI,List.getElem?_map,List.getElem?_range hj8,Option.map_some,Option.some.injEq]at hn;exact hn
end Gd
open Go.RowKit
attribute [local go_sem] Oper.semAt_some
theorem Vg(L:List UInt8):xN (z5 (Gd.rawI L)):=fun n hn=>by
 have hr:0≤n∧n<65536:=by
  simp only[z5,Gd.rawI,List.mem_cons,List.mem_append,List.mem_map]at hn;rcases hn with rfl|rfl|rfl|⟨j,_,rfl⟩|⟨j,_,rfl⟩
  ·have:=(L.getD 0 0).toNat_lt;omega
  ·have:=(L.getD 1 0).toNat_lt;omega
  ·have:Gd.getN L 2 2<65536:=xh L 2 2
   omega
  ·have:=(L.getD (4+j) 0).toNat_lt;omega
  ·have:=(L.getD (8+j) 0).toNat_lt;omega
 have hI: -9223372036854775808≤n∧n≤9223372036854775807:=by omega
 unfold I64;simp[Lit.wf,show IntKind.i64.min= -9223372036854775808 from rfl,show IntKind.i64.max=9223372036854775807 from rfl];omega
theorem Q6(L:List UInt8)(hlen:L.length=64)(hno:∀x:Gd.Ino,x.Shape→Gd.mayI x=true→L≠Gd.inoB x)(v:Value)(B0:Nat)(w:World)(hv:zA w B0 v L):Calls prog 53 #[v] w fun e w'=>∃E:Int,E≠0∧e= .returned (.tuple #[zQ Gd.noIno,.int .i64 E])∧Below w.heap.size w w':=by
 obtain⟨b,c,rfl,hlc,-,hbl,hcell⟩:=hv.lies (by intro e;rw[e]at hlen;simp at hlen);obtain⟨x,hx⟩:=nm (Gd.rawI L);have hs:x.Shape:=by rw[hx];exact Gd.raw_shape L
 have hI:xN (z5 x):=by rw[hx];exact Vg L
 have hIB:Gd.InoRaw x L:=by rw[hx];exact Gd.raw_bytes hlen
 have hne:L≠List.replicate 64 0:=hno Gd.noIno ⟨rfl,rfl⟩ (by decide);rw[hlen]at hlc⊢;obtain⟨w0,hw0⟩:=nm (w.alloc (.cells zP 40));have hb0:Below w.heap.size w w0:=by rw[hw0];exact(Below.refl _ _).alloc (Nat.le_refl _) _
 have hr0:w0.heap[w.heap.size]? =some (.cells zP 40 (0,0)):=by rw[hw0];exact heap_alloc_new _ _
 obtain⟨r,hr⟩:=nm w.heap.size;rw[←hr]at hr0;have hmk:(Instr.makeSlice 22 (.int .i64 64) (.int .i64 64)).run prog w0= .ok (.slice (some ⟨w0.heap.size,0,none⟩) 64 64) (w0.alloc (.cells (ze (List.replicate 64 0)) 5)):=qc 64 (by omega) w0;have hom:=qZ w0 64 (by omega) 0 (Nat.zero_le _);have hbm:Below w0.heap.size w0 (w0.alloc (.cells (ze (List.replicate 64 0)) 5)):=(Below.refl _ _).alloc (Nat.le_refl _) _;obtain⟨wm,hwm⟩:=nm (w0.alloc (.cells (ze (List.replicate 64 0)) 5));rw[←hwm]at hmk hom hbm;have HBm:=hid (hb0.trans (hbm.mono hb0.size));have hcm:∀(j:Nat) (y:UInt8),L[j]? =some y→wm.cell? ⟨b,j,none⟩=some (.int .u8 y.toNat):=fun j y hy=>(HBm.o.cell (p:=⟨b,j,none⟩) hbl).trans (hcell j y hy);have hblm:b<wm.heap.size:=Nat.lt_of_lt_of_le hbl HBm.o.size;have hby64:=jh (c:=c) hblm hcm 64 (by omega);rw[List.take_of_length_le (by omega)]at hby64
 have HEq:=hid (jS (.slice (some ⟨b,0,none⟩) 64 c) (.slice (some ⟨w0.heap.size,0,none⟩) 64 64) L (List.replicate 64 0) wm hby64 hom.at_);have HHead:=hid fun n hn=>jh (c:=c) hblm hcm n hn;have HR0:=hid ((hbm.block r (za hr0)).trans hr0);have HW0:=hid hw0;have Hr:=hid hr.symm;have HNo:=hid hno;have HLen:=hid hlen;have HBy64:=hid hby64;have HCm:=hid (And.intro hblm hcm);have HSh:=hid hs;have HAll:=hid hI;have hc64:(64:Int)≤c:=by omega
 have hc60:(60:Int)≤c:=by omega
 have hc64n:64≤c:=hlc;clear hx hno hv hs hlen hlc hbl hcell hI hw0 hb0 hr0 hr hom hbm hwm hcm hblm hby64;go_enter func53,ntmps53;go_upto_region 1 with fail
 rw[show w.alloc (.cells #[.int .i64 0,.int .i64 0,.int .i64 0,.int .i64 0,.int .i64 0,.int .i64 0,.int .i64 0,.int .i64 0,.int .i64 0,.int .i64 0,.int .i64 0,.int .i64 0,.int .i64 0,.int .i64 0,.int .i64 0] 40)=w0 from HW0.o.symm,Hr.o];go_upto_region 4 with fail
 have hLz:decide (L=List.replicate 64 0)=false:=decide_eq_false hne;rw[hLz]at HEq;have HIB:=hid hIB;obtain⟨cc,hcc⟩:=nm (Gd.crc (L.take 60));have hcl:cc<4294967296:=by rw[hcc];exact Gd.crc_lt _
 obtain⟨sn,hsn⟩:∃n:Nat,n=Gd.getN L 2 2:=⟨_,rfl⟩;have hs2:sn<65536:=by rw[hsn];exact xh L 2 2
 have hxs:x.s=sn:=by rw[hsn];exact hIB.s
 have hg2:Gd.getB L 2 2=true∧Gd.get L 2 2=(sn:Int):=by
  have h1:Gd.getN L 2 2=sn:=hsn.symm;have h2:Gd.getB L 2 2=true:=by
   unfold Gd.getB;rw[show(2:Int).toNat=2 from rfl,h1,hIB.len];simp
   omega
  refine⟨h2,?_⟩;unfold Gd.get;rw[if_pos h2,show(2:Int).toNat=2 from rfl,h1]
 obtain⟨g1,hg1⟩:=nm (Gd.get L 60 4);have HG1:Hid (Calls prog 103 #[.slice (some ⟨b,0,none⟩) 64 c,.int .i64 60,.int .i64 4] wm fun e w'=>e= .returned (.tuple #[.int .i64 g1,.bool (Gd.getB L 60 4)])∧w'=wm):=hid (by
  have:=jp (.slice (some ⟨b,0,none⟩) 64 c) L 60 4 (Or.inr (Or.inr (Or.inl rfl))) (zu (n:=60) (by omega)) wm HBy64.o (by have:=HLen.o;omega)
  rw[←hg1]at this;exact this)
 have HCr:=hid (qf (.slice (some ⟨b,0,none⟩) 60 c) (L.take 60) wm (HHead.o 60 (by have:=HLen.o;omega)) (by rw[List.length_take];have:=HLen.o;omega));rw[←hcc]at HCr;have HG2:Hid (∀W,Below wm.heap.size wm W→Calls prog 103 #[.slice (some ⟨b,0,none⟩) 64 c,.int .i64 2,.int .i64 2] W fun e w'=>e= .returned (.tuple #[.int .i64 sn,.bool true])∧w'=W):=hid fun W hW=>by
  have:=jp (.slice (some ⟨b,0,none⟩) 64 c) L 2 2 (Or.inr (Or.inl rfl)) (zu (n:=2) (by omega)) W (HBy64.o.keep hW) (by have:=HLen.o;omega)
  rw[hg2.1,hg2.2]at this;exact this
 have hc2:(cc:Int)<4294967296:=by omega
 have Hsn:=hid hxs;clear hcc hg1 hg2 hsn hxs hIB hLz HHead;go_wp2_with(go_at_call 102;with_reducible refine HEq.o.mono ?_;rintro e w1 ⟨rfl,rfl⟩)
 refine HG1.o.mono ?_;rintro e w2 ⟨rfl,rfl⟩;clear HEq HG1;go_wp2_with fail
 refine HCr.o.mono ?_;rintro e w3 ⟨rfl,hb3⟩;have HB3:=hid hb3;clear hb3 HCr;by_cases hgc:¬g1=cc
 ·have HR3:=hid ((HB3.o.block r (za HR0.o)).trans HR0.o);have hsb:(g1 !=(cc:Int))=true:=by simp[hgc]
  clear hgc;go_wp2_with(first|(refine wpList_store_mid rfl 40 _ _ rfl r 0 zP rfl rfl (zf HR3.o rfl) sizeIno (by rw[qM];exact zw _) ?_;obtain⟨hbw,hbg⟩:=zh HR3.o (vs:=zP.toList) (B:=r) rfl (Nat.le_refl r);generalize (World.setCells _ _ _ _)=wf at hbw hbg⊢))
  refine bodyPost_ret (zk rfl _ _ r 40 zP (0,0) _ rfl hbg underlying40 rfl sizeIno) rfl ?_;exact⟨_,by decide,rfl,(HBm.o.trans (HB3.o.mono HBm.o.size)).trans (by rw[Hr.o];exact hbw)⟩
 obtain rfl:g1=cc:=Classical.not_not.1 hgc
 clear hgc;go_wp2_with fail
 refine(HG2.o w3 HB3.o).mono ?_
 rintro e w4 ⟨rfl,rfl⟩;clear HG2;obtain⟨y0,hy0,hye0⟩:=HIB.o.k;obtain⟨y1,hy1,hye1⟩:=HIB.o.l;have hdr:Below w4.heap.size w4 w4.drew:=(Below.refl _ _).drew;have hbd:Below w2.heap.size w2 w4.drew:=HB3.o.trans (hdr.mono HB3.o.size);have hs0:w4.drew.cell? ⟨b,0,none⟩=some (.int .u8 y0.toNat)∧w4.drew.cell? ⟨b,1,none⟩=some (.int .u8 y1.toNat):=⟨(hbd.cell (p:=⟨b,0,none⟩) HCm.o.1).trans (HCm.o.2 0 y0 hy0),(hbd.cell (p:=⟨b,1,none⟩) HCm.o.1).trans (HCm.o.2 1 y1 hy1)⟩;have Hye:=hid (And.intro hye0 hye1);have HBd:=hid hbd;clear hy0 hye0 hy1 hye1 hdr hbd;have hw0:IntKind.i64.wrap (y0.toNat:Int)=y0.toNat:=by rw[IntKind.wrap_i64];have:=y0.toNat_lt;omega
 have hw1:IntKind.i64.wrap (y1.toNat:Int)=y1.toNat:=by rw[IntKind.wrap_i64];have:=y1.toNat_lt;omega
 obtain⟨ib,hib⟩:=nm w4.heap.size;obtain⟨wA,hwA⟩:=nm ((w4.alloc (.cells zP 40)).drew);have hnA:wA.heap[w4.heap.size]? =some (.cells zP 40 (0,0)):=by rw[hwA];exact heap_alloc_new w4 _
 have hbA:Below w4.heap.size w4 wA:=by rw[hwA];exact((Below.refl w4.heap.size w4).alloc (Nat.le_refl _) _).drew
 have HBd4:Hid (Below w2.heap.size w2 w4):=hid HB3.o;obtain⟨vs,hvs⟩:∃vs:Array Value,vs=#[.int .i64 y0.toNat,.int .i64 y1.toNat,.int .i64 sn,.int .i64 0,.int .i64 0,.int .i64 0,.int .i64 0,.int .i64 0,.int .i64 0,.int .i64 0,.int .i64 0,.int .i64 0,.int .i64 0,.int .i64 0,.int .i64 0]:=⟨_,rfl⟩;have hvz:vs=zj (jH x 0 0):=by
  unfold zj z5 jH;rw[hvs,←Hye.o.1,←Hye.o.2,Hsn.o];rfl
 have hvsz:vs.size=15:=by rw[hvs];rfl
 obtain⟨hbB,hnB⟩:=zh hnA (vs:=vs.toList) (B:=w4.heap.size) (by rw[Array.length_toList,hvsz];rfl) (Nat.le_refl _);rw[←hib]at hnA hbA hbB hnB;have hsA:=And.intro ((hbA.cell (p:=⟨b,0,none⟩) (Nat.lt_of_lt_of_le HCm.o.1 (by rw[hib];exact HBd4.o.size))).trans hs0.1) ((hbA.cell (p:=⟨b,1,none⟩) (Nat.lt_of_lt_of_le HCm.o.1 (by rw[hib];exact HBd4.o.size))).trans hs0.2);have hsB:=And.intro ((hbB.cell (p:=⟨b,0,none⟩) (Nat.lt_of_lt_of_le HCm.o.1 (by rw[hib];exact HBd4.o.size))).trans hsA.1) ((hbB.cell (p:=⟨b,1,none⟩) (Nat.lt_of_lt_of_le HCm.o.1 (by rw[hib];exact HBd4.o.size))).trans hsA.2);obtain⟨wB,hwB⟩:=nm (wA.setCells ib 0 vs.toList);rw[←hwB]at hnB hbB hsB;have HIB0:Hid (zz wB ib (jH x 0 0)):=hid ⟨by rw[hnB];congr 2,qO HSh.o (by omega) (by omega)⟩;have hib2:ib<wB.heap.size:=za HIB0.o.row;have HBw:Hid (Below w.heap.size w wB∧Below w2.heap.size w2 wB∧w2.heap.size≤ib):=hid (by
  have h1:=HBd4.o.size;rw[←hib]at h1;have h2:=HBd4.o.trans ((hbA.trans hbB).mono h1);exact⟨HBm.o.trans (h2.mono HBm.o.size),h2,h1⟩)
 have HvO:Hid (vs.all (·.oneCell')=true):=hid (by rw[hvz];exact zw _);have HTh:Hid (wA.there ib 0 vs.size):=hid (zf hnA (n:=vs.size) (by rw[hvsz];rfl));have Hib:=hid hib.symm;have HwB:=hid hwB.symm;have Hvs:=hid hvs;have Hvz:=hid hvsz;have HwA:=hid hwA;clear hwA hib hnA hbA hvz hvsz hbB hnB hwB hvs hib2;go_upto_region 10 with fail
 refine wp_region_held_drew (S:=(fun W=>W.cell? ⟨b,0,none⟩=some (.int .u8 y0.toNat)∧W.cell? ⟨b,1,none⟩=some (.int .u8 y1.toNat))) (by kernel_rfl) ?_ (fun hHeld=> ?_)
 ·exact hs0
 refine tk 0 ?_;refine tk 1 ?_;refine tk 2 ?_;refine tk 3 ?_;refine tk 4 ?_;refine tk 5 ?_;refine tk 6 ?_;refine tk 7 ?_;refine tk 8 ?_;refine tk 9 ?_;refine rd 10 (fun K hK=> ?_);go_simp
 rw[show(w4.alloc (.cells #[.int .i64 0,.int .i64 0,.int .i64 0,.int .i64 0,.int .i64 0,.int .i64 0,.int .i64 0,.int .i64 0,.int .i64 0,.int .i64 0,.int .i64 0,.int .i64 0,.int .i64 0,.int .i64 0,.int .i64 0] 40)).drew=wA from HwA.o.symm,Hib.o];try dsimp only
 refine hK.o _ _ hsA (fun hHeld=> ?_);clear hK K;try simp only[put]
 refine rd 11 (fun K hK=> ?_);refine wp_store_mid 40 _ _ rfl ib 0 vs rfl (by rw[Hvs.o];rfl) HTh.o (by rw[Hvz.o];exact sizeIno) HvO.o ?_;rw[HwB.o];try dsimp only
 refine hK.o _ _ hsB (fun hHeld=> ?_);clear hK K;try simp only[put]
 refine dn ?_
 (try simp only[Exit.then])
 (first|(refine(by assumption:∀(a:Act) (w:World),_) _ _ ?_)|skip)
 go_upto_region 12 with fail
 go_loopw[50] (fun z wr=>∃i:Nat,z= .int .i64 i∧i≤4∧Hid (zz wr ib (jH x i 0)∧Below w.heap.size w wr∧Below w2.heap.size w2 wr)) (fun z _=>4-(intOf z).toNat)
 case atStart=>exact⟨0,rfl,by omega,hid ⟨HIB0.o,HBw.o.1,HBw.o.2.1⟩⟩
 case round=>
  obtain⟨i,rfl,hi,HW⟩:=hrel;by_cases hlt:i<4
  ·obtain⟨n,hn⟩:∃n,x.B[i]? =some n:=⟨_,List.getElem?_eq_getElem (by have:=HSh.o.1;omega)⟩;obtain⟨y,hy,hye⟩:=HIB.o.B i n hn;have hyl:4+i<64:=by omega
   have hc:=(HW.o.2.2.cell (p:=⟨b,4+i,none⟩) HCm.o.1).trans (HCm.o.2 (4+i) y hy);have hq:wr.frozen? ⟨ib,3+i,none⟩=false:=frozen_of_row wr ib (3+i) _ _ HW.o.1.row;obtain⟨old,hold⟩:∃u,wr.cell? ⟨ib,3+i,none⟩=some u:=by
    rw[cell_of_row wr ib (3+i) _ _ _ HW.o.1.row];exact⟨_,Array.getElem?_eq_getElem (by rw[zy HW.o.1.shape];omega)⟩
   have hwy:IntKind.i64.wrap (y.toNat:Int)=y.toNat:=by rw[IntKind.wrap_i64];have:=y.toNat_lt;omega
   have h1:(i:Int)<4:=by omega
   have h0:(0:Int)≤i:=by omega
   obtain⟨w5,hw5⟩:=nm (wr.setCell ⟨ib,3+i,none⟩ (.int .i64 y.toNat));have HW5:Hid (zz w5 ib (jH x (i+1) 0)∧Below w.heap.size w w5∧Below w2.heap.size w2 w5):=hid (by
    have h2:=HBw.o.2.2;have h3:=HBm.o.size;rw[hw5];refine⟨?_,HW.o.2.1.setCell (show w.heap.size≤ib by omega) _,HW.o.2.2.setCell (show w2.heap.size≤ib from h2) _⟩;rw[hye];exact HW.o.1.setB HSh.o (by omega) hn)
   have Hw5:=hid hw5.symm;have k1:(4:Int)+(i:Int)<64:=by omega
   clear hn hy hye hw5 hlt;go_wp2;rw[Hw5.o];go_roundw
   case rel=>exact⟨i+1,by go_num,by omega,HW5⟩
   case measure=>simp[intOf];omega
  ·obtain rfl:i=4:=by omega
   clear hlt;obtain⟨w6,rfl⟩:=nm wr;have HW6:=HW;clear HW;go_upto_region 17 with fail
   go_loopw[63] (fun z wr=>∃i:Nat,z= .int .i64 i∧i≤8∧Hid (zz wr ib (jH x 4 i)∧Below w.heap.size w wr∧Below w2.heap.size w2 wr)) (fun z _=>8-(intOf z).toNat)
   case atStart=>exact⟨0,rfl,by omega,HW6⟩
   case round=>
    obtain⟨i,rfl,hi,HW⟩:=hrel;by_cases hlt:i<8
    ·obtain⟨n,hn⟩:∃n,x.O[i]? =some n:=⟨_,List.getElem?_eq_getElem (by have:=HSh.o.2;omega)⟩;obtain⟨y,hy,hye⟩:=HIB.o.O i n hn;have hyl:8+i<64:=by omega
     have hc:=(HW.o.2.2.cell (p:=⟨b,8+i,none⟩) HCm.o.1).trans (HCm.o.2 (8+i) y hy);have hq:wr.frozen? ⟨ib,7+i,none⟩=false:=frozen_of_row wr ib (7+i) _ _ HW.o.1.row;obtain⟨old,hold⟩:∃u,wr.cell? ⟨ib,7+i,none⟩=some u:=by
      rw[cell_of_row wr ib (7+i) _ _ _ HW.o.1.row];exact⟨_,Array.getElem?_eq_getElem (by rw[zy HW.o.1.shape];omega)⟩
     have hwy:IntKind.i64.wrap (y.toNat:Int)=y.toNat:=by rw[IntKind.wrap_i64];have:=y.toNat_lt;omega
     have h1:(i:Int)<8:=by omega
     have h0:(0:Int)≤i:=by omega
     obtain⟨w5,hw5⟩:=nm (wr.setCell ⟨ib,7+i,none⟩ (.int .i64 y.toNat));have HW5:Hid (zz w5 ib (jH x 4 (i+1))∧Below w.heap.size w w5∧Below w2.heap.size w2 w5):=hid (by
      have h2:=HBw.o.2.2;have h3:=HBm.o.size;rw[hw5];refine⟨?_,HW.o.2.1.setCell (show w.heap.size≤ib by omega) _,HW.o.2.2.setCell (show w2.heap.size≤ib from h2) _⟩;rw[hye];exact HW.o.1.setO HSh.o hn)
     have Hw5:=hid hw5.symm;have k1:(8:Int)+(i:Int)<64:=by omega
     clear hn hy hye hw5 hlt;go_wp2;rw[Hw5.o];go_roundw
     case rel=>exact⟨i+1,by go_num,by omega,HW5⟩
     case measure=>simp[intOf];omega
    ·obtain rfl:i=8:=by omega
     clear hlt;have hI7:=HW.o.1;rw[vV HSh.o]at hI7;have HI7:=hid hI7;have HS:=hid (zy HSh.o);have HR7:=hid ((HW.o.2.2.block r (za HR0.o)).trans HR0.o);have HW7:=hid HW.o.2.1;have HB7:=hid HW.o.2.2;clear hI7 HW;by_cases hmy:Gd.mayI x=true
     ·have HPu:=hid (vT x HSh.o HAll.o hmy wr);have hne2:decide (Gd.inoB x=L)=false:=decide_eq_false fun e=>HNo.o x HSh.o hmy e.symm;unfold zQ at HPu;go_upto_region 21 with fail
      go_wp2_with(refine wpList_load_row rfl 40 _ rfl ib rfl 40 (zj x) (0,0) _ HI7.o.row underlying40 rfl (by rw[HS.o];exact sizeIno) ?_)
      refine HPu.o.mono ?_;rintro e w8 ⟨v8,rfl,ho8,hb8⟩;have HEq8:=hid (jS v8 (.slice (some ⟨b,0,none⟩) 64 c) (Gd.inoB x) L w8 ho8.at_ (HBy64.o.keep (HB7.o.trans (hb8.mono HB7.o.size))));rw[hne2]at HEq8;have HR8:=hid ((hb8.block r (za HR7.o)).trans HR7.o);have HW8:=HW7.t hb8;clear ho8 hb8 HPu hne2;go_wp2_with(first|(go_at_call 102;with_reducible refine HEq8.o.mono ?_;rintro e w9 ⟨rfl,rfl⟩)|(refine wpList_store_mid rfl 40 _ _ rfl r 0 zP rfl rfl (zf HR8.o rfl) sizeIno (by rw[qM];exact zw _) ?_;obtain⟨hbw,hbg⟩:=zh HR8.o (vs:=zP.toList) (B:=r) rfl (Nat.le_refl r);generalize (World.setCells _ _ _ _)=wf at hbw hbg⊢))
      refine bodyPost_ret (zk rfl _ _ r 40 zP (0,0) _ rfl hbg underlying40 rfl sizeIno) rfl ?_;exact⟨_,by decide,rfl,HW8.o.trans (by rw[Hr.o];exact hbw)⟩
     ·have HPu:=hid (Ye x HSh.o HAll.o (by simpa using hmy) wr);unfold zQ at HPu;go_upto_region 21 with fail
      go_wp2_with(refine wpList_load_row rfl 40 _ rfl ib rfl 40 (zj x) (0,0) _ HI7.o.row underlying40 rfl (by rw[HS.o];exact sizeIno) ?_)
      refine HPu.o.mono ?_;rintro e w8 ⟨rfl,hb8⟩;have HR8:=hid ((hb8.block r (za HR7.o)).trans HR7.o);have HW8:=HW7.t hb8;clear hb8 HPu;go_wp2_with(first|(refine wpList_store_mid rfl 40 _ _ rfl r 0 zP rfl rfl (zf HR8.o rfl) sizeIno (by rw[qM];exact zw _) ?_;obtain⟨hbw,hbg⟩:=zh HR8.o (vs:=zP.toList) (B:=r) rfl (Nat.le_refl r);generalize (World.setCells _ _ _ _)=wf at hbw hbg⊢))
      refine bodyPost_ret (zk rfl _ _ r 40 zP (0,0) _ rfl hbg underlying40 rfl sizeIno) rfl ?_;exact⟨_,by decide,rfl,HW8.o.trans (by rw[Hr.o];exact hbw)⟩
end
namespace Gd
theorem get_at(L A C:List UInt8)(n w:Nat)(k:Int)(hL:L=A++(le n w++C))(hk:k=(A.length:Nat))(hn:n<256^w)(h63:n<9223372036854775808):get L k w=n:=by
 subst hL;subst hk;exact(get_mid A C n w hn h63).2
theorem seal60_sum{L:List UInt8}(h:L.length≤60):get (seal60 L) 60 4=crc ((seal60 L).take 60):=by
 obtain⟨X,hX⟩:=nm (L++List.replicate (60-L.length) 0);have hl:X.length=60:=by rw[hX,List.length_append,List.length_replicate];omega
 have e:seal60 L=X++(le (crc X) 4++[]):=by unfold seal60 sealB;rw[←hX,List.append_nil]
 have ht:(seal60 L).take 60=X:=by rw[e,←hl,List.take_left]
 rw[ht];have hc:crc X<4294967296:=crc_lt _;exact get_at _ X [] _ 4 60 e (by rw[hl];rfl) (by omega) (by omega)
theorem headB_get{n:Nat}(hn:n≤1152921504606846976):get (headB n) 8 8=n:=by
 have e:headB n=[67,77,78,49,0,0,0,0]++(le n 8++(List.replicate (60-(headBody n).length) 0++le (crc (headBody n++List.replicate (60-(headBody n).length) 0)) 4)):=by
  unfold headB seal60 sealB;generalize crc _=c;generalize List.replicate _ (0:UInt8)=r;unfold headBody nums;simp only[List.flatMap_cons,List.flatMap_nil,List.append_nil,List.append_assoc]
 exact get_at _ _ _ _ 8 8 e rfl (by omega) (by omega)
theorem get_ge(L:List UInt8)(k:Int)(w:Nat):0≤get L k w:=by
 unfold get;split
 ·omega
 ·omega
def rawS(L:List UInt8):Slot:=⟨(get L 0 4).toNat,(get L 4 4).toNat,(get L 8 8).toNat,(get L 16 1).toNat,(get L 17 1).toNat,(get L 18 8).toNat⟩
theorem slotB_eq(s:Slot):∃T,slotB s=le s.e 4++(le s.h 4++(le s.r 8++(le s.ke 1++(le s.ki 1++(le s.w 8++T))))):=by
 refine⟨List.replicate (60-(slotBody s).length) 0++le (crc (slotBody s++List.replicate (60-(slotBody s).length) 0)) 4,?_⟩;unfold slotB seal60 sealB;generalize crc _=c;generalize List.replicate _ (0:UInt8)=r;unfold slotBody nums;simp only[List.flatMap_cons,List.flatMap_nil,List.append_nil,List.append_assoc]
theorem rawS_slot{s:Slot}(hs:s.May):rawS (slotB s)=s:=by
 obtain⟨T,e⟩:=slotB_eq s;obtain⟨h1,h2,h3,h4,h5,h6⟩:=hs;have e1:get (slotB s) 0 4=s.e:=get_at _ [] _ _ 4 0 e rfl (by omega) (by omega);have e2:get (slotB s) 4 4=s.h:=get_at _ (le s.e 4) _ _ 4 4 e (by rw[le_length];rfl) (by omega) (by omega);have e3:get (slotB s) 8 8=s.r:=get_at _ (le s.e 4++le s.h 4) (le s.ke 1++(le s.ki 1++(le s.w 8++T))) _ 8 8 (by rw[e];simp only[List.append_assoc]) (by simp only[List.length_append,le_length];rfl) (by omega) (by omega);have e4:get (slotB s) 16 1=s.ke:=get_at _ (le s.e 4++le s.h 4++le s.r 8) (le s.ki 1++(le s.w 8++T)) _ 1 16 (by rw[e];simp only[List.append_assoc]) (by simp only[List.length_append,le_length];rfl) (by omega) (by omega);have e5:get (slotB s) 17 1=s.ki:=get_at _ (le s.e 4++le s.h 4++le s.r 8++le s.ke 1) (le s.w 8++T) _ 1 17 (by rw[e];simp only[List.append_assoc]) (by simp only[List.length_append,le_length];rfl) (by omega) (by omega)
 have e6:get (slotB s) 18 8=s.w:=get_at _ (le s.e 4++le s.h 4++le s.r 8++le s.ke 1++le s.ki 1) T _ 8 18 (by rw[e];simp only[List.append_assoc]) (by simp only[List.length_append,le_length];rfl) (by omega) (by omega);unfold rawS;rw[e1,e2,e3,e4,e5,e6];simp only[Int.toNat_natCast]
theorem slotB_sum(s:Slot):get (slotB s) 60 4=crc ((slotB s).take 60):=seal60_sum (by rw[slotBody_length];omega)
theorem headB_sum(n:Nat):get (headB n) 60 4=crc ((headB n).take 60):=seal60_sum (by unfold headBody;simp only[List.length_append,nums_length,List.length_cons,List.length_nil];omega)
instance(s:Slot):Decidable s.May:=decidable_of_iff (s.e≤1073741824∧s.h≤1024∧s.r≤1099511627776∧s.ke≤255∧s.ki≤32∧s.w≤1099511627776) ⟨fun⟨a,b,c,d,e,f⟩=>⟨a,b,c,d,e,f⟩,fun⟨a,b,c,d,e,f⟩=>⟨a,b,c,d,e,f⟩⟩
def isSlot(L:List UInt8):Prop:=(rawS L).May∧L=slotB (rawS L)
def isHead(L:List UInt8):Prop:=get L 8 8≤1152921504606846976∧L=headB (get L 8 8).toNat
theorem isSlot_slotB{s:Slot}(hs:s.May):isSlot (slotB s):=by
 unfold isSlot;rw[rawS_slot hs];exact⟨hs,rfl⟩
theorem isHead_headB{n:Nat}(hn:n≤1152921504606846976):isHead (headB n):=by
 unfold isHead;rw[headB_get hn];exact⟨by omega,rfl⟩
end Gd
section
attribute [local go_sem] Oper.semAt_some
theorem uf[zc]{x t c K:Nat}{S:List UInt8}{P:List Gd.Pa}{F:Nat→Prop}(i:Int)(y:Gd.Ino)(w:World)(h:zY x t S P c K w F)(h1:1≤i)(h2:i≤32)(hs:y.Shape)(hm:Gd.mayI y=true)(hb:Gd.part (Gd.view S P) (Gd.inoAt i.toNat) 64=Gd.inoB y):
 Calls prog 16 #[.pointer (some ⟨x,0,none⟩),.int .i64 i] w fun e w'=>e= .returned (.tuple #[zQ y,.int .i64 0])∧Below w.heap.size w w':=by
 obtain⟨w0,hw0⟩:=nm (w.alloc (.cells zP 40));have hb0:Below w.heap.size w w0:=by rw[hw0];exact(Below.refl _ _).alloc (Nat.le_refl _) _
 have hr0:w0.heap[w.heap.size]? =some (.cells zP 40 (0,0)):=by rw[hw0];exact heap_alloc_new _ _
 obtain⟨r,hr⟩:=nm w.heap.size;rw[←hr]at hr0;have HLd:=hid (q9 4 i _ w0 (h.below hb0) (Gd.ptAt_node h1 h2));dsimp only at HLd;rw[hb]at HLd;have HR0:=hid hr0;have HB0:=hid hb0;have HW0:=hid hw0.symm;have Hr:=hid hr.symm;have HSm:=hid (And.intro hs hm);have HS:=hid (zy hs);unfold zP at HW0;clear h hw0 hb0 hr0 hr h1 h2 hs hm hb;go_enter func16,ntmps16;go_upto_region 1 with fail
 rw[HW0.o,Hr.o];go_wp2_with fail
 refine HLd.o.mono ?_;rintro e w1 ⟨v1,rfl,ho1,hb1⟩;have HR1:=hid ((hb1.block r (za HR0.o)).trans HR0.o);have HB1:=HB0.t hb1;have HRd:=hid (uQ y HSm.o.1 HSm.o.2 v1 _ w1 ho1);clear hb1 HLd ho1;go_wp2_with fail
 refine HRd.o.mono ?_;rintro e w2 ⟨rfl,hb2⟩;have HR2:=hid ((hb2.block r (za HR1.o)).trans HR1.o);have HB2:=HB1.t hb2;unfold zQ;obtain⟨w3,hw3⟩:=nm ((w2.alloc (.cells zP 40)));have hb3:Below w2.heap.size w2 w3:=by rw[hw3];exact(Below.refl _ _).alloc (Nat.le_refl _) _
 have hn3:w3.heap[w2.heap.size]? =some (.cells zP 40 (0,0)):=by rw[hw3];exact heap_alloc_new _ _
 obtain⟨b,hbe⟩:=nm w2.heap.size;rw[←hbe]at hn3;have HN3:=hid hn3;have HR3:=hid ((hb3.block r (za HR2.o)).trans HR2.o);have HB3:=HB2.t hb3;have Hbe:=hid hbe.symm;have HW3:=hid hw3.symm;have HbB:Hid (r<b):=hid (by rw[hbe];exact za HR2.o);unfold zP at HW3;clear hb2 HRd hw3 hb3 hn3 hbe
 go_wp2_with(first|(refine wpList_store_mid rfl 40 _ _ rfl b 0 (zj y) (by rw[←Hbe.o];rfl) rfl (by rw[show w2.alloc (.cells #[.int .i64 0,.int .i64 0,.int .i64 0,.int .i64 0,.int .i64 0,.int .i64 0,.int .i64 0,.int .i64 0,.int .i64 0,.int .i64 0,.int .i64 0,.int .i64 0,.int .i64 0,.int .i64 0,.int .i64 0] 40)=w3 from HW3.o];exact zf HN3.o (by rw[HS.o];rfl)) (by rw[HS.o];exact sizeIno) (zw _) ?_;rw[HW3.o];obtain⟨hbw,hbg⟩:=zh HN3.o (vs:=(zj y).toList) (B:=b) (by rw[Array.length_toList,HS.o];rfl) (Nat.le_refl b);generalize (World.setCells _ _ _ _)=w4 at hbw hbg⊢;have HG4:=hid hbg;have HR4:=hid ((hbw.block r HbB.o).trans HR3.o);have HB4:=hid (HB3.o.trans (hbw.mono (show w.heap.size≤b by have:=HbB.o;have:=Hr.o;omega)));clear hbw hbg)|(refine wpList_load_row rfl 40 _ rfl b (by rw[←Hbe.o];rfl) 40 (zj y) (0,0) _ HG4.o underlying40 rfl (by rw[HS.o];exact sizeIno) ?_)|(refine wpList_store_mid rfl 40 _ _ rfl r 0 (zj y) rfl rfl (zf HR4.o (by rw[HS.o];rfl)) (by rw[HS.o];exact sizeIno) (zw _) ?_;obtain⟨hbw,hbg⟩:=zh HR4.o (vs:=(zj y).toList) (B:=r) (by rw[Array.length_toList,HS.o];rfl) (Nat.le_refl r);generalize (World.setCells _ _ _ _)=wf at hbw hbg⊢))
 refine bodyPost_ret (zk rfl _ _ r 40 (zj y) (0,0) _ rfl hbg underlying40 rfl (by rw[HS.o];exact sizeIno)) rfl ?_;exact⟨rfl,HB4.o.trans (by rw[Hr.o];exact hbw)⟩
theorem Jk[zc]{x t c K:Nat}{S:List UInt8}{P:List Gd.Pa}{F:Nat→Prop}(i:Int)(w:World)(h:zY x t S P c K w F)(h1:1≤i)(h2:i≤32)(hl:(Gd.part (Gd.view S P) (Gd.inoAt i.toNat) 64).length=64)(hno:∀y:Gd.Ino,y.Shape→Gd.mayI y=true→Gd.part (Gd.view S P) (Gd.inoAt i.toNat) 64≠Gd.inoB y):
 Calls prog 16 #[.pointer (some ⟨x,0,none⟩),.int .i64 i] w fun e w'=>(∃E:Int,E≠0∧e= .returned (.tuple #[zQ Gd.noIno,.int .i64 E]))∧Below w.heap.size w w':=by
 obtain⟨w0,hw0⟩:=nm (w.alloc (.cells zP 40));have hb0:Below w.heap.size w w0:=by rw[hw0];exact(Below.refl _ _).alloc (Nat.le_refl _) _
 have hr0:w0.heap[w.heap.size]? =some (.cells zP 40 (0,0)):=by rw[hw0];exact heap_alloc_new _ _
 obtain⟨r,hr⟩:=nm w.heap.size;rw[←hr]at hr0;have HLd:=hid (q9 4 i _ w0 (h.below hb0) (Gd.ptAt_node h1 h2));dsimp only at HLd;have HNo:=hid (And.intro hl hno);have HR0:=hid hr0;have HB0:=hid hb0;have HW0:=hid hw0.symm;have Hr:=hid hr.symm;unfold zP at HW0;clear h hw0 hb0 hr0 hr h1 h2 hl hno;go_enter func16,ntmps16;go_upto_region 1 with fail
 rw[HW0.o,Hr.o];go_wp2_with fail
 refine HLd.o.mono ?_;rintro e w1 ⟨v1,rfl,ho1,hb1⟩;have HR1:=hid ((hb1.block r (za HR0.o)).trans HR0.o);have HB1:=HB0.t hb1;obtain⟨y,hy⟩:=nm Gd.noIno;have HS:Hid ((zj y).size=15):=hid (by rw[hy];rfl);have HRd:=hid (Q6 _ HNo.o.1 HNo.o.2 v1 _ w1 ho1);rw[←hy]at HRd;clear hy;clear hb1 HLd ho1;go_wp2_with fail
 refine HRd.o.mono ?_;rintro e w2 ⟨E,hE,rfl,hb2⟩;have HR2:=hid ((hb2.block r (za HR1.o)).trans HR1.o);have HB2:=HB1.t hb2;unfold zQ;obtain⟨w3,hw3⟩:=nm ((w2.alloc (.cells zP 40)));have hb3:Below w2.heap.size w2 w3:=by rw[hw3];exact(Below.refl _ _).alloc (Nat.le_refl _) _
 have hn3:w3.heap[w2.heap.size]? =some (.cells zP 40 (0,0)):=by rw[hw3];exact heap_alloc_new _ _
 obtain⟨b,hbe⟩:=nm w2.heap.size;rw[←hbe]at hn3;have HN3:=hid hn3;have HR3:=hid ((hb3.block r (za HR2.o)).trans HR2.o);have HB3:=HB2.t hb3;have Hbe:=hid hbe.symm;have HW3:=hid hw3.symm;have HbB:Hid (r<b):=hid (by rw[hbe];exact za HR2.o);unfold zP at HW3;clear hb2 HRd hw3 hb3 hn3 hbe;have hE1:¬E=0:=hE;have hsb:(E !=0)=true:=by simp[hE1]
 clear hE
 go_wp2_with(first|(refine wpList_store_mid rfl 40 _ _ rfl b 0 (zj y) (by rw[←Hbe.o];rfl) rfl (by rw[show w2.alloc (.cells #[.int .i64 0,.int .i64 0,.int .i64 0,.int .i64 0,.int .i64 0,.int .i64 0,.int .i64 0,.int .i64 0,.int .i64 0,.int .i64 0,.int .i64 0,.int .i64 0,.int .i64 0,.int .i64 0,.int .i64 0] 40)=w3 from HW3.o];exact zf HN3.o (by rw[HS.o];rfl)) (by rw[HS.o];exact sizeIno) (zw _) ?_;rw[HW3.o];obtain⟨hbw,hbg⟩:=zh HN3.o (vs:=(zj y).toList) (B:=b) (by rw[Array.length_toList,HS.o];rfl) (Nat.le_refl b);generalize (World.setCells _ _ _ _)=w4 at hbw hbg⊢;have HG4:=hid hbg;have HR4:=hid ((hbw.block r HbB.o).trans HR3.o);have HB4:=hid (HB3.o.trans (hbw.mono (show w.heap.size≤b by have:=HbB.o;have:=Hr.o;omega)));clear hbw hbg)|(refine wpList_store_mid rfl 40 _ _ rfl r 0 zP rfl rfl (zf HR4.o rfl) sizeIno (by rw[qM];exact zw _) ?_;obtain⟨hbw,hbg⟩:=zh HR4.o (vs:=zP.toList) (B:=r) rfl (Nat.le_refl r);generalize (World.setCells _ _ _ _)=wf at hbw hbg⊢))
 refine bodyPost_ret (zk rfl _ _ r 40 zP (0,0) _ rfl hbg underlying40 rfl sizeIno) rfl ?_;exact⟨⟨_,by decide,rfl⟩,HB4.o.trans (by rw[Hr.o];exact hbw)⟩
end
namespace Gd
theorem splice_own{S:List UInt8}{k:Nat}{b:List UInt8}(h:part S k b.length=b):splice S k b=S:=by
 unfold splice;unfold part at h;conv=>rhs;rw[←List.take_append_drop k S,←List.take_append_drop b.length (S.drop k),h,List.drop_drop]
theorem splice_nil8{S:List UInt8}{k:Nat}(h:part S k 8=le 0 8):splice S k (List.replicate 8 0)=S:=splice_own (by rw[List.length_replicate,h];rfl)
end Gd
end Go.Proofs.YtccpdkjonepoiaaGreatDoor
