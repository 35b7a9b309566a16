/- Walk: an inode out of its bytes. -/
import Derived.Test.YtckoobkjpndgnaaGreatDoorW09
import Derived.Lib.SlBytesConst
set_option linter.unusedVariables false
set_option linter.unusedSimpArgs false
set_option linter.unusedSectionVars false
set_option maxHeartbeats 8000000
set_option maxRecDepth 100000
namespace Go.Proofs.YtckoobkjpndgnaaGreatDoor
open Go.RowKit
open Lib(hid)
open Go.Proofs.Tryz
section
attribute [local go_sem] Oper.semAt_some
theorem OwnB.lies{w:World}{B:Nat}{v:Value}{L:List UInt8}(h:OwnB w B v L)(h0:L≠[]):∃b c,v= .slice (some ⟨b,0,none⟩) L.length c∧L.length≤c∧B≤b∧b<w.heap.size∧∀(j:Nat) (x:UInt8),L[j]? =some x→w.cell? ⟨b,j,none⟩=some (.int .u8 x.toNat):=by
 obtain⟨A,c',hv',hA⟩:=h.at_;rcases h.2 with⟨_,h1⟩|⟨g,cap,cur,e,hB,hg,hcap,_⟩
 ·exact absurd (List.eq_nil_of_length_eq_zero h1) h0
 ·refine⟨g,cap,e,hcap,hB,lt_get hg,?_⟩;rw[e]at hv'
  cases hv'
  rcases hA with⟨h0,_⟩|⟨b,o,h1,_,h3⟩
  ·cases h0
  ·cases h1
   intro j x hx;have:=h3 j x hx
   rwa [Nat.zero_add]at this
theorem bytesAt_part{w:World}{b c:Nat}{L:List UInt8}(hb:b<w.heap.size)(hc:∀(j:Nat) (x:UInt8),L[j]? =some x→w.cell? ⟨b,j,none⟩=some (.int .u8 x.toNat))(n:Nat)(hn:n≤L.length):BytesAt w (.slice (some ⟨b,0,none⟩) n c) (L.take n):=
 ⟨_,c,by rw[List.length_take,Nat.min_eq_left hn],Or.inr ⟨b,0,rfl,hb,fun j x hx=>by
  rw[Nat.zero_add];refine hc j x ?_;have hj:=(List.getElem?_eq_some_iff.1 hx).1;rw[List.length_take]at hj;rwa [List.getElem?_take_of_lt (by omega)]at hx⟩⟩
def zIno:Array Value:=#[.int .i64 0,.int .i64 0,.int .i64 0,.int .i64 0,.int .i64 0,.int .i64 0,.int .i64 0,.int .i64 0,.int .i64 0,.int .i64 0,.int .i64 0,.int .i64 0,.int .i64 0,.int .i64 0,.int .i64 0]
theorem zIno_eq:zIno=inoC Gd.noIno:=rfl
def partI(x:Gd.Ino)(i j:Nat):Gd.Ino:=⟨x.k,x.l,x.s,x.B.take i++List.replicate (4-i) 0,x.O.take j++List.replicate (8-j) 0⟩
theorem partI_shape{x:Gd.Ino}(hs:x.Shape){i j:Nat}(hi:i≤4)(hj:j≤8):(partI x i j).Shape:=by
 refine⟨?_,?_⟩
 ·show(x.B.take i++List.replicate (4-i) 0).length=4
  rw[List.length_append,List.length_take,List.length_replicate,hs.1];omega
 ·show(x.O.take j++List.replicate (8-j) 0).length=8
  rw[List.length_append,List.length_take,List.length_replicate,hs.2];omega
theorem fill_set{L:List Int}{n i:Nat}{a:Int}(hl:L.length=n)(ha:L[i]? =some a):(L.take i++List.replicate (n-i) 0).set i a=L.take (i+1)++List.replicate (n-(i+1)) 0:=by
 have hi:=(List.getElem?_eq_some_iff.1 ha).1;have h1:(L.take i).length=i:=by rw[List.length_take];omega
 rw[List.set_append_right _ _ (by omega),h1,Nat.sub_self,show n-i=(n-(i+1))+1 by omega,List.replicate_succ,List.set_cons_zero,List.take_add_one,ha];simp
theorem partI_full{x:Gd.Ino}(hs:x.Shape):partI x 4 8=x:=by
 obtain⟨k,l,s,B,O⟩:=x;unfold partI;simp only[Nat.sub_self,List.replicate_zero,List.append_nil];rw[List.take_of_length_le (by rw[hs.1];exact Nat.le_refl _),List.take_of_length_le (by rw[hs.2];exact Nat.le_refl _)]
theorem intC_set(L:List Int)(j:Nat)(n:Int):(intC L).toArray.setIfInBounds j (.int .i64 n)=(intC (L.set j n)).toArray:=by
 unfold intC;rw[←Array.toList_inj];simp[List.map_set]
theorem InoAt.setB{w:World}{b i j:Nat}{x:Gd.Ino}(h:InoAt w b (partI x i j))(hs:x.Shape)(hj:j≤8){n:Int}(hn:x.B[i]? =some n):InoAt (w.setCell ⟨b,3+i,none⟩ (.int .i64 n)) b (partI x (i+1) j):=by
 have hi:=(List.getElem?_eq_some_iff.1 hn).1;have hB:=hs.1;refine⟨?_,partI_shape hs (by omega) hj⟩;have h1:=Go.heap_setCell_same w b (3+i) _ _ (.int .i64 n) h.row;rw[h1];congr 2
 unfold inoC;rw[intC_set];congr 2
 show(x.k::x.l::x.s::((x.B.take i++List.replicate (4-i) 0)++(x.O.take j++List.replicate (8-j) 0))).set (3+i) n=_
 rw[show 3+i=i+1+1+1 by omega,List.set_cons_succ,List.set_cons_succ,List.set_cons_succ,List.set_append_left _ _ (by rw[List.length_append,List.length_take,List.length_replicate];omega),fill_set hB hn];rfl
theorem InoAt.setO{w:World}{b j:Nat}{x:Gd.Ino}(h:InoAt w b (partI x 4 j))(hs:x.Shape){n:Int}(hn:x.O[j]? =some n):InoAt (w.setCell ⟨b,7+j,none⟩ (.int .i64 n)) b (partI x 4 (j+1)):=by
 have hj:=(List.getElem?_eq_some_iff.1 hn).1;have hO:=hs.2;have hB:=hs.1;refine⟨?_,partI_shape hs (Nat.le_refl _) (by omega)⟩;have h1:=Go.heap_setCell_same w b (7+j) _ _ (.int .i64 n) h.row;rw[h1];congr 2
 unfold inoC;rw[intC_set];congr 2
 show(x.k::x.l::x.s::((x.B.take 4++List.replicate (4-4) 0)++(x.O.take j++List.replicate (8-j) 0))).set (7+j) n=_
 have h4:(x.B.take 4++List.replicate (4-4) (0:Int)).length=4:=by rw[List.length_append,List.length_take,List.length_replicate];omega
 rw[show 7+j=(4+j)+1+1+1 by omega,List.set_cons_succ,List.set_cons_succ,List.set_cons_succ,List.set_append_right _ _ (by omega),h4,show 4+j-4=j by omega,fill_set hO hn];rfl
theorem readi_any(x:Gd.Ino)(hs:x.Shape)(hm:Gd.mayI x=true)(v:Value)(B0:Nat)(w:World)(hv:OwnB w B0 v (Gd.inoB x)):Calls prog 62 #[v] w fun e w'=>e= .returned (.tuple #[inoV x,.int .i64 0])∧Below w.heap.size w w':=by
 have hlen:=Gd.inoB_length hs;obtain⟨b,c,rfl,hlc,-,hbl,hcell⟩:=hv.lies (by intro e;rw[e]at hlen;simp at hlen);have hI:=ino_all hm;obtain⟨L,hL⟩:=nm (Gd.inoB x);rw[←hL]at hlen hlc hcell⊢;rw[hlen]at hlc⊢;obtain⟨w0,hw0⟩:=nm (w.alloc (.cells zIno 72));have hb0:Below w.heap.size w w0:=by rw[hw0];exact(Below.refl _ _).alloc (Nat.le_refl _) _
 have hr0:w0.heap[w.heap.size]? =some (.cells zIno 72 (0,0)):=by rw[hw0];exact heap_alloc_new _ _
 obtain⟨r,hr⟩:=nm w.heap.size;rw[←hr]at hr0;have hmk:(Instr.makeSlice 23 (.int .i64 64) (.int .i64 64)).run prog w0= .ok (.slice (some ⟨w0.heap.size,0,none⟩) 64 64) (w0.alloc (.cells (cellsB (List.replicate 64 0)) 5)):=made_bytes 64 (by omega) w0;have hom:=own_made w0 64 (by omega) 0 (Nat.zero_le _);have hbm:Below w0.heap.size w0 (w0.alloc (.cells (cellsB (List.replicate 64 0)) 5)):=(Below.refl _ _).alloc (Nat.le_refl _) _;obtain⟨wm,hwm⟩:=nm (w0.alloc (.cells (cellsB (List.replicate 64 0)) 5));rw[←hwm]at hmk hom hbm;have HBm:=hid (hb0.trans (hbm.mono hb0.size));have hcm:∀(j:Nat) (y:UInt8),L[j]? =some y→wm.cell? ⟨b,j,none⟩=some (.int .u8 y.toNat):=fun j y hy=>(HBm.o.cell (p:=⟨b,j,none⟩) hbl).trans (hcell j y hy);have hblm:b<wm.heap.size:=Nat.lt_of_lt_of_le hbl HBm.o.size;have hby64:=bytesAt_part (c:=c) hblm hcm 64 (by omega)
 rw[List.take_of_length_le (by omega)]at hby64;have HEq:=hid (bequal_any (.slice (some ⟨b,0,none⟩) 64 c) (.slice (some ⟨w0.heap.size,0,none⟩) 64 64) L (List.replicate 64 0) wm hby64 hom.at_);have HHead:=hid fun n hn=>bytesAt_part (c:=c) hblm hcm n hn;have HR0:=hid ((hbm.block r (lt_get hr0)).trans hr0);have HW0:=hid hw0;have Hr:=hid hr.symm;have HL:=hid hL;have HLen:=hid hlen;have HBy64:=hid hby64;have HCm:=hid (And.intro hblm hcm);have HSh:=hid hs;have HMy:=hid hm;have HAll:=hid hI;have hc64:(64:Int)≤c:=by omega
 have hc60:(60:Int)≤c:=by omega
 have hc64n:64≤c:=hlc;clear hv hs hm hlen hlc hbl hcell hI hL hw0 hb0 hr0 hr hom hbm hwm hcm hblm hby64;go_enter func62,ntmps62;go_upto_region 1 with fail
 rw[show w.alloc (.cells #[.int .i64 0,.int .i64 0,.int .i64 0,.int .i64 0,.int .i64 0,.int .i64 0,.int .i64 0,.int .i64 0,.int .i64 0,.int .i64 0,.int .i64 0,.int .i64 0,.int .i64 0,.int .i64 0,.int .i64 0] 72)=w0 from HW0.o.symm,Hr.o];go_upto_region 4 with fail
 by_cases hz:x.k=0
 ·have hx:=Gd.mayI_zero HSh.o HMy.o hz;have hLz:decide (L=List.replicate 64 0)=true:=by
   rw[HL.o,decide_eq_true_iff];unfold Gd.inoB;rw[if_pos hz]
  rw[hLz]at HEq;clear hLz hz;go_wp2_with(first|(go_at_call 107;with_reducible refine HEq.o.mono ?_;rintro e w1 ⟨rfl,rfl⟩)|(refine wpList_store_mid rfl 72 _ _ rfl r 0 zIno rfl rfl (there_at HR0.o rfl) sizeIno (by rw[zIno_eq];exact inoC_one _) ?_;obtain⟨hbw,hbg⟩:=whole_at HR0.o (vs:=zIno.toList) (B:=r) rfl (Nat.le_refl r);generalize (World.setCells _ _ _ _)=wf at hbw hbg⊢))
  refine bodyPost_ret (results_row_tmp rfl _ _ r 72 zIno (0,0) _ rfl hbg underlying72 rfl sizeIno) rfl ?_;refine⟨?_,HBm.o.trans (by rw[Hr.o];exact hbw)⟩;rw[hx,zIno_eq];rfl
 ·have hIB:=Gd.ino_bytes HSh.o HMy.o hz;rw[←HL.o]at hIB;have hLz:decide (L=List.replicate 64 0)=false:=decide_eq_false hIB.ne;rw[hLz]at HEq;have HIB:=hid hIB;obtain⟨cc,hcc⟩:=nm (Gd.crc (L.take 60));have hcl:cc<4294967296:=by rw[hcc];exact Gd.crc_lt _
  have hg1:Gd.getB L 60 4=true∧Gd.get L 60 4=(cc:Int):=by
   have h1:Gd.getN L 60 4=cc:=by rw[hIB.sum,hcc]
   have h2:Gd.getB L 60 4=true:=by
    unfold Gd.getB;rw[show(60:Int).toNat=60 from rfl,h1,hIB.len];simp
    omega
   refine⟨h2,?_⟩;unfold Gd.get;rw[if_pos h2,show(60:Int).toNat=60 from rfl,h1]
  have hin:=Gd.mayI_in HMy.o;obtain⟨sn,hsn⟩:∃n:Nat,x.s=n:=⟨x.s.toNat,by have:=hin.s;omega⟩;have hs2:sn≤256:=by have:=hin.s;omega
  have hg2:Gd.getB L 2 2=true∧Gd.get L 2 2=(sn:Int):=by
   have h1:Gd.getN L 2 2=sn:=by rw[hIB.s,hsn,Int.toNat_natCast]
   have h2:Gd.getB L 2 2=true:=by
    unfold Gd.getB;rw[show(2:Int).toNat=2 from rfl,h1,hIB.len];simp
    omega
   refine⟨h2,?_⟩;unfold Gd.get;rw[if_pos h2,show(2:Int).toNat=2 from rfl,h1]
  have HG1:Hid (Calls prog 108 #[.slice (some ⟨b,0,none⟩) 64 c,.int .i64 60,.int .i64 4] wm fun e w'=>e= .returned (.tuple #[.int .i64 cc,.bool true])∧w'=wm):=hid (by
   have:=get_any (.slice (some ⟨b,0,none⟩) 64 c) L 60 4 (Or.inr (Or.inr (Or.inl rfl))) (nat_I64 (n:=60) (by omega)) wm HBy64.o (by have:=HLen.o;omega)
   rw[hg1.1,hg1.2]at this;exact this)
  have HCr:=hid (crc_any (.slice (some ⟨b,0,none⟩) 60 c) (L.take 60) wm (HHead.o 60 (by have:=HLen.o;omega)) (by rw[List.length_take];have:=HLen.o;omega));rw[←hcc]at HCr;have HG2:Hid (∀W,Below wm.heap.size wm W→Calls prog 108 #[.slice (some ⟨b,0,none⟩) 64 c,.int .i64 2,.int .i64 2] W fun e w'=>e= .returned (.tuple #[.int .i64 sn,.bool true])∧w'=W):=hid fun W hW=>by
   have:=get_any (.slice (some ⟨b,0,none⟩) 64 c) L 2 2 (Or.inr (Or.inl rfl)) (nat_I64 (n:=2) (by omega)) W (HBy64.o.keep hW) (by have:=HLen.o;omega)
   rw[hg2.1,hg2.2]at this;exact this
  have hc2:(cc:Int)<4294967296:=by omega
  have Hsn:=hid hsn;have HIn:=hid hin;have Hz:=hid hz;clear hcc hg1 hg2 hsn hin hIB hLz HHead hz;go_wp2_with(go_at_call 107;with_reducible refine HEq.o.mono ?_;rintro e w1 ⟨rfl,rfl⟩)
  refine HG1.o.mono ?_;rintro e w2 ⟨rfl,rfl⟩;clear HEq HG1;go_wp2_with fail
  refine HCr.o.mono ?_;rintro e w3 ⟨rfl,hb3⟩;have HB3:=hid hb3;clear hb3 HCr;go_wp2_with fail
  refine(HG2.o w3 HB3.o).mono ?_
  rintro e w4 ⟨rfl,rfl⟩;clear HG2;obtain⟨y0,hy0,hye0⟩:=HIB.o.k;obtain⟨y1,hy1,hye1⟩:=HIB.o.l;have hdr:Below w4.heap.size w4 w4.drew:=(Below.refl _ _).drew;have hbd:Below w2.heap.size w2 w4.drew:=HB3.o.trans (hdr.mono HB3.o.size);have hs0:w4.drew.cell? ⟨b,0,none⟩=some (.int .u8 y0.toNat)∧w4.drew.cell? ⟨b,1,none⟩=some (.int .u8 y1.toNat):=⟨(hbd.cell (p:=⟨b,0,none⟩) HCm.o.1).trans (HCm.o.2 0 y0 hy0),(hbd.cell (p:=⟨b,1,none⟩) HCm.o.1).trans (HCm.o.2 1 y1 hy1)⟩;have Hye:=hid (And.intro hye0 hye1);have HBd:=hid hbd;clear hy0 hye0 hy1 hye1 hdr hbd;have hw0:IntKind.i64.wrap (y0.toNat:Int)=y0.toNat:=by rw[IntKind.wrap_i64];have:=y0.toNat_lt;omega
  have hw1:IntKind.i64.wrap (y1.toNat:Int)=y1.toNat:=by rw[IntKind.wrap_i64];have:=y1.toNat_lt;omega
  obtain⟨ib,hib⟩:=nm w4.heap.size;obtain⟨wA,hwA⟩:=nm ((w4.alloc (.cells zIno 72)).drew);have hnA:wA.heap[w4.heap.size]? =some (.cells zIno 72 (0,0)):=by rw[hwA];exact heap_alloc_new w4 _
  have hbA:Below w4.heap.size w4 wA:=by rw[hwA];exact((Below.refl w4.heap.size w4).alloc (Nat.le_refl _) _).drew
  have HBd4:Hid (Below w2.heap.size w2 w4):=hid HB3.o;obtain⟨vs,hvs⟩:∃vs:Array Value,vs=#[.int .i64 y0.toNat,.int .i64 y1.toNat,.int .i64 sn,.int .i64 0,.int .i64 0,.int .i64 0,.int .i64 0,.int .i64 0,.int .i64 0,.int .i64 0,.int .i64 0,.int .i64 0,.int .i64 0,.int .i64 0,.int .i64 0]:=⟨_,rfl⟩;have hvz:vs=inoC (partI x 0 0):=by
   unfold inoC inoL partI;rw[hvs,←Hye.o.1,←Hye.o.2,Hsn.o];rfl
  have hvsz:vs.size=15:=by rw[hvs];rfl
  obtain⟨hbB,hnB⟩:=whole_at hnA (vs:=vs.toList) (B:=w4.heap.size) (by rw[Array.length_toList,hvsz];rfl) (Nat.le_refl _);rw[←hib]at hnA hbA hbB hnB;have hsA:=And.intro ((hbA.cell (p:=⟨b,0,none⟩) (Nat.lt_of_lt_of_le HCm.o.1 (by rw[hib];exact HBd4.o.size))).trans hs0.1) ((hbA.cell (p:=⟨b,1,none⟩) (Nat.lt_of_lt_of_le HCm.o.1 (by rw[hib];exact HBd4.o.size))).trans hs0.2);have hsB:=And.intro ((hbB.cell (p:=⟨b,0,none⟩) (Nat.lt_of_lt_of_le HCm.o.1 (by rw[hib];exact HBd4.o.size))).trans hsA.1) ((hbB.cell (p:=⟨b,1,none⟩) (Nat.lt_of_lt_of_le HCm.o.1 (by rw[hib];exact HBd4.o.size))).trans hsA.2);obtain⟨wB,hwB⟩:=nm (wA.setCells ib 0 vs.toList);rw[←hwB]at hnB hbB hsB;have HIB0:Hid (InoAt wB ib (partI x 0 0)):=hid ⟨by rw[hnB];congr 2,partI_shape HSh.o (by omega) (by omega)⟩;have hib2:ib<wB.heap.size:=lt_get HIB0.o.row
  have HBw:Hid (Below w.heap.size w wB∧Below w2.heap.size w2 wB∧w2.heap.size≤ib):=hid (by
   have h1:=HBd4.o.size;rw[←hib]at h1;have h2:=HBd4.o.trans ((hbA.trans hbB).mono h1);exact⟨HBm.o.trans (h2.mono HBm.o.size),h2,h1⟩)
  have HvO:Hid (vs.all (·.oneCell')=true):=hid (by rw[hvz];exact inoC_one _);have HTh:Hid (wA.there ib 0 vs.size):=hid (there_at hnA (n:=vs.size) (by rw[hvsz];rfl));have Hib:=hid hib.symm;have HwB:=hid hwB.symm;have Hvs:=hid hvs;have Hvz:=hid hvsz;have HwA:=hid hwA;clear hwA hib hnA hbA hvz hvsz hbB hnB hwB hvs hib2;go_upto_region 10 with fail
  refine wp_region_held_drew (S:=(fun W=>W.cell? ⟨b,0,none⟩=some (.int .u8 y0.toNat)∧W.cell? ⟨b,1,none⟩=some (.int .u8 y1.toNat))) (by kernel_rfl) ?_ (fun hHeld=> ?_)
  ·exact hs0
  refine tk 0 ?_;refine tk 1 ?_;refine tk 2 ?_;refine tk 3 ?_;refine tk 4 ?_;refine tk 5 ?_;refine tk 6 ?_;refine tk 7 ?_;refine tk 8 ?_;refine tk 9 ?_;refine rd 10 (fun K hK=> ?_);go_simp
  rw[show(w4.alloc (.cells #[.int .i64 0,.int .i64 0,.int .i64 0,.int .i64 0,.int .i64 0,.int .i64 0,.int .i64 0,.int .i64 0,.int .i64 0,.int .i64 0,.int .i64 0,.int .i64 0,.int .i64 0,.int .i64 0,.int .i64 0] 72)).drew=wA from HwA.o.symm,Hib.o];try dsimp only
  refine hK.o _ _ hsA (fun hHeld=> ?_);clear hK K;try simp only[put]
  refine rd 11 (fun K hK=> ?_);refine wp_store_mid 72 _ _ rfl ib 0 vs rfl (by rw[Hvs.o];rfl) HTh.o (by rw[Hvz.o];exact sizeIno) HvO.o ?_;rw[HwB.o];try dsimp only
  refine hK.o _ _ hsB (fun hHeld=> ?_);clear hK K;try simp only[put]
  refine dn ?_
  (try simp only[Exit.then])
  (first|(refine(by assumption:∀(a:Act) (w:World),_) _ _ ?_)|skip)
  go_upto_region 12 with fail
  go_loopw[50] (fun z wr=>∃i:Nat,z= .int .i64 i∧i≤4∧Hid (InoAt wr ib (partI x i 0)∧Below w.heap.size w wr∧Below w2.heap.size w2 wr)) (fun z _=>4-(intOf z).toNat)
  case atStart=>exact⟨0,rfl,by omega,hid ⟨HIB0.o,HBw.o.1,HBw.o.2.1⟩⟩
  case round=>
   obtain⟨i,rfl,hi,HW⟩:=hrel;by_cases hlt:i<4
   ·obtain⟨n,hn⟩:∃n,x.B[i]? =some n:=⟨_,List.getElem?_eq_getElem (by have:=HSh.o.1;omega)⟩;obtain⟨y,hy,hye⟩:=HIB.o.B i n hn;have hyl:4+i<64:=by omega
    have hc:=(HW.o.2.2.cell (p:=⟨b,4+i,none⟩) HCm.o.1).trans (HCm.o.2 (4+i) y hy);have hq:wr.frozen? ⟨ib,3+i,none⟩=false:=frozen_of_row wr ib (3+i) _ _ HW.o.1.row;obtain⟨old,hold⟩:∃u,wr.cell? ⟨ib,3+i,none⟩=some u:=by
     rw[cell_of_row wr ib (3+i) _ _ _ HW.o.1.row];exact⟨_,Array.getElem?_eq_getElem (by rw[inoC_size HW.o.1.shape];omega)⟩
    have hwy:IntKind.i64.wrap (y.toNat:Int)=y.toNat:=by rw[IntKind.wrap_i64];have:=y.toNat_lt;omega
    have h1:(i:Int)<4:=by omega
    have h0:(0:Int)≤i:=by omega
    obtain⟨w5,hw5⟩:=nm (wr.setCell ⟨ib,3+i,none⟩ (.int .i64 y.toNat));have HW5:Hid (InoAt w5 ib (partI x (i+1) 0)∧Below w.heap.size w w5∧Below w2.heap.size w2 w5):=hid (by
     have h2:=HBw.o.2.2;have h3:=HBm.o.size;rw[hw5];refine⟨?_,HW.o.2.1.setCell (show w.heap.size≤ib by omega) _,HW.o.2.2.setCell (show w2.heap.size≤ib from h2) _⟩;rw[hye];exact HW.o.1.setB HSh.o (by omega) hn)
    have Hw5:=hid hw5.symm;have k1:(4:Int)+(i:Int)<64:=by omega
    clear hn hy hye hw5 hlt;go_wp2;rw[Hw5.o];go_roundw
    case rel=>exact⟨i+1,by go_num,by omega,HW5⟩
    case measure=>simp[intOf];omega
   ·obtain rfl:i=4:=by omega
    clear hlt;obtain⟨w6,rfl⟩:=nm wr;have HW6:=HW;clear HW;go_upto_region 17 with fail
    go_loopw[63] (fun z wr=>∃i:Nat,z= .int .i64 i∧i≤8∧Hid (InoAt wr ib (partI x 4 i)∧Below w.heap.size w wr∧Below w2.heap.size w2 wr)) (fun z _=>8-(intOf z).toNat)
    case atStart=>exact⟨0,rfl,by omega,HW6⟩
    case round=>
     obtain⟨i,rfl,hi,HW⟩:=hrel;by_cases hlt:i<8
     ·obtain⟨n,hn⟩:∃n,x.O[i]? =some n:=⟨_,List.getElem?_eq_getElem (by have:=HSh.o.2;omega)⟩;obtain⟨y,hy,hye⟩:=HIB.o.O i n hn;have hyl:8+i<64:=by omega
      have hc:=(HW.o.2.2.cell (p:=⟨b,8+i,none⟩) HCm.o.1).trans (HCm.o.2 (8+i) y hy);have hq:wr.frozen? ⟨ib,7+i,none⟩=false:=frozen_of_row wr ib (7+i) _ _ HW.o.1.row;obtain⟨old,hold⟩:∃u,wr.cell? ⟨ib,7+i,none⟩=some u:=by
       rw[cell_of_row wr ib (7+i) _ _ _ HW.o.1.row];exact⟨_,Array.getElem?_eq_getElem (by rw[inoC_size HW.o.1.shape];omega)⟩
      have hwy:IntKind.i64.wrap (y.toNat:Int)=y.toNat:=by rw[IntKind.wrap_i64];have:=y.toNat_lt;omega
      have h1:(i:Int)<8:=by omega
      have h0:(0:Int)≤i:=by omega
      obtain⟨w5,hw5⟩:=nm (wr.setCell ⟨ib,7+i,none⟩ (.int .i64 y.toNat));have HW5:Hid (InoAt w5 ib (partI x 4 (i+1))∧Below w.heap.size w w5∧Below w2.heap.size w2 w5):=hid (by
       have h2:=HBw.o.2.2;have h3:=HBm.o.size;rw[hw5];refine⟨?_,HW.o.2.1.setCell (show w.heap.size≤ib by omega) _,HW.o.2.2.setCell (show w2.heap.size≤ib from h2) _⟩;rw[hye];exact HW.o.1.setO HSh.o hn)
      have Hw5:=hid hw5.symm;have k1:(8:Int)+(i:Int)<64:=by omega
      clear hn hy hye hw5 hlt;go_wp2;rw[Hw5.o];go_roundw
      case rel=>exact⟨i+1,by go_num,by omega,HW5⟩
      case measure=>simp[intOf];omega
     ·obtain rfl:i=8:=by omega
      clear hlt;have hI7:=HW.o.1;rw[partI_full HSh.o]at hI7;have HI7:=hid hI7;have HPu:=hid (puti_any x HSh.o HAll.o HMy.o wr);have HS:=hid (inoC_size HSh.o);have HR7:=hid ((HW.o.2.2.block r (lt_get HR0.o)).trans HR0.o);have HW7:=hid HW.o.2.1;have HB7:=hid HW.o.2.2;unfold inoV at HPu;clear hI7 HW;go_upto_region 21 with fail
      go_wp2_with(refine wpList_load_row rfl 72 _ rfl ib rfl 72 (inoC x) (0,0) _ HI7.o.row underlying72 rfl (by rw[HS.o];exact sizeIno) ?_)
      refine HPu.o.mono ?_;rintro e w8 ⟨v8,rfl,ho8,hb8⟩;rw[←HL.o]at ho8;have HEq8:=hid (bequal_any v8 (.slice (some ⟨b,0,none⟩) 64 c) L L w8 ho8.at_ (HBy64.o.keep (HB7.o.trans (hb8.mono HB7.o.size))));rw[decide_eq_true rfl]at HEq8;have HI8:=hid (HI7.o.keep hb8);have HR8:=hid ((hb8.block r (lt_get HR7.o)).trans HR7.o);have HW8:=HW7.t hb8;clear ho8 hb8 HPu
      go_wp2_with(first|(go_at_call 107;with_reducible refine HEq8.o.mono ?_;rintro e w9 ⟨rfl,rfl⟩)|(refine wpList_load_row rfl 72 _ rfl ib rfl 72 (inoC x) (0,0) _ HI8.o.row underlying72 rfl (by rw[HS.o];exact sizeIno) ?_)|(refine wpList_store_mid rfl 72 _ _ rfl r 0 (inoC x) rfl rfl (there_at HR8.o (by rw[HS.o];rfl)) (by rw[HS.o];exact sizeIno) (inoC_one _) ?_;obtain⟨hbw,hbg⟩:=whole_at HR8.o (vs:=(inoC x).toList) (B:=r) (by rw[Array.length_toList,HS.o];rfl) (Nat.le_refl r);generalize (World.setCells _ _ _ _)=wf at hbw hbg⊢))
      refine bodyPost_ret (results_row_tmp rfl _ _ r 72 (inoC x) (0,0) _ rfl hbg underlying72 rfl (by rw[HS.o];exact sizeIno)) rfl ?_;exact⟨rfl,HW8.o.trans (by rw[Hr.o];exact hbw)⟩
end
section
attribute [local go_sem] Oper.semAt_some
namespace Gd
def nums(N:List Nat)(k:Nat):List UInt8:=N.flatMap fun n=>le n k
theorem nums_length:∀(N:List Nat) (k:Nat),(nums N k).length=N.length*k
 |[],k=>by simp[nums]
 |n::r,k=>by
  have:=nums_length r k
  unfold nums at*;rw[List.flatMap_cons,List.length_append,le_length,this,List.length_cons,Nat.add_mul,Nat.one_mul,Nat.add_comm]
theorem nums_take{N:List Nat}{i n:Nat}(h:N[i]? =some n)(k:Nat):nums (N.take (i+1)) k=nums (N.take i) k++le n k:=by
 unfold nums;rw[List.take_add_one,h,List.flatMap_append];simp
def seal60(L:List UInt8):List UInt8:=sealB (L++List.replicate (60-L.length) 0)
theorem seal60_length{L:List UInt8}(h:L.length≤60):(seal60 L).length=64:=by
 unfold seal60;rw[sealB_length,List.length_append,List.length_replicate];omega
structure Slot where
 e:Nat
 h:Nat
 r:Nat
 ke:Nat
 ki:Nat
 w:Nat
structure Slot.May(s:Slot):Prop where
 e:s.e≤1073741824
 h:s.h≤1024
 r:s.r≤1099511627776
 ke:s.ke≤255
 ki:s.ki≤32
 w:s.w≤1099511627776
def slotBody(s:Slot):List UInt8:=nums [s.e,s.h] 4++nums [s.r] 8++nums [s.ke,s.ki] 1++nums [s.w] 8
def slotB(s:Slot):List UInt8:=seal60 (slotBody s)
theorem slotBody_length(s:Slot):(slotBody s).length=26:=by
 unfold slotBody;simp only[List.length_append,nums_length,List.length_cons,List.length_nil]
def headBody(n:Nat):List UInt8:=[67,77,78,49,0,0,0,0]++nums [n] 8
def headB(n:Nat):List UInt8:=seal60 (headBody n)
theorem slotB_length(s:Slot):(slotB s).length=64:=seal60_length (by rw[slotBody_length];omega)
theorem headB_length(n:Nat):(headB n).length=64:=seal60_length (by unfold headBody;simp only[List.length_append,nums_length,List.length_cons,List.length_nil];omega)
end Gd
def NatsAt(w:World)(b:Nat)(N:List Nat):Prop:=b<w.heap.size∧∀(j n:Nat),N[j]? =some n→w.cell? ⟨b,j,none⟩=some (.int .i64 n)
theorem NatsAt.keep{w w':World}{b:Nat}{N:List Nat}(h:NatsAt w b N)(hb:Below w.heap.size w w'):NatsAt w' b N:=⟨Nat.lt_of_lt_of_le h.1 hb.size,fun j n hn=>(hb.cell (p:=⟨b,j,none⟩) h.1).trans (h.2 j n hn)⟩
theorem numbers_any(v:Value)(L:List UInt8)(k:Nat)(hk:Gd.wid k)(N:List Nat)(b c:Nat)(w:World)(hv:BytesAt w v L)(hN:NatsAt w b N)(h0:0<N.length)(h8:N.length≤8)(hL:L.length≤100000)(hf:∀n∈N,n<256^k∧n≤9223372036854775807):
 Calls prog 85 #[v,.int .i64 k,.slice (some ⟨b,0,none⟩) N.length c] w (GivesB w (L++Gd.nums N k)):=by
 have HV:=hid hv;have HN:=hid hN;have HF:=hid hf;have HL:=hid hL;have HK:=hid hk;have hk8:k≤8:=by rcases hk with rfl|rfl|rfl|rfl<;>omega
 obtain⟨m,hm⟩:=nm N.length;rw[←hm]at h0 h8⊢;have Hm:=hid hm;clear hv hN hf hL hk hm;go_enter func85,ntmps85;go_upto_region 2 with fail
 go_loopw[0,11] (fun u z wr=>∃i:Nat,z= .int .i64 i∧i≤m∧Hid (BytesAt wr u (L++Gd.nums (N.take i) k))∧Hid (0<i→OwnB wr w.heap.size u (L++Gd.nums (N.take i) k))∧Hid (Below w.heap.size w wr)) (fun _ z _=>m-(intOf z).toNat)
 case atStart=>exact⟨0,rfl,by omega,hid (by rw[List.take_zero];simpa [Gd.nums]using HV.o),hid (fun h=>absurd h (by omega)),hid (Below.refl _ _)⟩
 case round=>
  obtain⟨i,rfl,hi,HO,HOw,HB⟩:=hrel;by_cases hlt:i<m
  ·obtain⟨n,hn⟩:∃n,N[i]? =some n:=⟨_,List.getElem?_eq_getElem (by have:=Hm.o;omega)⟩;have hc:=(HN.o.keep HB.o).2 i n hn;have h1:(i:Int)<m:=by omega
   have h2:(0:Int)≤i:=by omega
   have HT:=hid (Gd.nums_take hn k);have hfn:=HF.o n (List.mem_of_getElem? hn);have HPt:=hid (putn_any u0 _ n k HK.o hfn.1 hfn.2 wr HO.o (by
    rw[List.length_append,Gd.nums_length,List.length_take];have h3:=HL.o;have h4:min i N.length*k≤8*8:=Nat.mul_le_mul (by have:=Hm.o;omega) hk8;omega))
   clear hn hlt hfn;go_wp2_with fail
   refine HPt.o.mono ?_;rintro e w5 ⟨v5,rfl,ho5,hb5⟩;rw[List.append_assoc,←HT.o]at ho5;have HO5:=hid ho5.at_;have HOw5:Hid (0<i+1→OwnB w5 w.heap.size v5 (L++Gd.nums (N.take (i+1)) k)):=hid fun _=>ho5.mono HB.o.size;have HB5:=HB.t hb5;clear ho5 hb5 HPt;go_wp2;go_roundw
   case rel=>exact⟨i+1,by go_num,by omega,HO5,HOw5,HB5⟩
   case measure=>simp[intOf];omega
  ·obtain rfl:i=m:=by omega
   clear hlt;go_wp2;go_ret
   refine⟨_,rfl,?_,HB.o⟩;have:=HOw.o h0
   rw[List.take_of_length_le (by have:=Hm.o;omega)]at this;exact this
theorem seal_any(v:Value)(L:List UInt8)(B:Nat)(w:World)(hv:OwnB w B v L)(hL:L.length≤60)(hB:B≤w.heap.size):Calls prog 84 #[v] w fun e w'=>∃u,e= .returned u∧OwnB w' B u (Gd.seal60 L)∧Below B w w':=by
 have HV:=hid hv;obtain⟨A,c,rfl,-⟩:=hv.at_;obtain⟨l,hl⟩:=nm L.length;rw[←hl]at HV hL⊢;have Hl:=hid hl;have HB:=hid hB;have hl60:(l:Int)≤60:=by omega
 have hs:IntKind.i64.wrap (60-(l:Int))=((60-l:Nat):Int):=by rw[IntKind.wrap_i64];omega
 clear hv hl hB;go_enter func84,ntmps84;go_wp2_with(at_builtin;refine app_zeros rfl _ _ rfl B (.slice A l c) L w rfl HV.o (60-l) _ rfl (by omega) (by have:=Hl.o;omega) HB.o ?_;intro v7 w7 ho7 hb7)
 have HE:Hid (Gd.seal60 L=(L++List.replicate (60-l) 0)++Gd.le (Gd.crc (L++List.replicate (60-l) 0)) 4):=hid (by rw[Hl.o];rfl);obtain⟨X,hX⟩:=nm (L++List.replicate (60-l) 0);have HXl:Hid (X.length=60):=hid (by rw[hX,List.length_append,List.length_replicate];have:=Hl.o;omega);rw[←hX]at ho7 HE;have HO7:=hid ho7;have HB7:=hid hb7;have HCr:=hid (crc_any v7 X w7 HO7.o.at_ (by have:=HXl.o;omega));have hcl:=Gd.crc_lt X;obtain⟨cc,hcc⟩:=nm (Gd.crc X);rw[←hcc]at HCr HE hcl;have hc2:(cc:Int)<4294967296:=by omega
 clear hX hcc ho7 hb7 HV hs;go_wp2_with fail
 refine HCr.o.mono ?_;rintro e w8 ⟨rfl,hb8⟩;have hB7:B≤w7.heap.size:=Nat.le_trans HB.o HB7.o.size;have HB8:=hid (HB7.o.trans (hb8.mono hB7));have HO8:=hid (HO7.o.keep hb8);have HP8:=hid (putn_any v7 X cc 4 (Or.inr (Or.inr (Or.inl rfl))) (by omega) (by omega) w8 HO8.o.at_ (by have:=HXl.o;omega));have HB2:=hid hB7;clear hb8 HCr HO7 hB7;go_wp2_with fail
 refine HP8.o.mono ?_;rintro e w9 ⟨v9,rfl,ho9,hb9⟩;have hB8:B≤w8.heap.size:=Nat.le_trans HB.o HB8.o.size;have HO9:=hid (ho9.mono hB8);have HB9:=hid (HB8.o.trans (hb9.mono hB8));clear ho9 hb9 HP8 hB8;go_wp2;go_ret
 refine⟨v9,rfl,?_,HB9.o⟩;rw[HE.o];exact HO9.o
theorem slin_any(n m:Nat)(hn:n≤m)(w:World):Calls prog 83 #[.int .i64 n,.int .i64 m] w fun e w'=>e= .returned (.bool true)∧w'=w:=by
 have h1:(n:Int)≤m:=by omega
 go_enter func83,ntmps83;go_wp2;go_ret
 exact⟨rfl,rfl⟩
end
section
attribute [local go_sem] Oper.semAt_some
def slotC(s:Gd.Slot):Array Value:=#[.int .i64 s.e,.int .i64 s.h,.int .i64 s.r,.int .i64 s.ke,.int .i64 s.ki,.int .i64 s.w]
def slotV(s:Gd.Slot):Value:= .agg (slotC s)
theorem slotC_get{w:World}{b:Nat}{s:Gd.Slot}(h:w.heap[b]? =some (.cells (slotC s) 102 (0,0))):w.cell? ⟨b,0,none⟩=some (.int .i64 s.e)∧w.cell? ⟨b,1,none⟩=some (.int .i64 s.h)∧w.cell? ⟨b,2,none⟩=some (.int .i64 s.r)∧w.cell? ⟨b,3,none⟩=some (.int .i64 s.ke)∧w.cell? ⟨b,4,none⟩=some (.int .i64 s.ki)∧w.cell? ⟨b,5,none⟩=some (.int .i64 s.w):=
 ⟨cell_of_row w b 0 _ _ _ h,cell_of_row w b 1 _ _ _ h,cell_of_row w b 2 _ _ _ h,cell_of_row w b 3 _ _ _ h,cell_of_row w b 4 _ _ _ h,cell_of_row w b 5 _ _ _ h⟩
theorem nats_new2(w:World)(a b:Nat):NatsAt (w.alloc (.cells #[.int .i64 a,.int .i64 b] 3)) w.heap.size [a,b]:=by
 have h:=heap_alloc_new w (.cells #[.int .i64 a,.int .i64 b] 3);refine⟨lt_get h,fun j n hj=> ?_⟩;rw[cell_of_row _ _ j _ _ _ h];match j,hj with
 |0,hj=>cases hj;rfl
 |1,hj=>cases hj;rfl
 |j+2,hj=>simp at hj
theorem nats_new1(w:World)(a:Nat):NatsAt (w.alloc (.cells #[.int .i64 a] 3)) w.heap.size [a]:=by
 have h:=heap_alloc_new w (.cells #[.int .i64 a] 3);refine⟨lt_get h,fun j n hj=> ?_⟩;rw[cell_of_row _ _ j _ _ _ h];match j,hj with
 |0,hj=>cases hj;rfl
 |j+1,hj=>simp at hj
theorem putslot_any(s:Gd.Slot)(hs:s.May)(w:World):Calls prog 40 #[slotV s] w (Loads w (Gd.slotB s)):=by
 obtain⟨wb,hwb⟩:=nm (w.alloc (.cells (slotC s) 102));have hbb:Below w.heap.size w wb:=by rw[hwb];exact(Below.refl _ _).alloc (Nat.le_refl _) _
 have hbc:wb.heap[w.heap.size]? =some (.cells (slotC s) 102 (0,0)):=by rw[hwb];exact heap_alloc_new _ _
 obtain⟨b,hbe⟩:=nm w.heap.size;rw[←hbe]at hbc;obtain⟨m1,m2,m3,m4,m5,m6⟩:=hs;have HE:Hid (Gd.slotB s=Gd.seal60 (Gd.nums [s.e,s.h] 4++Gd.nums [s.r] 8++Gd.nums [s.ke,s.ki] 1++Gd.nums [s.w] 8)):=hid rfl;obtain⟨e,h,r,ke,ki,w0⟩:=s;dsimp only at m1 m2 m3 m4 m5 m6 HE;have HIe:Hid (∀W,Calls prog 83 #[.int .i64 e,.int .i64 1073741824] W fun e w'=>e= .returned (.bool true)∧w'=W):=hid (slin_any e 1073741824 m1);have HIh:Hid (∀W,Calls prog 83 #[.int .i64 h,.int .i64 1024] W fun e w'=>e= .returned (.bool true)∧w'=W):=hid (slin_any h 1024 m2);have HIr:Hid (∀W,Calls prog 83 #[.int .i64 r,.int .i64 1099511627776] W fun e w'=>e= .returned (.bool true)∧w'=W):=hid (slin_any r 1099511627776 m3);have HIke:Hid (∀W,Calls prog 83 #[.int .i64 ke,.int .i64 255] W fun e w'=>e= .returned (.bool true)∧w'=W):=hid (slin_any ke 255 m4)
 have HIki:Hid (∀W,Calls prog 83 #[.int .i64 ki,.int .i64 32] W fun e w'=>e= .returned (.bool true)∧w'=W):=hid (slin_any ki 32 m5);have HIw:Hid (∀W,Calls prog 83 #[.int .i64 w0,.int .i64 1099511627776] W fun e w'=>e= .returned (.bool true)∧w'=W):=hid (slin_any w0 1099511627776 m6);have HM:=hid (And.intro m1 (And.intro m2 (And.intro m3 (And.intro m4 (And.intro m5 m6)))));have Hbe:=hid hbe.symm;have HBb:=hid hbb;have HWb:=hid hwb;have Hbc:=hid hbc;have hcc:=slotC_get hbc;unfold slotC at HWb;dsimp only at hcc HWb;obtain⟨c0,c1,c2,c3,c4,c5⟩:=hcc;unfold slotV slotC;clear hbe hbb hwb hbc m1 m2 m3 m4 m5 m6;go_enter func40,ntmps40;go_upto_region 1 with fail
 rw[←HWb.o,Hbe.o];go_upto_region 5 with(first|(go_at_call 83;with_reducible refine(HIe.o _).mono ?_;rintro e w2 ⟨rfl,rfl⟩)|(go_at_call 83;with_reducible refine(HIh.o _).mono ?_;rintro e w2 ⟨rfl,rfl⟩)|(go_at_call 83;with_reducible refine(HIr.o _).mono ?_;rintro e w2 ⟨rfl,rfl⟩)|(go_at_call 83;with_reducible refine(HIke.o _).mono ?_;rintro e w2 ⟨rfl,rfl⟩)|(go_at_call 83;with_reducible refine(HIki.o _).mono ?_;rintro e w2 ⟨rfl,rfl⟩)|(go_at_call 83;with_reducible refine(HIw.o _).mono ?_;rintro e w2 ⟨rfl,rfl⟩))
 have HNu3:=hid (numbers_any (.slice none 0 0) ([]) 4 (Or.inr (Or.inr (Or.inl rfl))) [e,h] w2.heap.size 2 (w2.alloc (.cells #[.int .i64 e,.int .i64 h] 3)) (OwnB.at_ (B:=0) (World.ownsRow_nil _ _ _ _)) (nats_new2 w2 e h) (by simp) (by simp) (by simp[Gd.nums_length]) (fun n hn=>by have h0:=HM.o;simp only[List.mem_cons,List.mem_nil_iff,or_false]at hn;omega));go_wp2_with fail
 refine HNu3.o.mono ?_;rintro e w3 ⟨v3,rfl,ho3,hb3⟩;rw[List.nil_append]at ho3;have hsz3:w2.heap.size≤(w2.alloc (.cells #[.int .i64 e,.int .i64 h] 3)).heap.size:=by simp
 have HB3:=hid (HBb.o.trans ((((Below.refl w2.heap.size w2).alloc (Nat.le_refl _) (.cells #[.int .i64 e,.int .i64 h] 3)).trans (hb3.mono hsz3)).mono HBb.o.size));have HO3:=hid (ho3.mono (Nat.le_trans HBb.o.size hsz3));have hbc3:=((((Below.refl w2.heap.size w2).alloc (Nat.le_refl _) (.cells #[.int .i64 e,.int .i64 h] 3)).trans (hb3.mono hsz3)).block b (lt_get Hbc.o)).trans Hbc.o;have Hbc3:=hid hbc3;clear ho3 hb3 hsz3 HNu3;clear c0 c1 c2 c3 c4 c5;have hcc3:=slotC_get hbc3;dsimp only at hcc3;obtain⟨c0,c1,c2,c3,c4,c5⟩:=hcc3;clear hbc3
 have HNu4:=hid (numbers_any v3 (Gd.nums [e,h] 4) 8 (Or.inr (Or.inr (Or.inr rfl))) [r] w3.heap.size 1 (w3.alloc (.cells #[.int .i64 r] 3)) (HO3.o.at_.keep ((Below.refl w3.heap.size w3).alloc (Nat.le_refl _) _)) (nats_new1 w3 r) (by simp) (by simp) (by simp[Gd.nums_length]) (fun n hn=>by have h0:=HM.o;simp only[List.mem_cons,List.mem_nil_iff,or_false]at hn;omega));go_wp2_with fail
 refine HNu4.o.mono ?_;rintro e w4 ⟨v4,rfl,ho4,hb4⟩;have hsz4:w3.heap.size≤(w3.alloc (.cells #[.int .i64 r] 3)).heap.size:=by simp
 have HB4:=hid (HB3.o.trans ((((Below.refl w3.heap.size w3).alloc (Nat.le_refl _) (.cells #[.int .i64 r] 3)).trans (hb4.mono hsz4)).mono HB3.o.size));have HO4:=hid (ho4.mono (Nat.le_trans HB3.o.size hsz4));have hbc4:=((((Below.refl w3.heap.size w3).alloc (Nat.le_refl _) (.cells #[.int .i64 r] 3)).trans (hb4.mono hsz4)).block b (lt_get Hbc3.o)).trans Hbc3.o;have Hbc4:=hid hbc4;clear ho4 hb4 hsz4 HNu4;clear c0 c1 c2 c3 c4 c5;have hcc4:=slotC_get hbc4;dsimp only at hcc4;obtain⟨c0,c1,c2,c3,c4,c5⟩:=hcc4;clear hbc4
 have HNu5:=hid (numbers_any v4 (Gd.nums [e,h] 4++Gd.nums [r] 8) 1 (Or.inl rfl) [ke,ki] w4.heap.size 2 (w4.alloc (.cells #[.int .i64 ke,.int .i64 ki] 3)) (HO4.o.at_.keep ((Below.refl w4.heap.size w4).alloc (Nat.le_refl _) _)) (nats_new2 w4 ke ki) (by simp) (by simp) (by simp[Gd.nums_length]) (fun n hn=>by have h0:=HM.o;simp only[List.mem_cons,List.mem_nil_iff,or_false]at hn;omega));go_wp2_with fail
 refine HNu5.o.mono ?_;rintro e w5 ⟨v5,rfl,ho5,hb5⟩;have hsz5:w4.heap.size≤(w4.alloc (.cells #[.int .i64 ke,.int .i64 ki] 3)).heap.size:=by simp
 have HB5:=hid (HB4.o.trans ((((Below.refl w4.heap.size w4).alloc (Nat.le_refl _) (.cells #[.int .i64 ke,.int .i64 ki] 3)).trans (hb5.mono hsz5)).mono HB4.o.size));have HO5:=hid (ho5.mono (Nat.le_trans HB4.o.size hsz5));have hbc5:=((((Below.refl w4.heap.size w4).alloc (Nat.le_refl _) (.cells #[.int .i64 ke,.int .i64 ki] 3)).trans (hb5.mono hsz5)).block b (lt_get Hbc4.o)).trans Hbc4.o;have Hbc5:=hid hbc5;clear ho5 hb5 hsz5 HNu5;clear c0 c1 c2 c3 c4 c5;have hcc5:=slotC_get hbc5;dsimp only at hcc5;obtain⟨c0,c1,c2,c3,c4,c5⟩:=hcc5;clear hbc5
 have HNu6:=hid (numbers_any v5 (Gd.nums [e,h] 4++Gd.nums [r] 8++Gd.nums [ke,ki] 1) 8 (Or.inr (Or.inr (Or.inr rfl))) [w0] w5.heap.size 1 (w5.alloc (.cells #[.int .i64 w0] 3)) (HO5.o.at_.keep ((Below.refl w5.heap.size w5).alloc (Nat.le_refl _) _)) (nats_new1 w5 w0) (by simp) (by simp) (by simp[Gd.nums_length]) (fun n hn=>by have h0:=HM.o;simp only[List.mem_cons,List.mem_nil_iff,or_false]at hn;omega));go_wp2_with fail
 refine HNu6.o.mono ?_;rintro e w6 ⟨v6,rfl,ho6,hb6⟩;have hsz6:w5.heap.size≤(w5.alloc (.cells #[.int .i64 w0] 3)).heap.size:=by simp
 have HB6:=hid (HB5.o.trans ((((Below.refl w5.heap.size w5).alloc (Nat.le_refl _) (.cells #[.int .i64 w0] 3)).trans (hb6.mono hsz6)).mono HB5.o.size));have HO6:=hid (ho6.mono (Nat.le_trans HB5.o.size hsz6));have hbc6:=((((Below.refl w5.heap.size w5).alloc (Nat.le_refl _) (.cells #[.int .i64 w0] 3)).trans (hb6.mono hsz6)).block b (lt_get Hbc5.o)).trans Hbc5.o;have Hbc6:=hid hbc6;clear ho6 hb6 hsz6 HNu6;clear c0 c1 c2 c3 c4 c5;have hcc6:=slotC_get hbc6;dsimp only at hcc6;obtain⟨c0,c1,c2,c3,c4,c5⟩:=hcc6;clear hbc6;have HSe:=hid (seal_any v6 (Gd.nums [e,h] 4++Gd.nums [r] 8++Gd.nums [ke,ki] 1++Gd.nums [w0] 8) w.heap.size w6 HO6.o (by simp[Gd.nums_length]) HB6.o.size);clear c0 c1 c2 c3 c4 c5;go_wp2_with fail
 refine HSe.o.mono ?_;rintro e w7 ⟨v7,rfl,ho7,hb7⟩;have HO7:=hid ho7;have HB7:=hid (HB6.o.trans hb7);clear ho7 hb7;go_wp2;go_ret2
 refine⟨v7,rfl,?_,HB7.o⟩;rw[HE.o];exact HO7.o
theorem puthead_any(n:Nat)(hn:n≤1152921504606846976)(w:World):Calls prog 39 #[.int .i64 n] w (Loads w (Gd.headB n)):=by
 have HI:Hid (∀W,Calls prog 83 #[.int .i64 n,.int .i64 1152921504606846976] W fun e w'=>e= .returned (.bool true)∧w'=W):=hid (slin_any n 1152921504606846976 hn);have hcv:=Lib.run_convert_bytes_const (P:=prog) w 23 5 #[.int .u8 67,.int .u8 77,.int .u8 78,.int .u8 49,.int .u8 0,.int .u8 0,.int .u8 0,.int .u8 0] 8 8 underlying23 underlying5;obtain⟨w1,hw1⟩:=nm (w.alloc (.cells #[.int .u8 67,.int .u8 77,.int .u8 78,.int .u8 49,.int .u8 0,.int .u8 0,.int .u8 0,.int .u8 0] 5 ((#[.int .u8 67,.int .u8 77,.int .u8 78,.int .u8 49,.int .u8 0,.int .u8 0,.int .u8 0,.int .u8 0]:Array Value).size,(#[.int .u8 67,.int .u8 77,.int .u8 78,.int .u8 49,.int .u8 0,.int .u8 0,.int .u8 0,.int .u8 0]:Array Value).size+1)));rw[←hw1]at hcv;have hb1:Below w.heap.size w w1:=by rw[hw1];exact(Below.refl _ _).alloc (Nat.le_refl _) _
 have hg1:w1.heap[w.heap.size]? =some (.cells #[.int .u8 67,.int .u8 77,.int .u8 78,.int .u8 49,.int .u8 0,.int .u8 0,.int .u8 0,.int .u8 0] 5 (8,9)):=by rw[hw1];exact heap_alloc_new _ _
 obtain⟨b,hbe⟩:=nm w.heap.size;rw[←hbe]at hg1;have hby:BytesAt w1 (.slice (some ⟨b,0,none⟩) 8 8) [67,77,78,49,0,0,0,0]:=⟨_,8,rfl,Or.inr ⟨b,0,rfl,lt_get hg1,fun j x hx=>by
  rw[Nat.zero_add,cell_of_row w1 b j _ _ _ hg1];match j,hx with
  |0,hx=>cases hx;rfl
  |1,hx=>cases hx;rfl
  |2,hx=>cases hx;rfl
  |3,hx=>cases hx;rfl
  |4,hx=>cases hx;rfl
  |5,hx=>cases hx;rfl
  |6,hx=>cases hx;rfl
  |7,hx=>cases hx;rfl
  |j+8,hx=>simp at hx⟩⟩
 have hba:=(Below.refl w1.heap.size w1).alloc (Nat.le_refl _) (.cells #[.int .i64 n] 3);have HNu:=hid (numbers_any (.slice (some ⟨b,0,none⟩) 8 8) [67,77,78,49,0,0,0,0] 8 (Or.inr (Or.inr (Or.inr rfl))) [n] w1.heap.size 1 (w1.alloc (.cells #[.int .i64 n] 3)) (hby.keep hba) (nats_new1 w1 n) (by simp) (by simp) (by simp) (fun k hk=>by simp at hk;omega));have HBa:=hid (hb1.trans (hba.mono hb1.size));have HW1:=hid hw1.symm;have Hbe:=hid hbe.symm;have HE:Hid (Gd.headB n=Gd.seal60 ([67,77,78,49,0,0,0,0]++Gd.nums [n] 8)):=hid rfl;clear hn hw1 hb1 hg1 hbe hby hba;go_enter func39,ntmps39;go_upto_region 3 with(go_at_call 83;with_reducible refine(HI.o _).mono ?_;rintro e w2 ⟨rfl,rfl⟩)
 go_wp2_with fail
 rw[Hbe.o];refine HNu.o.mono ?_;rintro e w3 ⟨v3,rfl,ho3,hb3⟩;have HB3:=HBa.t hb3;have HO3:=hid (ho3.mono HBa.o.size);have HSe:=hid (seal_any v3 _ w2.heap.size w3 HO3.o (by simp[Gd.nums_length]) HB3.o.size);clear ho3 hb3 HNu;go_wp2_with fail
 refine HSe.o.mono ?_;rintro e w4 ⟨v4,rfl,ho4,hb4⟩;have HO4:=hid ho4;have HB4:=hid (HB3.o.trans hb4);clear ho4 hb4;go_wp2;go_ret2
 refine⟨v4,rfl,?_,HB4.o⟩;rw[HE.o];exact HO4.o
end
section
attribute [local go_sem] Oper.semAt_some
def Fx(x:Nat)(F:Nat→Prop)(k:Nat):Prop:=F k∧k≠x
structure MetaF[MemNo](x t:Nat)(S:List UInt8)(P:List Gd.Pa)(c K:Nat)(w:World)(F:Nat→Prop):Prop where
 txn:TxnF t S P K w (Fx x F)
 obj:w.heap[x]? =some (.cells #[.pointer (some ⟨t,0,none⟩)] 96 (0,0))
 inF:F x
 len:S.length=23168
 log:Gd.part S 2688 8=Gd.le 0 8
 light:PaLight P c
 tight:∀k,F k→k<w.heap.size
theorem MetaF.keep[MemNo]{x t c K:Nat}{S:List UInt8}{P:List Gd.Pa}{w w':World}{F:Nat→Prop}(h:MetaF x t S P c K w F)(hs:w.heap.size≤w'.heap.size)(hb:∀k,k<w.heap.size→F k→w'.heap[k]? =w.heap[k]?):MetaF x t S P c K w' F:=
 ⟨(TxnF.held t S P K).keep h.txn hs (fun k hk hF=>hb k hk hF.1),(hb x (lt_get h.obj) h.inF).trans h.obj,h.inF,h.len,h.log,h.light,fun k hk=>Nat.lt_of_lt_of_le (h.tight k hk) hs⟩
theorem MetaF.below[MemNo]{x t c K:Nat}{S:List UInt8}{P:List Gd.Pa}{w w':World}{F:Nat→Prop}(h:MetaF x t S P c K w F)(hb:Below w.heap.size w w'):MetaF x t S P c K w' F:=h.keep hb.size fun k hk _=>hb.block k hk
structure Step(I:World→(Nat→Prop)→Prop)(F:Nat→Prop)(w:World)(F':Nat→Prop)(w':World):Prop where
 inv:I w' F'
 old:∀k,k<w.heap.size→F' k→F k
 only:Only F w w'
theorem Step.trans{I J:World→(Nat→Prop)→Prop}{F G H:Nat→Prop}{a b c:World}(h:Step I F a G b)(k:Step J G b H c):Step J F a H c:=
 ⟨k.inv,fun j hj hH=>h.old j hj (k.old j (Nat.lt_of_lt_of_le hj h.only.size) hH),h.only.trans k.only fun j hj hG=>h.old j hj hG⟩
theorem Step.behind{I:World→(Nat→Prop)→Prop}{F G:Nat→Prop}{a b c:World}(hb:Below a.heap.size a b)(h:Step I F b G c):Step I F a G c:=
 ⟨h.inv,fun j hj hG=>h.old j (Nat.lt_of_lt_of_le hj hb.size) hG,(below_only hb F).trans h.only fun _ _ e=>e⟩
theorem Step.ahead[MemNo]{x t c K:Nat}{S:List UInt8}{P:List Gd.Pa}{F G:Nat→Prop}{a b d:World}(h:Step (MetaF x t S P c K) F a G b)(hb:Below b.heap.size b d):Step (MetaF x t S P c K) F a G d:=
 ⟨h.inv.below hb,h.old,h.only.trans (below_only hb G) fun j hj e=>h.old j hj e⟩
theorem Step.refl{I:World→(Nat→Prop)→Prop}{F:Nat→Prop}{w:World}(h:I w F):Step I F w F w:=⟨h,fun _ _ e=>e,Only.refl _ _⟩
theorem Step.own{I:World→(Nat→Prop)→Prop}{F G:Nat→Prop}{a b:World}(h:Step I F a G b){k:Nat}(hk:k<a.heap.size)(hF:¬F k):b.heap[k]? =a.heap[k]? ∧¬G k:=
 ⟨h.only.block k hk hF,fun e=>hF (h.old k hk e)⟩
theorem MetaF.more[MemNo]{x t c d K L:Nat}{S:List UInt8}{P:List Gd.Pa}{w:World}{F:Nat→Prop}(h:MetaF x t S P c K w F)(hc:c≤d)(hK:K≤L):MetaF x t S P d L w F:=by
 obtain⟨m,g,pv,⟨sb,lb,ab,n,hM,hr⟩,hrest⟩:=h.txn;exact⟨⟨m,g,pv,⟨sb,lb,ab,n,hM.more hK,hr⟩,hrest⟩,h.obj,h.inF,h.len,h.log,⟨Nat.le_trans h.light.many hc,h.light.len⟩,h.tight⟩
theorem MetaF.view_len[MemNo]{x t c K:Nat}{S:List UInt8}{P:List Gd.Pa}{w:World}{F:Nat→Prop}(h:MetaF x t S P c K w F):(Gd.view S P).length=23168:=by
 obtain⟨m,g,pv,_,_,_,_,_,_,hP,_⟩:=h.txn;rw[Gd.view_length hP.fit];exact h.len
theorem ptAt_in{k m:Int}{p:Gd.Pt}(h:Gd.ptAt k m=some p):p.a+p.s≤23168∧p.s≤4096:=by
 rw[←Gd.findP_at]at h;have hm:=List.mem_of_find?_eq_some h;have:∀p∈Gd.partsL,p.a+p.s≤23168∧p.s≤4096:=by decide+kernel
 exact this p hm
theorem load_none[MemNo]{x t c K:Nat}{S:List UInt8}{P:List Gd.Pa}{F:Nat→Prop}(k m:Int)(w:World)(h:MetaF x t S P c K w F)(hp:Gd.ptAt k m=none):
 Calls prog 61 #[.pointer (some ⟨x,0,none⟩),.int .i64 k,.int .i64 m] w fun e w'=>e= .returned (.tuple #[.slice none 0 0,.bool false])∧Below w.heap.size w w':=by
 have HF:=hid (find_any5 k m w);rw[hp]at HF;clear h hp;go_enter func61,ntmps61;go_wp2_with fail
 refine HF.o.mono ?_;rintro e w1 ⟨rfl,hb1⟩;have HB1:=hid hb1;clear hb1 HF;unfold ptO;go_wp2;go_ret2
 exact⟨rfl,HB1.o.alloc HB1.o.size _⟩
theorem load_some[MemNo]{x t c K:Nat}{S:List UInt8}{P:List Gd.Pa}{F:Nat→Prop}(k m:Int)(p:Gd.Pt)(w:World)(h:MetaF x t S P c K w F)(hp:Gd.ptAt k m=some p):
 Calls prog 61 #[.pointer (some ⟨x,0,none⟩),.int .i64 k,.int .i64 m] w fun e w'=>∃v,e= .returned (.tuple #[v,.bool true])∧OwnB w' w.heap.size v (Gd.part (Gd.view S P) p.a p.s)∧Below w.heap.size w w':=by
 have HF:=hid (find_any5 k m w);rw[hp]at HF;have hpi:=ptAt_in hp;have H:=hid h;clear h hp;go_enter func61,ntmps61;go_wp2_with fail
 refine HF.o.mono ?_;rintro e w1 ⟨rfl,hb1⟩;unfold ptO ptV;have hn:=heap_alloc_new w1 (.cells (ptC p) 156);have hba:=(Below.refl w1.heap.size w1).alloc (Nat.le_refl _) (.cells (ptC p) 156);obtain⟨w2,hw2⟩:=nm (w1.alloc (.cells (ptC p) 156));rw[←hw2]at hn hba;have hb2:Below w.heap.size w w2:=hb1.trans (hba.mono hb1.size);obtain⟨pb,hpb⟩:=nm w1.heap.size;rw[←hpb]at hn;have hdr:Below w.heap.size w w2.drew:=hb2.drew;have H2:=H.o.below hdr;have hx:w2.drew.heap[x]? =_:=H2.obj;have hnd:w2.drew.heap[pb]? =some (.cells (ptC p) 156 (0,0)):=hn;have hs0:w2.drew.cell? ⟨x,0,none⟩=some (.pointer (some ⟨t,0,none⟩))∧w2.drew.cell? ⟨pb,2,none⟩=some (.int .i64 p.a)∧w2.drew.cell? ⟨pb,3,none⟩=some (.int .i64 p.s):=⟨cell_of_row _ x 0 _ _ _ hx,cell_of_row _ pb 2 _ _ _ hnd,cell_of_row _ pb 3 _ _ _ hnd⟩
 have HLd:=hid (tload_any p.a p.s w2.drew H2.txn (by have:=H2.len;omega) (by have:=H2.len;omega) (by omega));have HTr:Hid (∀W,Below w2.drew.heap.size w2.drew W→W.cell? ⟨x,0,none⟩=some (.pointer (some ⟨t,0,none⟩))∧W.cell? ⟨pb,2,none⟩=some (.int .i64 p.a)∧W.cell? ⟨pb,3,none⟩=some (.int .i64 p.s)):=hid fun W hW=>⟨(hW.cell (p:=⟨x,0,none⟩) (lt_get hx)).trans hs0.1,(hW.cell (p:=⟨pb,2,none⟩) (lt_get hnd)).trans hs0.2.1,(hW.cell (p:=⟨pb,3,none⟩) (lt_get hnd)).trans hs0.2.2⟩;have HD:=hid hdr;have Hpb:=hid hpb.symm;have Hw2:=hid hw2.symm;unfold ptC at Hw2;clear hb1 HF hn hba hw2 hb2 hpb hdr H2 hx hnd hpi;go_upto_region 4 with fail
 rw[Hw2.o,Hpb.o];refine wp_region_held_drew (S:=(fun W=>W.cell? ⟨x,0,none⟩=some (.pointer (some ⟨t,0,none⟩))∧W.cell? ⟨pb,2,none⟩=some (.int .i64 p.a)∧W.cell? ⟨pb,3,none⟩=some (.int .i64 p.s))) (by kernel_rfl) ?_ (fun hHeld=> ?_)
 ·exact hs0
 refine tk 0 ?_;refine tk 1 ?_;refine tk 2 ?_;refine tk 3 ?_;refine tk 4 ?_;refine tk 5 ?_;refine tk 6 ?_;refine tk 7 ?_;refine rd 8 (fun K hK=> ?_);go_simp
 refine HLd.o.mono ?_;rintro e w3 ⟨v,rfl,ho,hb⟩;have HO:=hid ho;have HB:=hid hb;have hs3:=HTr.o w3 hb;clear ho hb;dsimp only;refine hK.o _ _ hs3 (fun hHeld=> ?_);clear hK K;try simp only[put]
 refine tk 9 ?_;refine tk 10 ?_;refine tk 11 ?_;refine tk 12 ?_;refine tk 13 ?_;refine dn ?_
 (try simp only[Exit.then])
 clear hs0 hs3 HLd HTr;go_wp2;go_ret2
 exact⟨v,rfl,HO.o.mono HD.o.size,HD.o.trans (HB.o.mono HD.o.size)⟩
theorem store_none[MemNo]{x t c K:Nat}{S:List UInt8}{P:List Gd.Pa}{F:Nat→Prop}(k m:Int)(v:Value)(w:World)(h:MetaF x t S P c K w F)(hp:Gd.ptAt k m=none):
 Calls prog 41 #[.pointer (some ⟨x,0,none⟩),.int .i64 k,.int .i64 m,v] w fun e w'=>e= .returned (.int .i64 1)∧Below w.heap.size w w':=by
 have HF:=hid (find_any5 k m w);rw[hp]at HF;clear h hp;go_enter func41,ntmps41;go_wp2_with fail
 refine HF.o.mono ?_;rintro e w1 ⟨rfl,hb1⟩;have HB1:=hid hb1;clear hb1 HF;unfold ptO;go_wp2;go_ret
 exact⟨rfl,HB1.o.alloc HB1.o.size _⟩
theorem store_some[MemNo]{x t c K:Nat}{S:List UInt8}{P:List Gd.Pa}{F:Nat→Prop}(k m:Int)(p:Gd.Pt)(v:Value)(L:List UInt8)(w:World)(h:MetaF x t S P c K w F)(hp:Gd.ptAt k m=some p)(hv:BytesAt w v L)(hL:L.length≤64)(hLp:L.length≤p.s)(hc:c<64)(hap:∀q,v.ownBlock=some q→¬F q):
 Calls prog 41 #[.pointer (some ⟨x,0,none⟩),.int .i64 k,.int .i64 m,v] w fun e w'=>e= .returned (.int .i64 0)∧∃F',Step (MetaF x t S (P++[(p.a,L)]) (c+1) K) F w F' w':=by
 have HF:=hid (find_any5 k m w);rw[hp]at HF;have hpi:=ptAt_in hp;have H:=hid h;have HV:=hid hv;obtain⟨A,cap,hve,-⟩:=hv;have HAp:=hid hap;have HC:=hid hc;have HL:=hid (And.intro hL hLp);subst hve;obtain⟨ln,hln⟩:=nm L.length;rw[←hln]at HV HAp⊢;clear h hp hap hc hL hLp hln;go_enter func41,ntmps41;go_wp2_with fail
 refine HF.o.mono ?_;rintro e w1 ⟨rfl,hb1⟩;unfold ptO ptV;have hn:=heap_alloc_new w1 (.cells (ptC p) 156);have hba:=(Below.refl w1.heap.size w1).alloc (Nat.le_refl _) (.cells (ptC p) 156);obtain⟨w2,hw2⟩:=nm (w1.alloc (.cells (ptC p) 156));rw[←hw2]at hn hba;have hb2:Below w.heap.size w w2:=hb1.trans (hba.mono hb1.size);obtain⟨pb,hpb⟩:=nm w1.heap.size;rw[←hpb]at hn;have hdr:Below w.heap.size w w2.drew:=hb2.drew;have H2:=H.o.below hdr;have hx:w2.drew.heap[x]? =_:=H2.obj;have hnd:w2.drew.heap[pb]? =some (.cells (ptC p) 156 (0,0)):=hn;have hs0:w2.drew.cell? ⟨x,0,none⟩=some (.pointer (some ⟨t,0,none⟩))∧w2.drew.cell? ⟨pb,2,none⟩=some (.int .i64 p.a):=⟨cell_of_row _ x 0 _ _ _ hx,cell_of_row _ pb 2 _ _ _ hnd⟩;have hpF:¬F pb:=fun e=>by
  have h1:=H.o.tight pb e;have h2:=hb1.size;omega
 have HSt:=hid (tstore_any p.a (.slice A ln cap) L w2.drew H2.txn (HV.o.keep hdr) (by have:=H2.len;omega) (by have:=H2.len;have:=HL.o;omega) (by have:=HL.o;omega) (by have:=H2.light.many;have:=HC.o;omega) (fun q hq e=>HAp.o q hq e.1));have HD:=hid hdr;have Hpb:=hid hpb.symm;have Hw2:=hid hw2.symm;have HTr:Hid (∀W,Only (Fx x F) w2.drew W→W.cell? ⟨x,0,none⟩=some (.pointer (some ⟨t,0,none⟩))∧W.cell? ⟨pb,2,none⟩=some (.int .i64 p.a)):=hid fun W hW=>⟨(hW.cell (p:=⟨x,0,none⟩) (lt_get hx) (fun e=>e.2 rfl)).trans hs0.1,(hW.cell (p:=⟨pb,2,none⟩) (lt_get hnd) (fun e=>hpF e.1)).trans hs0.2⟩;unfold ptC at Hw2;clear hb1 HF hn hba hw2 hb2 hpb hdr H2 hx hnd hpi hpF;go_upto_region 4 with fail
 rw[Hw2.o,Hpb.o];refine wp_region_held_drew (S:=(fun W=>W.cell? ⟨x,0,none⟩=some (.pointer (some ⟨t,0,none⟩))∧W.cell? ⟨pb,2,none⟩=some (.int .i64 p.a))) (by kernel_rfl) ?_ (fun hHeld=> ?_)
 ·exact hs0
 refine tk 0 ?_;refine tk 1 ?_;refine tk 2 ?_;refine tk 3 ?_;refine tk 4 ?_;refine tk 5 ?_;refine tk 6 ?_;refine rd 7 (fun K hK=> ?_);go_simp
 refine HSt.o.mono ?_;rintro e w3 ⟨rfl,hT3,hO3⟩;have HT3:=hid hT3;have HO3:=hid hO3;have hs3:=HTr.o w3 hO3;clear hT3 hO3;dsimp only;refine hK.o _ _ hs3 (fun hHeld=> ?_);clear hK K;try simp only[put]
 refine tk 8 ?_;refine dn ?_
 (try simp only[Exit.then])
 clear hs0 hs3 HSt HTr;go_wp2;go_ret
 have h1:=HD.o.size;have h2:=HO3.o.size;have hxl:x<w3.heap.size:=Nat.lt_of_lt_of_le (lt_get H.o.obj) (Nat.le_trans h1 h2);have hox:w3.heap[x]? =w.heap[x]? :=(HO3.o.block x (Nat.lt_of_lt_of_le (lt_get H.o.obj) h1) fun e=>e.2 rfl).trans (HD.o.block x (lt_get H.o.obj));refine⟨rfl,fun k=>(F k∨w.heap.size≤k)∧k<w3.heap.size,⟨?_,hox.trans H.o.obj,⟨Or.inl H.o.inF,hxl⟩,H.o.len,H.o.log,⟨?_,?_⟩,fun k hk=>hk.2⟩,?_,?_⟩
 ·refine(TxnF.held t S _ K).mono HT3.o fun k hk e=> ?_
  rcases e with e|e
  ·exact⟨⟨Or.inl e.1,hk⟩,e.2⟩
  ·exact⟨⟨Or.inr (Nat.le_trans h1 e),hk⟩,fun he=>by
    have:=lt_get H.o.obj
    omega⟩
 ·rw[List.length_append];have:=H.o.light.many
  simp
  omega
 ·intro q hq;rcases List.mem_append.1 hq with e|e
  ·exact H.o.light.len q e
  ·rw[List.mem_singleton.1 e];have:=HL.o.1
   exact this
 ·intro k hk e;rcases e.1 with e|e
  ·exact e
  ·omega
 ·exact(below_only HD.o F).trans (HO3.o.mono fun _ _ e=>e.1) fun _ _ e=>e
end
section
attribute [local go_sem] Oper.semAt_some
def MetaV[MemNo](x t:Nat)(S:List UInt8)(M:Gd.Vol)(c K:Nat)(w:World)(F:Nat→Prop):Prop:=∃P,MetaF x t S P c K w F∧Gd.Good (Gd.view S P) M
theorem MetaV.keep[MemNo]{x t c K:Nat}{S:List UInt8}{M:Gd.Vol}{w w':World}{F:Nat→Prop}(h:MetaV x t S M c K w F)(hs:w.heap.size≤w'.heap.size)(hb:∀k,k<w.heap.size→F k→w'.heap[k]? =w.heap[k]?):MetaV x t S M c K w' F:=by
 obtain⟨P,h1,h2⟩:=h;exact⟨P,h1.keep hs hb,h2⟩
theorem MetaV.below[MemNo]{x t c K:Nat}{S:List UInt8}{M:Gd.Vol}{w w':World}{F:Nat→Prop}(h:MetaV x t S M c K w F)(hb:Below w.heap.size w w'):MetaV x t S M c K w' F:=h.keep hb.size fun k hk _=>hb.block k hk
theorem MetaV.more[MemNo]{x t c d K L:Nat}{S:List UInt8}{M:Gd.Vol}{w:World}{F:Nat→Prop}(h:MetaV x t S M c K w F)(hc:c≤d)(hK:K≤L):MetaV x t S M d L w F:=by
 obtain⟨P,h1,h2⟩:=h;exact⟨P,h1.more hc hK,h2⟩
theorem MetaV.tight[MemNo]{x t c K:Nat}{S:List UInt8}{M:Gd.Vol}{w:World}{F:Nat→Prop}(h:MetaV x t S M c K w F):∀k,F k→k<w.heap.size:=by
 obtain⟨P,h1,h2⟩:=h;exact h1.tight
theorem Step.mono{I J:World→(Nat→Prop)→Prop}{F G:Nat→Prop}{a b:World}(h:Step I F a G b)(hIJ:I b G→J b G):Step J F a G b:=⟨hIJ h.inv,h.old,h.only⟩
def Turns[MemNo](x t:Nat)(S:List UInt8)(M:Gd.Vol)(c K:Nat)(F:Nat→Prop)(w w':World):Prop:=∃F',Step (MetaV x t S M c K) F w F' w'
theorem Turns.behind[MemNo]{x t c K:Nat}{S:List UInt8}{M:Gd.Vol}{F:Nat→Prop}{a b d:World}(hb:Below a.heap.size a b)(h:Turns x t S M c K F b d):Turns x t S M c K F a d:=by
 obtain⟨F',h⟩:=h;exact⟨F',Step.behind hb h⟩
theorem Turns.ahead[MemNo]{x t c K:Nat}{S:List UInt8}{M:Gd.Vol}{F:Nat→Prop}{a b d:World}(h:Turns x t S M c K F a b)(hb:Below b.heap.size b d):Turns x t S M c K F a d:=by
 obtain⟨F',h⟩:=h;exact⟨F',⟨h.inv.below hb,h.old,h.only.trans (below_only hb F') fun j hj e=>h.old j hj e⟩⟩
namespace Gd
theorem ptAt_node{i:Int}(h1:1≤i)(h2:i≤32):ptAt 4 i=some ⟨4,i.toNat,inoAt i.toNat,64⟩:=by
 unfold ptAt partAt;rw[if_neg (by omega),if_neg (by omega),if_neg (by omega),if_pos rfl,if_pos ⟨h1,h2⟩];rfl
theorem ptAt_nonode{i:Int}(h:¬(1≤i∧i≤32)):ptAt 4 i=none:=by
 unfold ptAt partAt;rw[if_neg (by omega),if_neg (by omega),if_neg (by omega),if_pos rfl,if_neg h];rfl
theorem ptAt_map:ptAt 3 0=some ⟨3,0,576,64⟩:=rfl
theorem ptAt_block{n:Nat}(h1:1≤n)(h2:n≤128):ptAt 7 n=some ⟨7,n,blkAt n,64⟩:=by
 unfold ptAt partAt;rw[if_neg (by omega),if_neg (by omega),if_neg (by omega),if_neg (by omega),if_neg (by omega),if_neg (by omega),if_pos rfl,if_pos (by omega)];simp[blkAt]
theorem part_take(S:List UInt8)(a:Nat){m n:Nat}(h:m≤n):(part S a n).take m=part S a m:=by
 unfold part;rw[List.take_take,Nat.min_eq_left h]
end Gd
theorem inode_out[MemNo]{x t c K:Nat}{S:List UInt8}{P:List Gd.Pa}{F:Nat→Prop}(i:Int)(w:World)(h:MetaF x t S P c K w F)(hi:¬(1≤i∧i≤32)):
 Calls prog 24 #[.pointer (some ⟨x,0,none⟩),.int .i64 i] w fun e w'=>e= .returned (.tuple #[inoV Gd.noIno,.int .i64 1])∧Below w.heap.size w w':=by
 obtain⟨w0,hw0⟩:=nm (w.alloc (.cells zIno 72));have hb0:Below w.heap.size w w0:=by rw[hw0];exact(Below.refl _ _).alloc (Nat.le_refl _) _
 have hr0:w0.heap[w.heap.size]? =some (.cells zIno 72 (0,0)):=by rw[hw0];exact heap_alloc_new _ _
 obtain⟨r,hr⟩:=nm w.heap.size;rw[←hr]at hr0;have HLd:=hid (load_none 4 i w0 (h.below hb0) (Gd.ptAt_nonode hi));have HR0:=hid hr0;have HB0:=hid hb0;have HW0:=hid hw0.symm;have Hr:=hid hr.symm;unfold zIno at HW0;clear h hw0 hb0 hr0 hr hi;go_enter func24,ntmps24;go_upto_region 1 with fail
 rw[HW0.o,Hr.o];go_wp2_with fail
 refine HLd.o.mono ?_;rintro e w1 ⟨rfl,hb1⟩;have HR1:=hid ((hb1.block r (lt_get HR0.o)).trans HR0.o);have HB1:=HB0.t hb1;clear hb1 HLd;go_wp2_with(refine wpList_store_mid rfl 72 _ _ rfl r 0 zIno rfl rfl (there_at HR1.o rfl) sizeIno (by rw[zIno_eq];exact inoC_one _) ?_;obtain⟨hbw,hbg⟩:=whole_at HR1.o (vs:=zIno.toList) (B:=r) rfl (Nat.le_refl r);generalize (World.setCells _ _ _ _)=wf at hbw hbg⊢)
 refine bodyPost_ret (results_row_tmp rfl _ _ r 72 zIno (0,0) _ rfl hbg underlying72 rfl sizeIno) rfl ?_;exact⟨by rw[zIno_eq];rfl,HB1.o.trans (by rw[Hr.o];exact hbw)⟩
theorem inode_ok[MemNo]{x t c K:Nat}{S:List UInt8}{M:Gd.Vol}{F:Nat→Prop}(i:Int)(w:World)(h:MetaV x t S M c K w F)(h1:1≤i)(h2:i≤32):
 Calls prog 24 #[.pointer (some ⟨x,0,none⟩),.int .i64 i] w fun e w'=>e= .returned (.tuple #[inoV (M.ino i.toNat),.int .i64 0])∧Below w.heap.size w w':=by
 obtain⟨P,h,hG⟩:=h;have hs:=hG.shape i.toNat (by omega) (by omega);have hm:=hG.may i.toNat (by omega) (by omega);have hb:=hG.ino i.toNat (by omega) (by omega);obtain⟨y,hy⟩:=nm (M.ino i.toNat);rw[←hy]at hs hm hb⊢;obtain⟨w0,hw0⟩:=nm (w.alloc (.cells zIno 72));have hb0:Below w.heap.size w w0:=by rw[hw0];exact(Below.refl _ _).alloc (Nat.le_refl _) _
 have hr0:w0.heap[w.heap.size]? =some (.cells zIno 72 (0,0)):=by rw[hw0];exact heap_alloc_new _ _
 obtain⟨r,hr⟩:=nm w.heap.size;rw[←hr]at hr0;have HLd:=hid (load_some 4 i _ w0 (h.below hb0) (Gd.ptAt_node h1 h2));dsimp only at HLd;rw[hb]at HLd;have HR0:=hid hr0;have HB0:=hid hb0;have HW0:=hid hw0.symm;have Hr:=hid hr.symm;have HSm:=hid (And.intro hs hm);have HS:=hid (inoC_size hs);unfold zIno at HW0;clear h hG hw0 hb0 hr0 hr h1 h2 hs hm hb hy;go_enter func24,ntmps24;go_upto_region 1 with fail
 rw[HW0.o,Hr.o];go_wp2_with fail
 refine HLd.o.mono ?_;rintro e w1 ⟨v1,rfl,ho1,hb1⟩;have HR1:=hid ((hb1.block r (lt_get HR0.o)).trans HR0.o);have HB1:=HB0.t hb1;have HRd:=hid (readi_any y HSm.o.1 HSm.o.2 v1 _ w1 ho1);clear hb1 HLd ho1;go_wp2_with fail
 refine HRd.o.mono ?_;rintro e w2 ⟨rfl,hb2⟩;have HR2:=hid ((hb2.block r (lt_get HR1.o)).trans HR1.o);have HB2:=HB1.t hb2;unfold inoV;obtain⟨w3,hw3⟩:=nm ((w2.alloc (.cells zIno 72)));have hb3:Below w2.heap.size w2 w3:=by rw[hw3];exact(Below.refl _ _).alloc (Nat.le_refl _) _
 have hn3:w3.heap[w2.heap.size]? =some (.cells zIno 72 (0,0)):=by rw[hw3];exact heap_alloc_new _ _
 obtain⟨b,hbe⟩:=nm w2.heap.size;rw[←hbe]at hn3;have HN3:=hid hn3;have HR3:=hid ((hb3.block r (lt_get HR2.o)).trans HR2.o);have HB3:=HB2.t hb3;have Hbe:=hid hbe.symm;have HW3:=hid hw3.symm;have HbB:Hid (r<b):=hid (by rw[hbe];exact lt_get HR2.o);unfold zIno at HW3;clear hb2 HRd hw3 hb3 hn3 hbe
 go_wp2_with(first|(refine wpList_store_mid rfl 72 _ _ rfl b 0 (inoC y) (by rw[←Hbe.o];rfl) rfl (by rw[show w2.alloc (.cells #[.int .i64 0,.int .i64 0,.int .i64 0,.int .i64 0,.int .i64 0,.int .i64 0,.int .i64 0,.int .i64 0,.int .i64 0,.int .i64 0,.int .i64 0,.int .i64 0,.int .i64 0,.int .i64 0,.int .i64 0] 72)=w3 from HW3.o];exact there_at HN3.o (by rw[HS.o];rfl)) (by rw[HS.o];exact sizeIno) (inoC_one _) ?_;rw[HW3.o];obtain⟨hbw,hbg⟩:=whole_at HN3.o (vs:=(inoC y).toList) (B:=b) (by rw[Array.length_toList,HS.o];rfl) (Nat.le_refl b);generalize (World.setCells _ _ _ _)=w4 at hbw hbg⊢;have HG4:=hid hbg;have HR4:=hid ((hbw.block r HbB.o).trans HR3.o);have HB4:=hid (HB3.o.trans (hbw.mono (show w.heap.size≤b by have:=HbB.o;have:=Hr.o;omega)));clear hbw hbg)|(refine wpList_load_row rfl 72 _ rfl b (by rw[←Hbe.o];rfl) 72 (inoC y) (0,0) _ HG4.o underlying72 rfl (by rw[HS.o];exact sizeIno) ?_)|(refine wpList_store_mid rfl 72 _ _ rfl r 0 (inoC y) rfl rfl (there_at HR4.o (by rw[HS.o];rfl)) (by rw[HS.o];exact sizeIno) (inoC_one _) ?_;obtain⟨hbw,hbg⟩:=whole_at HR4.o (vs:=(inoC y).toList) (B:=r) (by rw[Array.length_toList,HS.o];rfl) (Nat.le_refl r);generalize (World.setCells _ _ _ _)=wf at hbw hbg⊢))
 refine bodyPost_ret (results_row_tmp rfl _ _ r 72 (inoC y) (0,0) _ rfl hbg underlying72 rfl (by rw[HS.o];exact sizeIno)) rfl ?_;exact⟨rfl,HB4.o.trans (by rw[Hr.o];exact hbw)⟩
end
end Go.Proofs.YtckoobkjpndgnaaGreatDoor
