/- Walks: commonslaw14: free, cut. -/
import Derived.Test.YtckoobkjpndgnaaGreatDoorW26
import Derived.Test.YtckoobkjpndgnaaGreatDoorRow
import Derived.Deep.Slices
import Derived.Deep.Fields
import Derived.ChangeSame
set_option linter.unusedVariables false
set_option linter.unusedSimpArgs false
set_option linter.unusedSectionVars false
set_option maxHeartbeats 8000000
set_option maxRecDepth 100000
namespace Go.Proofs.YtckoobkjpndgnaaGreatDoor
open Go.RowKit
open Lib(hid)
open Go.Proofs.Tryz
section
attribute [local go_sem] Oper.semAt_some
theorem pfree_any{p:Nat}(k:Nat)(hk:k<8)(d:Nat→Nat)(w:World)(h:∀f,f<8→w.cell? ⟨p,4+k*8+f,none⟩=some (.int .i64 (d f:Nat))):
 Calls prog 26 #[.pointer (some ⟨p,0,none⟩),.int .i64 ((k:Int)+1)] w fun e w'=>(∃f:Nat,e= .returned (.int .i64 f)∧f≤8∧(∀c,c<f→d c≠0)∧(f<8→d f=0))∧w'=w:=by
 have HC:=hid h;have hw1:IntKind.i64.wrap ((k:Int)+1-1)=(k:Int):=by rw[IntKind.wrap_i64];omega
 have hw2:IntKind.i64.wrap (k:Int)=(k:Int):=by rw[IntKind.wrap_i64];omega
 have hk0:(0:Int)≤k:=by omega
 have hk8:(k:Int)<8:=by omega
 clear h hk;go_enter func26,ntmps26;go_wp2;go_loopw[5] (fun v wr=>∃n:Nat,v= .int .i64 n∧n≤8∧Hid (∀c,c<n→d c≠0)∧wr=w) (fun v _=>8-(intOf v).toNat)
 case atStart=>exact⟨0,rfl,by omega,hid fun c hc=>by omega,rfl⟩
 case round=>
  obtain⟨n,rfl,hn,HD,rfl⟩:=hrel;by_cases h8:n<8
  ·have hn8:(n:Int)<8:=by omega
   have hn0:(0:Int)≤n:=by omega
   have c0:=HC.o n h8;obtain⟨m,hm⟩:=nm (d n);rw[←hm]at c0;have Hm:=hid hm;clear hm;by_cases h0:m=0
   ·subst h0;go_wp2;go_ret
    exact⟨⟨n,rfl,hn,HD.o,fun _=>Hm.o.symm⟩,rfl⟩
   ·have hdb:((m:Int) !=0)=true:=by rw[bne_iff_ne];omega
    go_wp2;go_roundw
    case rel=>
     have HD2:Hid (∀c,c<n+1→d c≠0):=hid fun c hc=>by
      by_cases e:c=n
      ·rw[e,←Hm.o];exact h0
      ·exact HD.o c (by omega)
     exact⟨n+1,by go_num,by omega,HD2,trivial⟩
    case measure=>simp[intOf];omega
  ·have hn8:¬(n:Int)<8:=by omega
   go_wp2;go_ret
   exact⟨⟨n,rfl,hn,HD.o,fun e=>absurd e h8⟩,rfl⟩
theorem infoC14:(prog.info? 28).map (·.size)=some 8:=by kernel_rfl
def cutL(s:ByteArray)(n:Nat):ByteArray:=if n<s.size then s.extract 0 n else s
theorem cutL_size(s:ByteArray)(n:Nat):(cutL s n).size≤n:=by
 unfold cutL;split
 ·rw[ByteArray.size_extract];omega
 ·omega
theorem pcut_any(kind flags fd off n:Int)(p p2 data:ByteArray)(w:World):
 Calls prog 7 #[callV kind p p2 flags fd off n data] w fun e w'=>e= .returned (callV kind (cutL p 60) (cutL p2 60) flags fd off n data)∧Below w.heap.size w w':=by
 unfold callV cutL;by_cases h1:60<p.size<;>by_cases h2:60<p2.size
 all_goals
  simp only[h1,h2,if_true,if_false];go_enter func7,ntmps7;go_wp2;refine bodyPost_ret (results_cell_row rfl _ _ (w.heap.size+1) _ _ _ _ rfl (heap_alloc2_new _ _ _) underlying28 rfl infoC14) rfl ?_;exact⟨rfl,((Below.refl _ _).alloc (Nat.le_refl _) _).alloc (by simp) _⟩
end
section
open Go.ChangeShapes Go.WideShapes Go.ChangeAt
namespace Mq
theorem cells_int:prog.cellsOf 3=1:=by kernel_rfl
theorem cells_string:prog.cellsOf 9=1:=by kernel_rfl
theorem cells_bool:prog.cellsOf 4=1:=by kernel_rfl
theorem cells_call:prog.cellsOf 28=8:=by kernel_rfl
theorem cells_ask:prog.cellsOf 30=11:=by kernel_rfl
section
variable {H:Type} {enc:TypeId×Value→H} {W:World} {base:Nat} {spare:Nat→Bool} {held:Bool} {fuel:Nat} {x:DataW H×List MemPlace}
theorem one_int{v:Value}(h:DataW.trod enc prog W base spare held fuel 3 [v]=some x):∃n,v= .int .i64 n∧(Lit.int .i64 n).wf=true:=by
 obtain⟨n,hc,_,hw⟩:=DataW.trod_int underlying3 h
 cases hc
 exact⟨n,rfl,hw⟩
theorem one_string{v:Value}(h:DataW.trod enc prog W base spare held fuel 9 [v]=some x):∃s,v= .string s:=by
 obtain⟨s,hc,_⟩:=DataW.trod_string underlying9 h
 cases hc
 exact⟨s,rfl⟩
theorem one_bool{v:Value}(h:DataW.trod enc prog W base spare held fuel 4 [v]=some x):∃b,v= .bool b:=by
 obtain⟨b,hc,_⟩:=DataW.trod_bool underlying4 h
 cases hc
 exact⟨b,rfl⟩
theorem open_call{cs:List Value}(h:DataW.trod enc prog W base spare held fuel 28 cs=some x):
 ∃(kind flags fd off n:Int) (p p2 data:ByteArray),cs=[.int .i64 kind,.string p,.string p2,.int .i64 flags,.int .i64 fd,.int .i64 off,.int .i64 n,.string data]∧(Lit.int .i64 fd).wf=true:=by
 obtain⟨xs,m,_,_,hl,hxl,hg⟩:=DataW.trod_struct underlying28 h;rw[cells_call]at hl;match cs,hl,xs,hxl with
 |[c0,c1,c2,c3,c4,c5,c6,c7],_,[y0,y1,y2,y3,y4,y5,y6,y7],_=>
  have g0:DataW.trod enc prog W base spare held m 3 ((List.drop 0 [c0,c1,c2,c3,c4,c5,c6,c7]).take (prog.cellsOf 3))=some y0:=hg 0 _ rfl;rw[cells_int]at g0;have g1:DataW.trod enc prog W base spare held m 9 ((List.drop 1 [c0,c1,c2,c3,c4,c5,c6,c7]).take (prog.cellsOf 9))=some y1:=hg 1 _ rfl;rw[cells_string]at g1;have g2:DataW.trod enc prog W base spare held m 9 ((List.drop 2 [c0,c1,c2,c3,c4,c5,c6,c7]).take (prog.cellsOf 9))=some y2:=hg 2 _ rfl;rw[cells_string]at g2;have g3:DataW.trod enc prog W base spare held m 3 ((List.drop 3 [c0,c1,c2,c3,c4,c5,c6,c7]).take (prog.cellsOf 3))=some y3:=hg 3 _ rfl;rw[cells_int]at g3;have g4:DataW.trod enc prog W base spare held m 3 ((List.drop 4 [c0,c1,c2,c3,c4,c5,c6,c7]).take (prog.cellsOf 3))=some y4:=hg 4 _ rfl;rw[cells_int]at g4
  have g5:DataW.trod enc prog W base spare held m 3 ((List.drop 5 [c0,c1,c2,c3,c4,c5,c6,c7]).take (prog.cellsOf 3))=some y5:=hg 5 _ rfl;rw[cells_int]at g5;have g6:DataW.trod enc prog W base spare held m 3 ((List.drop 6 [c0,c1,c2,c3,c4,c5,c6,c7]).take (prog.cellsOf 3))=some y6:=hg 6 _ rfl;rw[cells_int]at g6;have g7:DataW.trod enc prog W base spare held m 9 ((List.drop 7 [c0,c1,c2,c3,c4,c5,c6,c7]).take (prog.cellsOf 9))=some y7:=hg 7 _ rfl;rw[cells_string]at g7;obtain⟨k0,rfl,_⟩:=one_int g0;obtain⟨k1,rfl⟩:=one_string g1;obtain⟨k2,rfl⟩:=one_string g2;obtain⟨k3,rfl,_⟩:=one_int g3;obtain⟨k4,rfl,w4⟩:=one_int g4;obtain⟨k5,rfl,_⟩:=one_int g5;obtain⟨k6,rfl,_⟩:=one_int g6;obtain⟨k7,rfl⟩:=one_string g7;exact⟨k0,k3,k4,k5,k6,k1,k2,k7,rfl,w4⟩
theorem open_ask{cs:List Value}(h:DataW.trod enc prog W base spare held fuel 30 cs=some x):∃a:Ak,cs=(akC a).toList:=by
 obtain⟨xs,m,_,_,hl,hxl,hg⟩:=DataW.trod_struct underlying30 h;rw[cells_ask]at hl;match cs,hl,xs,hxl with
 |[c0,c1,c2,c3,c4,c5,c6,c7,c8,c9,c10],_,[y0,y1,y2,y3],_=>
  have g0:DataW.trod enc prog W base spare held m 3 ((List.drop 0 [c0,c1,c2,c3,c4,c5,c6,c7,c8,c9,c10]).take (prog.cellsOf 3))=some y0:=hg 0 _ rfl;rw[cells_int]at g0;have g1:DataW.trod enc prog W base spare held m 28 ((List.drop 1 [c0,c1,c2,c3,c4,c5,c6,c7,c8,c9,c10]).take (prog.cellsOf 28))=some y1:=hg 1 _ rfl;rw[cells_call]at g1;have g2:DataW.trod enc prog W base spare held m 3 ((List.drop 9 [c0,c1,c2,c3,c4,c5,c6,c7,c8,c9,c10]).take (prog.cellsOf 3))=some y2:=hg 2 _ rfl;rw[cells_int]at g2;have g3:DataW.trod enc prog W base spare held m 4 ((List.drop 10 [c0,c1,c2,c3,c4,c5,c6,c7,c8,c9,c10]).take (prog.cellsOf 4))=some y3:=hg 3 _ rfl;rw[cells_bool]at g3;obtain⟨k0,rfl,_⟩:=one_int g0;obtain⟨kind,flags,fd,off,n,p,p2,data,hc,_⟩:=open_call g1;obtain⟨k9,rfl,_⟩:=one_int g2;obtain⟨b,rfl⟩:=one_bool g3
  cases hc
  exact⟨⟨k0,kind,p,p2,flags,fd,off,n,data,k9,b⟩,rfl⟩
end
end Mq
def AksR(w:World)(A:Option Addr)(L:List Ak):Prop:=
 L=[]∨∃b o,A=some ⟨b,o,none⟩∧b<w.heap.size∧∀(j:Nat) (a:Ak),L[j]? =some a→∀(i:Nat) (v:Value),(akC a).toList[i]? =some v→w.cell? ⟨b,o+j*11+i,none⟩=some v
theorem AksR.keep{w w':World}{A:Option Addr}{L:List Ak}(h:AksR w A L)(hb:Below w.heap.size w w'):AksR w' A L:=by
 rcases h with h|⟨b,o,h1,h2,h3⟩
 ·exact Or.inl h
 ·exact Or.inr ⟨b,o,h1,Nat.lt_of_lt_of_le h2 hb.size,fun j a ha i v hv=>(hb.cell (p:=⟨b,o+j*11+i,none⟩) h2).trans (h3 j a ha i v hv)⟩
theorem open_aks{H:Type}{enc:TypeId×Value→H}{W:World}{base:Nat}{v:Value}{d:DataW H}{p:List MemPlace}(hv:Value.okWide prog W .any base 22 v)(hd:DataW.Trod enc prog W 0 (fun _=>true) true 22 v d p)(hlt:∀x∈p,x.block<W.heap.size):
 ∃(A:Option Addr) (L:List Ak) (c:Nat),v= .slice A L.length c∧L.length≤9223372036854775807∧AksR W A L:=by
 obtain⟨a0,len,cap,rfl⟩:=Go.WideShapes.okWide_slice underlying22 hv;obtain⟨fuel,hf⟩:=hd;rcases Go.Deep.open_slice underlying22 hf with⟨hcs,_⟩|⟨a,len',cap',m,n,D,Pl,hcs,_,hl,hm,hmm,hx,hi⟩
 ·simp[Value.cells]at hcs;obtain⟨rfl,rfl,rfl⟩:=hcs;exact⟨none,[],0,rfl,by simp,Or.inl rfl⟩
 ·simp[Value.cells]at hcs;obtain⟨rfl,rfl,rfl⟩:=hcs;simp only[if_true]at hmm;subst hmm;unfold maxLen at hm;rw[Mq.cells_ask]at hi hx;simp only[Prod.mk.injEq]at hx;obtain⟨_,rfl⟩:=hx;obtain⟨b,o,spot⟩:=a;have pick:∀i,i<len→∃k:Ak,∀j v,(akC k).toList[j]? =some v→W.cell? (((⟨b,o,spot⟩:Addr).add (i*11)).add j)=some v:=fun i hil=>by
   obtain⟨cs',h1,h2⟩:=hi i (by omega);obtain⟨k,rfl⟩:=Mq.open_ask h2;obtain⟨_,_,hat⟩:=World.cells?_some h1;refine⟨k,fun j v hj=> ?_⟩;have hj10:j<11:=(List.getElem?_eq_some_iff.1 hj).1;rw[hat j hj10,hj]
  haveI:Inhabited Ak:=⟨⟨0,0,⟨#[]⟩,⟨#[]⟩,0,0,0,0,⟨#[]⟩,0,false⟩⟩
  obtain⟨f,hf2⟩:=Go.Deep.choose_lt (α:=Ak) pick;refine⟨some ⟨b,o,spot⟩,(List.range len).map f,m,by simp,by simp;omega,?_⟩;by_cases h0:len=0
  ·left
   rw[h0];rfl
  ·right
   have hspot:spot=none:=by simpa [Addr.add]using World.cell?_spot (hf2 0 (by omega) 0 _ rfl)
   subst hspot;refine⟨b,o,rfl,hlt (.cell b o) (List.mem_append_left _ (MemPlace.mem_row.2 ⟨0,by omega,by simp⟩)),fun j a hj i v hv=> ?_⟩;rw[List.getElem?_map]at hj
   cases hs:(List.range len)[j]? with
   |none=>rw[hs]at hj;cases hj
   |some y=>
    rw[hs]at hj
    cases hj
    have hjl:j<len:=by simpa using(List.getElem?_eq_some_iff.1 hs).1
    have hy:y=j:=by
     rw[List.getElem?_range hjl]at hs;exact(Option.some.inj hs).symm
    subst hy;have:=hf2 y hjl i v hv
    rw[Addr.add_lit,Addr.add_lit]at this;exact this
end
section
namespace Gd
def rawI(L:List UInt8):Ino:=⟨(L.getD 0 0).toNat,(L.getD 1 0).toNat,getN L 2 2,(List.range 4).map fun j=>((L.getD (4+j) 0).toNat:Int),(List.range 8).map fun j=>((L.getD (8+j) 0).toNat:Int)⟩
structure InoRaw(x:Ino)(L:List UInt8):Prop where
 len:L.length=64
 k:∃b:UInt8,L[0]? =some b∧(b.toNat:Int)=x.k
 l:∃b:UInt8,L[1]? =some b∧(b.toNat:Int)=x.l
 s:x.s=getN L 2 2
 B:∀j n,x.B[j]? =some n→∃b:UInt8,L[4+j]? =some b∧(b.toNat:Int)=n
 O:∀j n,x.O[j]? =some n→∃b:UInt8,L[8+j]? =some b∧(b.toNat:Int)=n
theorem raw_shape(L:List UInt8):(rawI L).Shape:=⟨by simp[rawI],by simp[rawI]⟩
theorem raw_one{L:List UInt8}{j:Nat}(h:j<L.length):L[j]? =some (L.getD j 0):=by
 rw[List.getD_eq_getElem?_getD,List.getElem?_eq_getElem h];rfl
theorem raw_bytes{L:List UInt8}(h:L.length=64):InoRaw (rawI L) L:=by
 refine⟨h,⟨_,raw_one (by omega),rfl⟩,⟨_,raw_one (by omega),rfl⟩,rfl,fun j n hn=> ?_,fun j n hn=> ?_⟩
 ·have hj:=(List.getElem?_eq_some_iff.1 hn).1;have hj4:j<4:=by simpa [rawI]using hj
  refine⟨_,raw_one (by omega),?_⟩;simp only[rawI,List.getElem?_map,List.getElem?_range hj4,Option.map_some,Option.some.injEq]at hn;exact hn
 ·have hj:=(List.getElem?_eq_some_iff.1 hn).1;have hj8:j<8:=by simpa [rawI]using hj
  refine⟨_,raw_one (by omega),?_⟩;simp only[rawI,List.getElem?_map,List.getElem?_range hj8,Option.map_some,Option.some.injEq]at hn;exact hn
end Gd
open Go.RowKit
attribute [local go_sem] Oper.semAt_some
theorem raw_all(L:List UInt8):AllI (inoL (Gd.rawI L)):=fun n hn=>by
 have hr:0≤n∧n<65536:=by
  simp only[inoL,Gd.rawI,List.mem_cons,List.mem_append,List.mem_map]at hn;rcases hn with rfl|rfl|rfl|⟨j,_,rfl⟩|⟨j,_,rfl⟩
  ·have:=(L.getD 0 0).toNat_lt;omega
  ·have:=(L.getD 1 0).toNat_lt;omega
  ·have:Gd.getN L 2 2<65536:=getN_lt L 2 2
   omega
  ·have:=(L.getD (4+j) 0).toNat_lt;omega
  ·have:=(L.getD (8+j) 0).toNat_lt;omega
 have hI: -9223372036854775808≤n∧n≤9223372036854775807:=by omega
 unfold I64;simp[Lit.wf,show IntKind.i64.min= -9223372036854775808 from rfl,show IntKind.i64.max=9223372036854775807 from rfl];omega
theorem readi_bad(L:List UInt8)(hlen:L.length=64)(hno:∀x:Gd.Ino,x.Shape→Gd.mayI x=true→L≠Gd.inoB x)(v:Value)(B0:Nat)(w:World)(hv:OwnB w B0 v L):Calls prog 62 #[v] w fun e w'=>∃E:Int,E≠0∧e= .returned (.tuple #[inoV Gd.noIno,.int .i64 E])∧Below w.heap.size w w':=by
 obtain⟨b,c,rfl,hlc,-,hbl,hcell⟩:=hv.lies (by intro e;rw[e]at hlen;simp at hlen);obtain⟨x,hx⟩:=nm (Gd.rawI L);have hs:x.Shape:=by rw[hx];exact Gd.raw_shape L
 have hI:AllI (inoL x):=by rw[hx];exact raw_all L
 have hIB:Gd.InoRaw x L:=by rw[hx];exact Gd.raw_bytes hlen
 have hne:L≠List.replicate 64 0:=hno Gd.noIno ⟨rfl,rfl⟩ (by decide);rw[hlen]at hlc⊢;obtain⟨w0,hw0⟩:=nm (w.alloc (.cells zIno 72));have hb0:Below w.heap.size w w0:=by rw[hw0];exact(Below.refl _ _).alloc (Nat.le_refl _) _
 have hr0:w0.heap[w.heap.size]? =some (.cells zIno 72 (0,0)):=by rw[hw0];exact heap_alloc_new _ _
 obtain⟨r,hr⟩:=nm w.heap.size;rw[←hr]at hr0;have hmk:(Instr.makeSlice 23 (.int .i64 64) (.int .i64 64)).run prog w0= .ok (.slice (some ⟨w0.heap.size,0,none⟩) 64 64) (w0.alloc (.cells (cellsB (List.replicate 64 0)) 5)):=made_bytes 64 (by omega) w0;have hom:=own_made w0 64 (by omega) 0 (Nat.zero_le _);have hbm:Below w0.heap.size w0 (w0.alloc (.cells (cellsB (List.replicate 64 0)) 5)):=(Below.refl _ _).alloc (Nat.le_refl _) _;obtain⟨wm,hwm⟩:=nm (w0.alloc (.cells (cellsB (List.replicate 64 0)) 5));rw[←hwm]at hmk hom hbm;have HBm:=hid (hb0.trans (hbm.mono hb0.size));have hcm:∀(j:Nat) (y:UInt8),L[j]? =some y→wm.cell? ⟨b,j,none⟩=some (.int .u8 y.toNat):=fun j y hy=>(HBm.o.cell (p:=⟨b,j,none⟩) hbl).trans (hcell j y hy);have hblm:b<wm.heap.size:=Nat.lt_of_lt_of_le hbl HBm.o.size;have hby64:=bytesAt_part (c:=c) hblm hcm 64 (by omega)
 rw[List.take_of_length_le (by omega)]at hby64;have HEq:=hid (bequal_any (.slice (some ⟨b,0,none⟩) 64 c) (.slice (some ⟨w0.heap.size,0,none⟩) 64 64) L (List.replicate 64 0) wm hby64 hom.at_);have HHead:=hid fun n hn=>bytesAt_part (c:=c) hblm hcm n hn;have HR0:=hid ((hbm.block r (lt_get hr0)).trans hr0);have HW0:=hid hw0;have Hr:=hid hr.symm;have HNo:=hid hno;have HLen:=hid hlen;have HBy64:=hid hby64;have HCm:=hid (And.intro hblm hcm);have HSh:=hid hs;have HAll:=hid hI;have hc64:(64:Int)≤c:=by omega
 have hc60:(60:Int)≤c:=by omega
 have hc64n:64≤c:=hlc;clear hx hno hv hs hlen hlc hbl hcell hI hw0 hb0 hr0 hr hom hbm hwm hcm hblm hby64;go_enter func62,ntmps62;go_upto_region 1 with fail
 rw[show w.alloc (.cells #[.int .i64 0,.int .i64 0,.int .i64 0,.int .i64 0,.int .i64 0,.int .i64 0,.int .i64 0,.int .i64 0,.int .i64 0,.int .i64 0,.int .i64 0,.int .i64 0,.int .i64 0,.int .i64 0,.int .i64 0] 72)=w0 from HW0.o.symm,Hr.o];go_upto_region 4 with fail
 have hLz:decide (L=List.replicate 64 0)=false:=decide_eq_false hne;rw[hLz]at HEq;have HIB:=hid hIB;obtain⟨cc,hcc⟩:=nm (Gd.crc (L.take 60));have hcl:cc<4294967296:=by rw[hcc];exact Gd.crc_lt _
 obtain⟨sn,hsn⟩:∃n:Nat,n=Gd.getN L 2 2:=⟨_,rfl⟩;have hs2:sn<65536:=by rw[hsn];exact getN_lt L 2 2
 have hxs:x.s=sn:=by rw[hsn];exact hIB.s
 have hg2:Gd.getB L 2 2=true∧Gd.get L 2 2=(sn:Int):=by
  have h1:Gd.getN L 2 2=sn:=hsn.symm;have h2:Gd.getB L 2 2=true:=by
   unfold Gd.getB;rw[show(2:Int).toNat=2 from rfl,h1,hIB.len];simp
   omega
  refine⟨h2,?_⟩;unfold Gd.get;rw[if_pos h2,show(2:Int).toNat=2 from rfl,h1]
 obtain⟨g1,hg1⟩:=nm (Gd.get L 60 4);have HG1:Hid (Calls prog 108 #[.slice (some ⟨b,0,none⟩) 64 c,.int .i64 60,.int .i64 4] wm fun e w'=>e= .returned (.tuple #[.int .i64 g1,.bool (Gd.getB L 60 4)])∧w'=wm):=hid (by
  have:=get_any (.slice (some ⟨b,0,none⟩) 64 c) L 60 4 (Or.inr (Or.inr (Or.inl rfl))) (nat_I64 (n:=60) (by omega)) wm HBy64.o (by have:=HLen.o;omega)
  rw[←hg1]at this;exact this)
 have HCr:=hid (crc_any (.slice (some ⟨b,0,none⟩) 60 c) (L.take 60) wm (HHead.o 60 (by have:=HLen.o;omega)) (by rw[List.length_take];have:=HLen.o;omega));rw[←hcc]at HCr;have HG2:Hid (∀W,Below wm.heap.size wm W→Calls prog 108 #[.slice (some ⟨b,0,none⟩) 64 c,.int .i64 2,.int .i64 2] W fun e w'=>e= .returned (.tuple #[.int .i64 sn,.bool true])∧w'=W):=hid fun W hW=>by
  have:=get_any (.slice (some ⟨b,0,none⟩) 64 c) L 2 2 (Or.inr (Or.inl rfl)) (nat_I64 (n:=2) (by omega)) W (HBy64.o.keep hW) (by have:=HLen.o;omega)
  rw[hg2.1,hg2.2]at this;exact this
 have hc2:(cc:Int)<4294967296:=by omega
 have Hsn:=hid hxs;clear hcc hg1 hg2 hsn hxs hIB hLz HHead;go_wp2_with(go_at_call 107;with_reducible refine HEq.o.mono ?_;rintro e w1 ⟨rfl,rfl⟩)
 refine HG1.o.mono ?_;rintro e w2 ⟨rfl,rfl⟩;clear HEq HG1;go_wp2_with fail
 refine HCr.o.mono ?_;rintro e w3 ⟨rfl,hb3⟩;have HB3:=hid hb3;clear hb3 HCr;by_cases hgc:¬g1=cc
 ·have HR3:=hid ((HB3.o.block r (lt_get HR0.o)).trans HR0.o);have hsb:(g1 !=(cc:Int))=true:=by simp[hgc]
  clear hgc;go_wp2_with(first|(refine wpList_store_mid rfl 72 _ _ rfl r 0 zIno rfl rfl (there_at HR3.o rfl) sizeIno (by rw[zIno_eq];exact inoC_one _) ?_;obtain⟨hbw,hbg⟩:=whole_at HR3.o (vs:=zIno.toList) (B:=r) rfl (Nat.le_refl r);generalize (World.setCells _ _ _ _)=wf at hbw hbg⊢))
  refine bodyPost_ret (results_row_tmp rfl _ _ r 72 zIno (0,0) _ rfl hbg underlying72 rfl sizeIno) rfl ?_;exact⟨_,by decide,rfl,(HBm.o.trans (HB3.o.mono HBm.o.size)).trans (by rw[Hr.o];exact hbw)⟩
 obtain rfl:g1=cc:=Classical.not_not.1 hgc
 clear hgc;go_wp2_with fail
 refine(HG2.o w3 HB3.o).mono ?_
 rintro e w4 ⟨rfl,rfl⟩;clear HG2;obtain⟨y0,hy0,hye0⟩:=HIB.o.k;obtain⟨y1,hy1,hye1⟩:=HIB.o.l;have hdr:Below w4.heap.size w4 w4.drew:=(Below.refl _ _).drew;have hbd:Below w2.heap.size w2 w4.drew:=HB3.o.trans (hdr.mono HB3.o.size);have hs0:w4.drew.cell? ⟨b,0,none⟩=some (.int .u8 y0.toNat)∧w4.drew.cell? ⟨b,1,none⟩=some (.int .u8 y1.toNat):=⟨(hbd.cell (p:=⟨b,0,none⟩) HCm.o.1).trans (HCm.o.2 0 y0 hy0),(hbd.cell (p:=⟨b,1,none⟩) HCm.o.1).trans (HCm.o.2 1 y1 hy1)⟩;have Hye:=hid (And.intro hye0 hye1);have HBd:=hid hbd;clear hy0 hye0 hy1 hye1 hdr hbd;have hw0:IntKind.i64.wrap (y0.toNat:Int)=y0.toNat:=by rw[IntKind.wrap_i64];have:=y0.toNat_lt;omega
 have hw1:IntKind.i64.wrap (y1.toNat:Int)=y1.toNat:=by rw[IntKind.wrap_i64];have:=y1.toNat_lt;omega
 obtain⟨ib,hib⟩:=nm w4.heap.size;obtain⟨wA,hwA⟩:=nm ((w4.alloc (.cells zIno 72)).drew);have hnA:wA.heap[w4.heap.size]? =some (.cells zIno 72 (0,0)):=by rw[hwA];exact heap_alloc_new w4 _
 have hbA:Below w4.heap.size w4 wA:=by rw[hwA];exact((Below.refl w4.heap.size w4).alloc (Nat.le_refl _) _).drew
 have HBd4:Hid (Below w2.heap.size w2 w4):=hid HB3.o;obtain⟨vs,hvs⟩:∃vs:Array Value,vs=#[.int .i64 y0.toNat,.int .i64 y1.toNat,.int .i64 sn,.int .i64 0,.int .i64 0,.int .i64 0,.int .i64 0,.int .i64 0,.int .i64 0,.int .i64 0,.int .i64 0,.int .i64 0,.int .i64 0,.int .i64 0,.int .i64 0]:=⟨_,rfl⟩;have hvz:vs=inoC (partI x 0 0):=by
  unfold inoC inoL partI;rw[hvs,←Hye.o.1,←Hye.o.2,Hsn.o];rfl
 have hvsz:vs.size=15:=by rw[hvs];rfl
 obtain⟨hbB,hnB⟩:=whole_at hnA (vs:=vs.toList) (B:=w4.heap.size) (by rw[Array.length_toList,hvsz];rfl) (Nat.le_refl _);rw[←hib]at hnA hbA hbB hnB;have hsA:=And.intro ((hbA.cell (p:=⟨b,0,none⟩) (Nat.lt_of_lt_of_le HCm.o.1 (by rw[hib];exact HBd4.o.size))).trans hs0.1) ((hbA.cell (p:=⟨b,1,none⟩) (Nat.lt_of_lt_of_le HCm.o.1 (by rw[hib];exact HBd4.o.size))).trans hs0.2);have hsB:=And.intro ((hbB.cell (p:=⟨b,0,none⟩) (Nat.lt_of_lt_of_le HCm.o.1 (by rw[hib];exact HBd4.o.size))).trans hsA.1) ((hbB.cell (p:=⟨b,1,none⟩) (Nat.lt_of_lt_of_le HCm.o.1 (by rw[hib];exact HBd4.o.size))).trans hsA.2);obtain⟨wB,hwB⟩:=nm (wA.setCells ib 0 vs.toList);rw[←hwB]at hnB hbB hsB;have HIB0:Hid (InoAt wB ib (partI x 0 0)):=hid ⟨by rw[hnB];congr 2,partI_shape HSh.o (by omega) (by omega)⟩;have hib2:ib<wB.heap.size:=lt_get HIB0.o.row
 have HBw:Hid (Below w.heap.size w wB∧Below w2.heap.size w2 wB∧w2.heap.size≤ib):=hid (by
  have h1:=HBd4.o.size;rw[←hib]at h1;have h2:=HBd4.o.trans ((hbA.trans hbB).mono h1);exact⟨HBm.o.trans (h2.mono HBm.o.size),h2,h1⟩)
 have HvO:Hid (vs.all (·.oneCell')=true):=hid (by rw[hvz];exact inoC_one _);have HTh:Hid (wA.there ib 0 vs.size):=hid (there_at hnA (n:=vs.size) (by rw[hvsz];rfl));have Hib:=hid hib.symm;have HwB:=hid hwB.symm;have Hvs:=hid hvs;have Hvz:=hid hvsz;have HwA:=hid hwA;clear hwA hib hnA hbA hvz hvsz hbB hnB hwB hvs hib2;go_upto_region 10 with fail
 refine wp_region_held_drew (S:=(fun W=>W.cell? ⟨b,0,none⟩=some (.int .u8 y0.toNat)∧W.cell? ⟨b,1,none⟩=some (.int .u8 y1.toNat))) (by kernel_rfl) ?_ (fun hHeld=> ?_)
 ·exact hs0
 refine tk 0 ?_;refine tk 1 ?_;refine tk 2 ?_;refine tk 3 ?_;refine tk 4 ?_;refine tk 5 ?_;refine tk 6 ?_;refine tk 7 ?_;refine tk 8 ?_;refine tk 9 ?_;refine rd 10 (fun K hK=> ?_);go_simp
 rw[show(w4.alloc (.cells #[.int .i64 0,.int .i64 0,.int .i64 0,.int .i64 0,.int .i64 0,.int .i64 0,.int .i64 0,.int .i64 0,.int .i64 0,.int .i64 0,.int .i64 0,.int .i64 0,.int .i64 0,.int .i64 0,.int .i64 0] 72)).drew=wA from HwA.o.symm,Hib.o];try dsimp only
 refine hK.o _ _ hsA (fun hHeld=> ?_);clear hK K;try simp only[put]
 refine rd 11 (fun K hK=> ?_);refine wp_store_mid 72 _ _ rfl ib 0 vs rfl (by rw[Hvs.o];rfl) HTh.o (by rw[Hvz.o];exact sizeIno) HvO.o ?_;rw[HwB.o];try dsimp only
 refine hK.o _ _ hsB (fun hHeld=> ?_);clear hK K;try simp only[put]
 refine dn ?_
 (try simp only[Exit.then])
 (first|(refine(by assumption:∀(a:Act) (w:World),_) _ _ ?_)|skip)
 go_upto_region 12 with fail
 go_loopw[50] (fun z wr=>∃i:Nat,z= .int .i64 i∧i≤4∧Hid (InoAt wr ib (partI x i 0)∧Below w.heap.size w wr∧Below w2.heap.size w2 wr)) (fun z _=>4-(intOf z).toNat)
 case atStart=>exact⟨0,rfl,by omega,hid ⟨HIB0.o,HBw.o.1,HBw.o.2.1⟩⟩
 case round=>
  obtain⟨i,rfl,hi,HW⟩:=hrel;by_cases hlt:i<4
  ·obtain⟨n,hn⟩:∃n,x.B[i]? =some n:=⟨_,List.getElem?_eq_getElem (by have:=HSh.o.1;omega)⟩;obtain⟨y,hy,hye⟩:=HIB.o.B i n hn;have hyl:4+i<64:=by omega
   have hc:=(HW.o.2.2.cell (p:=⟨b,4+i,none⟩) HCm.o.1).trans (HCm.o.2 (4+i) y hy);have hq:wr.frozen? ⟨ib,3+i,none⟩=false:=frozen_of_row wr ib (3+i) _ _ HW.o.1.row;obtain⟨old,hold⟩:∃u,wr.cell? ⟨ib,3+i,none⟩=some u:=by
    rw[cell_of_row wr ib (3+i) _ _ _ HW.o.1.row];exact⟨_,Array.getElem?_eq_getElem (by rw[inoC_size HW.o.1.shape];omega)⟩
   have hwy:IntKind.i64.wrap (y.toNat:Int)=y.toNat:=by rw[IntKind.wrap_i64];have:=y.toNat_lt;omega
   have h1:(i:Int)<4:=by omega
   have h0:(0:Int)≤i:=by omega
   obtain⟨w5,hw5⟩:=nm (wr.setCell ⟨ib,3+i,none⟩ (.int .i64 y.toNat));have HW5:Hid (InoAt w5 ib (partI x (i+1) 0)∧Below w.heap.size w w5∧Below w2.heap.size w2 w5):=hid (by
    have h2:=HBw.o.2.2;have h3:=HBm.o.size;rw[hw5];refine⟨?_,HW.o.2.1.setCell (show w.heap.size≤ib by omega) _,HW.o.2.2.setCell (show w2.heap.size≤ib from h2) _⟩;rw[hye];exact HW.o.1.setB HSh.o (by omega) hn)
   have Hw5:=hid hw5.symm;have k1:(4:Int)+(i:Int)<64:=by omega
   clear hn hy hye hw5 hlt;go_wp2;rw[Hw5.o];go_roundw
   case rel=>exact⟨i+1,by go_num,by omega,HW5⟩
   case measure=>simp[intOf];omega
  ·obtain rfl:i=4:=by omega
   clear hlt;obtain⟨w6,rfl⟩:=nm wr;have HW6:=HW;clear HW;go_upto_region 17 with fail
   go_loopw[63] (fun z wr=>∃i:Nat,z= .int .i64 i∧i≤8∧Hid (InoAt wr ib (partI x 4 i)∧Below w.heap.size w wr∧Below w2.heap.size w2 wr)) (fun z _=>8-(intOf z).toNat)
   case atStart=>exact⟨0,rfl,by omega,HW6⟩
   case round=>
    obtain⟨i,rfl,hi,HW⟩:=hrel;by_cases hlt:i<8
    ·obtain⟨n,hn⟩:∃n,x.O[i]? =some n:=⟨_,List.getElem?_eq_getElem (by have:=HSh.o.2;omega)⟩;obtain⟨y,hy,hye⟩:=HIB.o.O i n hn;have hyl:8+i<64:=by omega
     have hc:=(HW.o.2.2.cell (p:=⟨b,8+i,none⟩) HCm.o.1).trans (HCm.o.2 (8+i) y hy);have hq:wr.frozen? ⟨ib,7+i,none⟩=false:=frozen_of_row wr ib (7+i) _ _ HW.o.1.row;obtain⟨old,hold⟩:∃u,wr.cell? ⟨ib,7+i,none⟩=some u:=by
      rw[cell_of_row wr ib (7+i) _ _ _ HW.o.1.row];exact⟨_,Array.getElem?_eq_getElem (by rw[inoC_size HW.o.1.shape];omega)⟩
     have hwy:IntKind.i64.wrap (y.toNat:Int)=y.toNat:=by rw[IntKind.wrap_i64];have:=y.toNat_lt;omega
     have h1:(i:Int)<8:=by omega
     have h0:(0:Int)≤i:=by omega
     obtain⟨w5,hw5⟩:=nm (wr.setCell ⟨ib,7+i,none⟩ (.int .i64 y.toNat));have HW5:Hid (InoAt w5 ib (partI x 4 (i+1))∧Below w.heap.size w w5∧Below w2.heap.size w2 w5):=hid (by
      have h2:=HBw.o.2.2;have h3:=HBm.o.size;rw[hw5];refine⟨?_,HW.o.2.1.setCell (show w.heap.size≤ib by omega) _,HW.o.2.2.setCell (show w2.heap.size≤ib from h2) _⟩;rw[hye];exact HW.o.1.setO HSh.o hn)
     have Hw5:=hid hw5.symm;have k1:(8:Int)+(i:Int)<64:=by omega
     clear hn hy hye hw5 hlt;go_wp2;rw[Hw5.o];go_roundw
     case rel=>exact⟨i+1,by go_num,by omega,HW5⟩
     case measure=>simp[intOf];omega
    ·obtain rfl:i=8:=by omega
     clear hlt;have hI7:=HW.o.1;rw[partI_full HSh.o]at hI7;have HI7:=hid hI7;have HS:=hid (inoC_size HSh.o);have HR7:=hid ((HW.o.2.2.block r (lt_get HR0.o)).trans HR0.o);have HW7:=hid HW.o.2.1;have HB7:=hid HW.o.2.2;clear hI7 HW;by_cases hmy:Gd.mayI x=true
     ·have HPu:=hid (puti_any x HSh.o HAll.o hmy wr);have hne2:decide (Gd.inoB x=L)=false:=decide_eq_false fun e=>HNo.o x HSh.o hmy e.symm;unfold inoV at HPu;go_upto_region 21 with fail
      go_wp2_with(refine wpList_load_row rfl 72 _ rfl ib rfl 72 (inoC x) (0,0) _ HI7.o.row underlying72 rfl (by rw[HS.o];exact sizeIno) ?_)
      refine HPu.o.mono ?_;rintro e w8 ⟨v8,rfl,ho8,hb8⟩;have HEq8:=hid (bequal_any v8 (.slice (some ⟨b,0,none⟩) 64 c) (Gd.inoB x) L w8 ho8.at_ (HBy64.o.keep (HB7.o.trans (hb8.mono HB7.o.size))));rw[hne2]at HEq8;have HR8:=hid ((hb8.block r (lt_get HR7.o)).trans HR7.o);have HW8:=HW7.t hb8;clear ho8 hb8 HPu hne2;go_wp2_with(first|(go_at_call 107;with_reducible refine HEq8.o.mono ?_;rintro e w9 ⟨rfl,rfl⟩)|(refine wpList_store_mid rfl 72 _ _ rfl r 0 zIno rfl rfl (there_at HR8.o rfl) sizeIno (by rw[zIno_eq];exact inoC_one _) ?_;obtain⟨hbw,hbg⟩:=whole_at HR8.o (vs:=zIno.toList) (B:=r) rfl (Nat.le_refl r);generalize (World.setCells _ _ _ _)=wf at hbw hbg⊢))
      refine bodyPost_ret (results_row_tmp rfl _ _ r 72 zIno (0,0) _ rfl hbg underlying72 rfl sizeIno) rfl ?_;exact⟨_,by decide,rfl,HW8.o.trans (by rw[Hr.o];exact hbw)⟩
     ·have HPu:=hid (puti_bad x HSh.o HAll.o (by simpa using hmy) wr);unfold inoV at HPu;go_upto_region 21 with fail
      go_wp2_with(refine wpList_load_row rfl 72 _ rfl ib rfl 72 (inoC x) (0,0) _ HI7.o.row underlying72 rfl (by rw[HS.o];exact sizeIno) ?_)
      refine HPu.o.mono ?_;rintro e w8 ⟨rfl,hb8⟩;have HR8:=hid ((hb8.block r (lt_get HR7.o)).trans HR7.o);have HW8:=HW7.t hb8;clear hb8 HPu;go_wp2_with(first|(refine wpList_store_mid rfl 72 _ _ rfl r 0 zIno rfl rfl (there_at HR8.o rfl) sizeIno (by rw[zIno_eq];exact inoC_one _) ?_;obtain⟨hbw,hbg⟩:=whole_at HR8.o (vs:=zIno.toList) (B:=r) rfl (Nat.le_refl r);generalize (World.setCells _ _ _ _)=wf at hbw hbg⊢))
      refine bodyPost_ret (results_row_tmp rfl _ _ r 72 zIno (0,0) _ rfl hbg underlying72 rfl sizeIno) rfl ?_;exact⟨_,by decide,rfl,HW8.o.trans (by rw[Hr.o];exact hbw)⟩
end
section
attribute [local go_sem] Oper.semAt_some
theorem inode_good[MemNo]{x t c K:Nat}{S:List UInt8}{P:List Gd.Pa}{F:Nat→Prop}(i:Int)(y:Gd.Ino)(w:World)(h:MetaF x t S P c K w F)(h1:1≤i)(h2:i≤32)(hs:y.Shape)(hm:Gd.mayI y=true)(hb:Gd.part (Gd.view S P) (Gd.inoAt i.toNat) 64=Gd.inoB y):
 Calls prog 24 #[.pointer (some ⟨x,0,none⟩),.int .i64 i] w fun e w'=>e= .returned (.tuple #[inoV y,.int .i64 0])∧Below w.heap.size w w':=by
 obtain⟨w0,hw0⟩:=nm (w.alloc (.cells zIno 72));have hb0:Below w.heap.size w w0:=by rw[hw0];exact(Below.refl _ _).alloc (Nat.le_refl _) _
 have hr0:w0.heap[w.heap.size]? =some (.cells zIno 72 (0,0)):=by rw[hw0];exact heap_alloc_new _ _
 obtain⟨r,hr⟩:=nm w.heap.size;rw[←hr]at hr0;have HLd:=hid (load_some 4 i _ w0 (h.below hb0) (Gd.ptAt_node h1 h2));dsimp only at HLd;rw[hb]at HLd;have HR0:=hid hr0;have HB0:=hid hb0;have HW0:=hid hw0.symm;have Hr:=hid hr.symm;have HSm:=hid (And.intro hs hm);have HS:=hid (inoC_size hs);unfold zIno at HW0;clear h hw0 hb0 hr0 hr h1 h2 hs hm hb;go_enter func24,ntmps24;go_upto_region 1 with fail
 rw[HW0.o,Hr.o];go_wp2_with fail
 refine HLd.o.mono ?_;rintro e w1 ⟨v1,rfl,ho1,hb1⟩;have HR1:=hid ((hb1.block r (lt_get HR0.o)).trans HR0.o);have HB1:=HB0.t hb1;have HRd:=hid (readi_any y HSm.o.1 HSm.o.2 v1 _ w1 ho1);clear hb1 HLd ho1;go_wp2_with fail
 refine HRd.o.mono ?_;rintro e w2 ⟨rfl,hb2⟩;have HR2:=hid ((hb2.block r (lt_get HR1.o)).trans HR1.o);have HB2:=HB1.t hb2;unfold inoV;obtain⟨w3,hw3⟩:=nm ((w2.alloc (.cells zIno 72)));have hb3:Below w2.heap.size w2 w3:=by rw[hw3];exact(Below.refl _ _).alloc (Nat.le_refl _) _
 have hn3:w3.heap[w2.heap.size]? =some (.cells zIno 72 (0,0)):=by rw[hw3];exact heap_alloc_new _ _
 obtain⟨b,hbe⟩:=nm w2.heap.size;rw[←hbe]at hn3;have HN3:=hid hn3;have HR3:=hid ((hb3.block r (lt_get HR2.o)).trans HR2.o);have HB3:=HB2.t hb3;have Hbe:=hid hbe.symm;have HW3:=hid hw3.symm;have HbB:Hid (r<b):=hid (by rw[hbe];exact lt_get HR2.o);unfold zIno at HW3;clear hb2 HRd hw3 hb3 hn3 hbe
 go_wp2_with(first|(refine wpList_store_mid rfl 72 _ _ rfl b 0 (inoC y) (by rw[←Hbe.o];rfl) rfl (by rw[show w2.alloc (.cells #[.int .i64 0,.int .i64 0,.int .i64 0,.int .i64 0,.int .i64 0,.int .i64 0,.int .i64 0,.int .i64 0,.int .i64 0,.int .i64 0,.int .i64 0,.int .i64 0,.int .i64 0,.int .i64 0,.int .i64 0] 72)=w3 from HW3.o];exact there_at HN3.o (by rw[HS.o];rfl)) (by rw[HS.o];exact sizeIno) (inoC_one _) ?_;rw[HW3.o];obtain⟨hbw,hbg⟩:=whole_at HN3.o (vs:=(inoC y).toList) (B:=b) (by rw[Array.length_toList,HS.o];rfl) (Nat.le_refl b);generalize (World.setCells _ _ _ _)=w4 at hbw hbg⊢;have HG4:=hid hbg;have HR4:=hid ((hbw.block r HbB.o).trans HR3.o);have HB4:=hid (HB3.o.trans (hbw.mono (show w.heap.size≤b by have:=HbB.o;have:=Hr.o;omega)));clear hbw hbg)|(refine wpList_load_row rfl 72 _ rfl b (by rw[←Hbe.o];rfl) 72 (inoC y) (0,0) _ HG4.o underlying72 rfl (by rw[HS.o];exact sizeIno) ?_)|(refine wpList_store_mid rfl 72 _ _ rfl r 0 (inoC y) rfl rfl (there_at HR4.o (by rw[HS.o];rfl)) (by rw[HS.o];exact sizeIno) (inoC_one _) ?_;obtain⟨hbw,hbg⟩:=whole_at HR4.o (vs:=(inoC y).toList) (B:=r) (by rw[Array.length_toList,HS.o];rfl) (Nat.le_refl r);generalize (World.setCells _ _ _ _)=wf at hbw hbg⊢))
 refine bodyPost_ret (results_row_tmp rfl _ _ r 72 (inoC y) (0,0) _ rfl hbg underlying72 rfl (by rw[HS.o];exact sizeIno)) rfl ?_;exact⟨rfl,HB4.o.trans (by rw[Hr.o];exact hbw)⟩
theorem inode_wrong[MemNo]{x t c K:Nat}{S:List UInt8}{P:List Gd.Pa}{F:Nat→Prop}(i:Int)(w:World)(h:MetaF x t S P c K w F)(h1:1≤i)(h2:i≤32)(hl:(Gd.part (Gd.view S P) (Gd.inoAt i.toNat) 64).length=64)(hno:∀y:Gd.Ino,y.Shape→Gd.mayI y=true→Gd.part (Gd.view S P) (Gd.inoAt i.toNat) 64≠Gd.inoB y):
 Calls prog 24 #[.pointer (some ⟨x,0,none⟩),.int .i64 i] w fun e w'=>(∃E:Int,E≠0∧e= .returned (.tuple #[inoV Gd.noIno,.int .i64 E]))∧Below w.heap.size w w':=by
 obtain⟨w0,hw0⟩:=nm (w.alloc (.cells zIno 72));have hb0:Below w.heap.size w w0:=by rw[hw0];exact(Below.refl _ _).alloc (Nat.le_refl _) _
 have hr0:w0.heap[w.heap.size]? =some (.cells zIno 72 (0,0)):=by rw[hw0];exact heap_alloc_new _ _
 obtain⟨r,hr⟩:=nm w.heap.size;rw[←hr]at hr0;have HLd:=hid (load_some 4 i _ w0 (h.below hb0) (Gd.ptAt_node h1 h2));dsimp only at HLd;have HNo:=hid (And.intro hl hno);have HR0:=hid hr0;have HB0:=hid hb0;have HW0:=hid hw0.symm;have Hr:=hid hr.symm;unfold zIno at HW0;clear h hw0 hb0 hr0 hr h1 h2 hl hno;go_enter func24,ntmps24;go_upto_region 1 with fail
 rw[HW0.o,Hr.o];go_wp2_with fail
 refine HLd.o.mono ?_;rintro e w1 ⟨v1,rfl,ho1,hb1⟩;have HR1:=hid ((hb1.block r (lt_get HR0.o)).trans HR0.o);have HB1:=HB0.t hb1;obtain⟨y,hy⟩:=nm Gd.noIno;have HS:Hid ((inoC y).size=15):=hid (by rw[hy];rfl);have HRd:=hid (readi_bad _ HNo.o.1 HNo.o.2 v1 _ w1 ho1);rw[←hy]at HRd;clear hy;clear hb1 HLd ho1;go_wp2_with fail
 refine HRd.o.mono ?_;rintro e w2 ⟨E,hE,rfl,hb2⟩;have HR2:=hid ((hb2.block r (lt_get HR1.o)).trans HR1.o);have HB2:=HB1.t hb2;unfold inoV;obtain⟨w3,hw3⟩:=nm ((w2.alloc (.cells zIno 72)));have hb3:Below w2.heap.size w2 w3:=by rw[hw3];exact(Below.refl _ _).alloc (Nat.le_refl _) _
 have hn3:w3.heap[w2.heap.size]? =some (.cells zIno 72 (0,0)):=by rw[hw3];exact heap_alloc_new _ _
 obtain⟨b,hbe⟩:=nm w2.heap.size;rw[←hbe]at hn3;have HN3:=hid hn3;have HR3:=hid ((hb3.block r (lt_get HR2.o)).trans HR2.o);have HB3:=HB2.t hb3;have Hbe:=hid hbe.symm;have HW3:=hid hw3.symm;have HbB:Hid (r<b):=hid (by rw[hbe];exact lt_get HR2.o);unfold zIno at HW3;clear hb2 HRd hw3 hb3 hn3 hbe;have hE1:¬E=0:=hE;have hsb:(E !=0)=true:=by simp[hE1]
 clear hE
 go_wp2_with(first|(refine wpList_store_mid rfl 72 _ _ rfl b 0 (inoC y) (by rw[←Hbe.o];rfl) rfl (by rw[show w2.alloc (.cells #[.int .i64 0,.int .i64 0,.int .i64 0,.int .i64 0,.int .i64 0,.int .i64 0,.int .i64 0,.int .i64 0,.int .i64 0,.int .i64 0,.int .i64 0,.int .i64 0,.int .i64 0,.int .i64 0,.int .i64 0] 72)=w3 from HW3.o];exact there_at HN3.o (by rw[HS.o];rfl)) (by rw[HS.o];exact sizeIno) (inoC_one _) ?_;rw[HW3.o];obtain⟨hbw,hbg⟩:=whole_at HN3.o (vs:=(inoC y).toList) (B:=b) (by rw[Array.length_toList,HS.o];rfl) (Nat.le_refl b);generalize (World.setCells _ _ _ _)=w4 at hbw hbg⊢;have HG4:=hid hbg;have HR4:=hid ((hbw.block r HbB.o).trans HR3.o);have HB4:=hid (HB3.o.trans (hbw.mono (show w.heap.size≤b by have:=HbB.o;have:=Hr.o;omega)));clear hbw hbg)|(refine wpList_store_mid rfl 72 _ _ rfl r 0 zIno rfl rfl (there_at HR4.o rfl) sizeIno (by rw[zIno_eq];exact inoC_one _) ?_;obtain⟨hbw,hbg⟩:=whole_at HR4.o (vs:=zIno.toList) (B:=r) rfl (Nat.le_refl r);generalize (World.setCells _ _ _ _)=wf at hbw hbg⊢))
 refine bodyPost_ret (results_row_tmp rfl _ _ r 72 zIno (0,0) _ rfl hbg underlying72 rfl sizeIno) rfl ?_;exact⟨⟨_,by decide,rfl⟩,HB4.o.trans (by rw[Hr.o];exact hbw)⟩
end
section
attribute [local go_sem] Oper.semAt_some
theorem asked_open{p x:Nat}(cl fl fd off n spare:Int)(s s2 data:ByteArray)(drop:Bool)(w:World)(Q:Nat→Int→World→Prop)(hp:w.cell? ⟨p,2,none⟩=some (.pointer (some ⟨x,0,none⟩)))(hpl:p<w.heap.size)(f:Nat)(full:Bool)(hf:((f:Int)==8)=full)(hFr:∀W,Below w.heap.size w W→Calls prog 26 #[.pointer (some ⟨p,0,none⟩),.int .i64 cl] W fun e W2=>e= .returned (.int .i64 (f:Nat))∧W2=W)
 (hC:∀W,Below w.heap.size w W→AskW ⟨cl,1,s,s2,fl,fd,off,n,data,spare,drop⟩ zRepC w W→Calls prog 27 #[.pointer (some ⟨x,0,none⟩),.int .i64 cl,.string s,.int .i64 fl,.bool full,.int .i64 spare] W fun e W2=>∃(i:Nat) (r:Int),e= .returned (.tuple #[.int .i64 i,.int .i64 r])∧Q i r W2∧AskW ⟨cl,1,s,s2,fl,fd,off,n,data,spare,drop⟩ zRepC w W2∧W2.cell? ⟨p,2,none⟩=some (.pointer (some ⟨x,0,none⟩))):
 Calls prog 9 #[.pointer (some ⟨p,0,none⟩),akV ⟨cl,1,s,s2,fl,fd,off,n,data,spare,drop⟩] w (AskEnd (fun q i A c W=>A=none∧c=0∧∃r,Q i r W∧q=if r=0 then Pz.fdR f else Pz.er r) w):=by
 have HFr:=hid hFr;clear hFr;obtain⟨w4,hw4⟩:=nm (askWorld ⟨cl,1,s,s2,fl,fd,off,n,data,spare,drop⟩ w);obtain⟨ha4,hb4⟩:=ask_start ⟨cl,1,s,s2,fl,fd,off,n,data,spare,drop⟩ w;rw[←hw4]at ha4 hb4;have HA4:=hid ha4;have HB4:=hid hb4;have HC:=hid hC;have hp4:=(hb4.cell (p:=⟨p,2,none⟩) hpl).trans hp;have HP4:=hid hp4;have HPl:=hid hpl;have HW4:=hid hw4;have HSz:=hid hb4.size;unfold askWorld akC akCall zRepC at HW4;try dsimp only at HW4
 unfold akV akC;try dsimp only
 clear hC hpl hw4 ha4 hb4 hp hp4;go_enter func9,ntmps9;have HFc:=hid (HFr.o w4 HB4.o);go_upto_region 7 with fail
 rw[←HW4.o];have ha4:=HA4.o;obtain⟨b3,hb3⟩:=nm w.heap.size;have Hb3:=hid hb3;have hs0:w4.cell? ⟨p,2,none⟩=some (.pointer (some ⟨x,0,none⟩))∧w4.cell? ⟨b3,0,none⟩=some (.int .i64 cl)∧w4.cell? ⟨b3+1+1,1,none⟩=some (.string s)∧w4.cell? ⟨b3+1+1,3,none⟩=some (.int .i64 fl)∧w4.cell? ⟨b3,9,none⟩=some (.int .i64 spare):=by
  rw[hb3];exact⟨HP4.o,cell_of_row w4 _ 0 _ _ _ ha4.c3,cell_of_row w4 _ 1 _ _ _ ha4.c7,cell_of_row w4 _ 3 _ _ _ ha4.c7,cell_of_row w4 _ 9 _ _ _ ha4.c3⟩
 rw[←hb3];clear ha4 hb3;obtain⟨q1,q2,q3,q4,q5⟩:=hs0;go_upto_region 8 with(go_at_call 26;refine HFc.o.mono ?_;rintro e w9 ⟨rfl,rfl⟩)
 have hs0:w9.cell? ⟨p,2,none⟩=some (.pointer (some ⟨x,0,none⟩))∧w9.cell? ⟨b3,0,none⟩=some (.int .i64 cl)∧w9.cell? ⟨b3+1+1,1,none⟩=some (.string s)∧w9.cell? ⟨b3+1+1,3,none⟩=some (.int .i64 fl)∧w9.cell? ⟨b3,9,none⟩=some (.int .i64 spare):=⟨q1,q2,q3,q4,q5⟩;have HCc:=hid (HC.o _ HB4.o.drew (HA4.o.keep (Below.refl _ _).drew));clear q1 q2 q3 q4 q5;refine wp_region_held_drew (S:=(fun W=>W.cell? ⟨p,2,none⟩=some (.pointer (some ⟨x,0,none⟩))∧W.cell? ⟨b3,0,none⟩=some (.int .i64 cl)∧W.cell? ⟨b3+1+1,1,none⟩=some (.string s)∧W.cell? ⟨b3+1+1,3,none⟩=some (.int .i64 fl)∧W.cell? ⟨b3,9,none⟩=some (.int .i64 spare))) (by kernel_rfl) ?_ (fun hHeld=> ?_)
 ·exact hs0
 refine tk 0 ?_;refine tk 1 ?_;refine tk 2 ?_;refine tk 3 ?_;refine tk 4 ?_;refine tk 5 ?_;refine tk 6 ?_;refine tk 7 ?_;refine tk 8 ?_;refine tk 9 ?_;refine tk 10 ?_;refine tk 11 ?_;refine tk 12 ?_;refine tk 13 ?_;refine rd 14 (fun K hK=> ?_);go_simp
 refine HCc.o.mono ?_;rintro e w5 ⟨i,rr,rfl,hq5,ha5,hp5⟩;have HQ5:=hid hq5;have HA5:=hid ha5;have HP5:=hid hp5;have hs5:w5.cell? ⟨p,2,none⟩=some (.pointer (some ⟨x,0,none⟩))∧w5.cell? ⟨b3,0,none⟩=some (.int .i64 cl)∧w5.cell? ⟨b3+1+1,1,none⟩=some (.string s)∧w5.cell? ⟨b3+1+1,3,none⟩=some (.int .i64 fl)∧w5.cell? ⟨b3,9,none⟩=some (.int .i64 spare):=(by rw[Hb3.o];exact⟨hp5,cell_of_row w5 _ 0 _ _ _ ha5.c3,cell_of_row w5 _ 1 _ _ _ ha5.c7,cell_of_row w5 _ 3 _ _ _ ha5.c7,cell_of_row w5 _ 9 _ _ _ ha5.c3⟩);have z8:w5.cell? ⟨b3+1+1+1,0,none⟩=some (.int .i64 0):=(by rw[Hb3.o];exact cell_of_row w5 _ 0 _ _ _ ha5.c8);have f8:w5.frozen? ⟨b3+1+1+1,0,none⟩=false:=(by rw[Hb3.o];exact frozen_of_row w5 _ 0 _ _ ha5.c8);clear hq5 ha5 hp5;try dsimp only
 refine hK.o _ _ hs5 (fun hHeld=> ?_);clear hK K;try simp only[put]
 refine tk 15 ?_;refine tk 16 ?_;refine tk 17 ?_;refine tk 18 ?_;refine tk 19 ?_;refine rd 20 (fun K hK=> ?_);go_simp
 have hO6:Only (fun k=>k=b3+1+1+1) w5 (w5.setCell ⟨b3+1+1+1,0,none⟩ (.int .i64 rr)):=only_setCell w5 _ _ rfl;have h86:(w5.setCell ⟨b3+1+1+1,0,none⟩ (.int .i64 rr)).heap[b3+1+1+1]? =some (.cells #[.int .i64 rr,.int .i64 0,.string ⟨#[]⟩,.slice none 0 0,.int .i64 0,.int .i64 0,.int .i64 0] 47 (0,0)):=(by have:=HA5.o.c8;rw[←Hb3.o]at this;exact heap_setCell_same w5 _ 0 _ _ _ this);generalize (World.setCell w5 _ _)=w6 at hO6 h86⊢;have HO6:=hid hO6;have H86:=hid h86;have h46:w6.heap[b3+1]? =some (.cells zRepC 47 (0,0)):=(by have:=HA5.o.c4;rw[←Hb3.o]at this;exact(hO6.block _ (lt_get this) (by omega)).trans this);have H46:=hid h46
 have hs6:w6.cell? ⟨p,2,none⟩=some (.pointer (some ⟨x,0,none⟩))∧w6.cell? ⟨b3,0,none⟩=some (.int .i64 cl)∧w6.cell? ⟨b3+1+1,1,none⟩=some (.string s)∧w6.cell? ⟨b3+1+1,3,none⟩=some (.int .i64 fl)∧w6.cell? ⟨b3,9,none⟩=some (.int .i64 spare):=(by have h3:=HA5.o.c3;have h7:=HA5.o.c7;have hp:=HP5.o;have hpl:=HPl.o;have hsz:=HSz.o;rw[←Hb3.o]at h3 h7 hpl;have h36:=(hO6.block _ (lt_get h3) (by omega)).trans h3;have h76:=(hO6.block _ (lt_get h7) (by omega)).trans h7;exact⟨((hO6.cell (p:=⟨p,2,none⟩) (Nat.lt_trans hpl (lt_get h3)) (by show ¬p=b3+1+1+1;omega)).trans hp),cell_of_row w6 _ 0 _ _ _ h36,cell_of_row w6 _ 1 _ _ _ h76,cell_of_row w6 _ 3 _ _ _ h76,cell_of_row w6 _ 9 _ _ _ h36⟩);clear hO6 h86 h46 z8 f8;try dsimp only
 refine hK.o _ _ hs6 (fun hHeld=> ?_);clear hK K;try simp only[put]
 refine dn ?_
 (try simp only[Exit.then])
 have g0:w6.cell? ⟨b3+1+1+1,0,none⟩=some (.int .i64 rr):=cell_of_row w6 _ 0 _ _ _ H86.o;by_cases hr0:rr=0
 ·subst hr0;have g1:w6.cell? ⟨b3+1+1+1,1,none⟩=some (.int .i64 0):=cell_of_row w6 _ 1 _ _ _ H86.o;have g2:w6.frozen? ⟨b3+1+1+1,1,none⟩=false:=frozen_of_row w6 _ 1 _ _ H86.o;obtain⟨w8,hw8⟩:=nm (w6.setCell ⟨b3+1+1+1,1,none⟩ (.int .i64 (f:Nat)));have hO8:Only (fun k=>k=b3+1+1+1) w6 w8:=by rw[hw8];exact only_setCell w6 _ _ rfl
  have h88:w8.heap[b3+1+1+1]? =some (.cells #[.int .i64 0,.int .i64 (f:Nat),.string ⟨#[]⟩,.slice none 0 0,.int .i64 0,.int .i64 0,.int .i64 0] 47 (0,0)):=by rw[hw8];exact heap_setCell_same w6 _ 1 _ _ _ H86.o
  have h48:w8.heap[b3+1]? =some (.cells zRepC 47 (0,0)):=(hO8.block _ (lt_get H46.o) (by omega)).trans H46.o;have HO8:=hid (HO6.o.trans hO8 fun _ _ e=>e);have H88:=hid h88;have H48:=hid h48;have HW8:=hid hw8.symm;clear hO8 h88 h48 hw8;go_upto_region 29 with fail
  rw[HW8.o];clear g0 g1 g2;go_wp2_with(first|(refine wpList_load_row rfl 47 _ rfl (b3+1+1+1) rfl 47 _ (0,0) _ H88.o underlying47 rfl infoRep ?_)|(refine wpList_store_mid rfl 47 _ _ rfl (b3+1) 0 #[.int .i64 0,.int .i64 (f:Nat),.string ⟨#[]⟩,.slice none 0 0,.int .i64 0,.int .i64 0,.int .i64 0] rfl rfl (there_at H48.o rfl) sizeRep (rep_one _ _ _ _ _ _ _ _ _) ?_;obtain⟨hbw,hbg⟩:=whole_at H48.o (vs:=[.int .i64 0,.int .i64 (f:Nat),.string ⟨#[]⟩,.slice none 0 0,.int .i64 0,.int .i64 0,.int .i64 0]) (B:=b3+1) rfl (Nat.le_refl _);have hO7:Only (fun k=>k=b3+1) w8 (w8.setCells (b3+1) 0 [.int .i64 0,.int .i64 (f:Nat),.string ⟨#[]⟩,.slice none 0 0,.int .i64 0,.int .i64 0,.int .i64 0]):=grown_only (setCells_grownM _ _ _ _) fun q e=>(Option.some.inj e).symm;generalize (World.setCells _ _ _ _)=w7 at hbw hbg hO7⊢))
  refine bodyPost_ret (results_row_tmp2 rfl _ _ (b3+1) 47 _ (0,0) _ rfl hbg underlying47 rfl infoRep) rfl ?_;rw[Hb3.o]at hO7;have hO6:=HO8.o;rw[Hb3.o]at hO6;exact⟨Pz.fdR f,i,none,0,w5,⟨rfl,rfl,0,HQ5.o,rfl⟩,(hO6.mono fun k _ e=>Or.inr e).trans (hO7.mono fun k _ e=>Or.inl e) (fun _ _ e=>e),rfl⟩
 ·have hrb:(rr==0)=false:=by simp[hr0]
  go_upto_region 29 with fail
  go_wp2_with(first|(refine wpList_load_row rfl 47 _ rfl (b3+1+1+1) rfl 47 _ (0,0) _ H86.o underlying47 rfl infoRep ?_)|(refine wpList_store_mid rfl 47 _ _ rfl (b3+1) 0 #[.int .i64 rr,.int .i64 0,.string ⟨#[]⟩,.slice none 0 0,.int .i64 0,.int .i64 0,.int .i64 0] rfl rfl (there_at H46.o rfl) sizeRep (rep_one _ _ _ _ _ _ _ _ _) ?_;obtain⟨hbw,hbg⟩:=whole_at H46.o (vs:=[.int .i64 rr,.int .i64 0,.string ⟨#[]⟩,.slice none 0 0,.int .i64 0,.int .i64 0,.int .i64 0]) (B:=b3+1) rfl (Nat.le_refl _);have hO7:Only (fun k=>k=b3+1) w6 (w6.setCells (b3+1) 0 [.int .i64 rr,.int .i64 0,.string ⟨#[]⟩,.slice none 0 0,.int .i64 0,.int .i64 0,.int .i64 0]):=grown_only (setCells_grownM _ _ _ _) fun q e=>(Option.some.inj e).symm;generalize (World.setCells _ _ _ _)=w7 at hbw hbg hO7⊢))
  refine bodyPost_ret (results_row_tmp2 rfl _ _ (b3+1) 47 _ (0,0) _ rfl hbg underlying47 rfl infoRep) rfl ?_;rw[Hb3.o]at hO7;have hO6:=HO6.o;rw[Hb3.o]at hO6;exact⟨Pz.er rr,i,none,0,w5,⟨rfl,rfl,rr,HQ5.o,(if_neg hr0).symm⟩,(hO6.mono fun k _ e=>Or.inr e).trans (hO7.mono fun k _ e=>Or.inl e) (fun _ _ e=>e),rfl⟩
end
end Go.Proofs.YtckoobkjpndgnaaGreatDoor
