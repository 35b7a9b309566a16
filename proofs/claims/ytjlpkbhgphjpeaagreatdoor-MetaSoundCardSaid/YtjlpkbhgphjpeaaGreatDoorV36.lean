import Derived.Test.YtjlpkbhgphjpeaaGreatDoorV16
set_option linter.all false
set_option maxHeartbeats 8000000
set_option maxRecDepth 100000
namespace Go.Proofs.YtjlpkbhgphjpeaaGreatDoor
open Go.RowKit
open Lib(hid)
open Go.Proofs.Tryz
open Go.Shelf
attribute [local go_sem] Oper.semAt_some
def qG(w:World)(ab:Nat)(M:Gd.Vol)(i:Nat):Prop:=∃C:Array Value,w.heap[ab]? =some (.cells C 95 (0,0))∧C.size=495∧∀j:Nat,1≤j→j≤i→∀(q:Nat) (v:Value),(zf (M.ino j)).toList[q]? =some v→C.toList[j*15+q]? =some v
theorem qG.keep{w w':World}{ab i:Nat}{M:Gd.Vol}(h:qG w ab M i)(hb:w'.heap[ab]? =w.heap[ab]?):qG w' ab M i:=by
 obtain⟨C,h1,h2,h3⟩:=h;exact⟨C,hb.trans h1,h2,h3⟩
theorem qG.lt{w:World}{ab i:Nat}{M:Gd.Vol}(h:qG w ab M i):ab<w.heap.size:=by
 obtain⟨C,h1,h2,h3⟩:=h;exact za h1
theorem qG.there{w:World}{ab i:Nat}{M:Gd.Vol}(h:qG w ab M i){j:Nat}(hj:j≤32):w.there ab (j*15) 15:=by
 obtain⟨C,h1,h2,h3⟩:=h;exact jC h1 (by omega)
theorem qG.range{w:World}{ab i:Nat}{M:Gd.Vol}(h:qG w ab M i){j:Nat}(j1:1≤j)(ji:j≤i):w.rangeAt ab (j*15) (zf (M.ino j)).toList:=by
 obtain⟨C,h1,h2,h3⟩:=h;intro q v hv;rw[cell_of_row w ab (j*15+q) _ _ _ h1,←Array.getElem?_toList];exact h3 j j1 ji q v hv
theorem qG.put{w:World}{ab i:Nat}{M:Gd.Vol}(h:qG w ab M i)(hi:i+1≤32)(hsz:∀j,1≤j→j≤32→(zf (M.ino j)).size=15):qG (w.setCells ab ((i+1)*15) (zf (M.ino (i+1))).toList) ab M (i+1):=by
 obtain⟨C,h1,h2,h3⟩:=h;have hl:(zf (M.ino (i+1))).toList.length=15:=by rw[Array.length_toList];exact hsz _ (by omega) hi
 have hp:=jQ (zf (M.ino (i+1))).toList ((i+1)*15) C (by rw[hl];omega);have hCl:C.toList.length=495:=by rw[Array.length_toList];exact h2
 refine⟨_,qp ab _ _ _ _ _ h1,?_,fun j j1 j2 q v hq=> ?_⟩
 ·rw[←Array.length_toList,hp,List.length_append,List.length_append,List.length_take,List.length_drop,hl,hCl];omega
 ·have hql:=(List.getElem?_eq_some_iff.1 hq).1;rw[hp];by_cases e:j=i+1
  ·subst e;rw[List.append_assoc,List.getElem?_append_right (by rw[List.length_take];omega),List.length_take,hCl,show(i+1)*15+q-min ((i+1)*15) 495=q by omega,List.getElem?_append_left hql];exact hq
  ·have hq15:q<15:=by
    rw[Array.length_toList,hsz j j1 (by omega)]at hql;exact hql
   rw[List.append_assoc,List.getElem?_append_left (by rw[List.length_take,hCl];omega),List.getElem?_take,if_pos (by omega)];exact h3 j j1 (by omega) q v hq
def xU(M:Gd.Vol)(T:Nat→Gd.Tab)(i:Nat):List Int:=(List.range 33).map fun t=>((Gd.linkD M T t i:Nat):Int)
structure SdI(w:World)(M:Gd.Vol)(ub lb ab:Nat)(m:List UInt8)(L:List Int)(i:Nat)(wr:World):Prop where
 u:wr.heap[ub]? =some (.cells (ze m) 35 (0,0))
 l:wr.heap[lb]? =some (.cells (zY L).toArray 94 (0,0))
 a:qG wr ab M i
 b:Below w.heap.size w wr
theorem SdI.below{w wr w':World}{M:Gd.Vol}{ub lb ab i:Nat}{m:List UInt8}{L:List Int}(h:SdI w M ub lb ab m L i wr)(hb:Below wr.heap.size wr w'):SdI w M ub lb ab m L i w':=
 ⟨(hb.block ub (za h.u)).trans h.u,(hb.block lb (za h.l)).trans h.l,h.a.keep (hb.block ab h.a.lt),h.b.trans (hb.mono h.b.size)⟩
theorem jZ(w:World)(g o:Nat)(vs:List Value):(∀k,k<w.heap.size→k≠g→(w.setCells g o vs).heap[k]? =w.heap[k]?)∧∀B,B≤g→B≤w.heap.size→Below B w (w.setCells g o vs):=
 ⟨fun k hk hne=>(zw (F:=fun j=>j=g) (zo g vs o w) fun j e=>(Option.some.inj e).symm).block k hk hne,fun B hB hw=>(Below.refl B w).grown (zo g vs o w) hw (fun j hj=>by cases hj;exact hB)⟩
theorem SdI.put{w wr:World}{M:Gd.Vol}{ub lb ab i:Nat}{m:List UInt8}{L:List Int}(h:SdI w M ub lb ab m L i wr)(ho:w.heap.size≤ub∧ub<lb∧lb<ab)(hi:i+1≤32)(hsz:∀j,1≤j→j≤32→(zf (M.ino j)).size=15):SdI w M ub lb ab m L (i+1) (wr.setCells ab ((i+1)*15) (zf (M.ino (i+1))).toList):=by
 obtain⟨h1,h2⟩:=jZ wr ab ((i+1)*15) (zf (M.ino (i+1))).toList;exact⟨(h1 ub (za h.u) (by omega)).trans h.u,(h1 lb (za h.l) (by omega)).trans h.l,h.a.put hi hsz,h.b.trans (h2 _ (by omega) h.b.size)⟩
theorem SdI.link{w wr:World}{M:Gd.Vol}{ub lb ab i:Nat}{m:List UInt8}{L:List Int}(h:SdI w M ub lb ab m L i wr)(ho:w.heap.size≤ub∧ub<lb∧lb<ab)(k:Nat)(n:Int):SdI w M ub lb ab m (L.set k n) i (wr.setCell ⟨lb,k,none⟩ (.int .i64 n)):=by
 have hO:zu (fun j=>j=lb) wr (wr.setCell ⟨lb,k,none⟩ (.int .i64 n)):=zw (z4 lb k wr (.int .i64 n)) fun j e=>(Option.some.inj e).symm;refine⟨(hO.block ub (za h.u) (by omega)).trans h.u,?_,h.a.keep (hO.block ab h.a.lt (by omega)),h.b.trans ((Below.refl _ wr).grown (z4 lb k wr (.int .i64 n)) h.b.size (fun j hj=>by cases hj;omega))⟩;rw[Go.heap_setCell_same wr lb k _ _ _ h.l];congr 2
 unfold zY;rw[List.map_set];simp
theorem SdI.map{w wr:World}{M:Gd.Vol}{ub lb ab i:Nat}{m m':List UInt8}{L:List Int}(h:SdI w M ub lb ab m L i wr)(ho:w.heap.size≤ub∧ub<lb∧lb<ab)(hm:m.length=16)(hm':m'.length=16):SdI w M ub lb ab m' L i (wr.setCells ub 0 (ze m').toList):=by
 obtain⟨h1,h2⟩:=jZ wr ub 0 (ze m').toList;obtain⟨_,h4⟩:=zC h.u (vs:=(ze m').toList) (B:=ub) (by rw[Array.length_toList,z6 hm,z6 hm']) (Nat.le_refl _);exact⟨h4,(h1 lb (za h.l) (by omega)).trans h.l,h.a.keep (h1 ab h.a.lt (by omega)),h.b.trans (h2 _ ho.1 h.b.size)⟩
def vI(M:Gd.Vol)(T:Nat→Gd.Tab)(D:Gd.Tab)(i j t:Nat):Int:=((Gd.linkD M T t i+Gd.linkT D j t:Nat):Int)
def xN(M:Gd.Vol)(T:Nat→Gd.Tab)(D:Gd.Tab)(i j:Nat):List Int:=(List.range 33).map fun t=>vI M T D i j t
theorem XS(M:Gd.Vol)(T:Nat→Gd.Tab)(D:Gd.Tab)(i:Nat):xN M T D i 0=xU M T i:=rfl
theorem xy(M:Gd.Vol)(T:Nat→Gd.Tab)(D:Gd.Tab)(i j:Nat){q:Nat}(hq:q<33):(xN M T D i j)[q]? =some (vI M T D i j q):=by
 unfold xN;rw[List.getElem?_map,List.getElem?_range hq];rfl
theorem XT(M:Gd.Vol)(T:Nat→Gd.Tab){D:Gd.Tab}(i:Nat)(hD:D.length=16){j:Nat}(hj:j<16):xN M T D i (j+1)=if(Gd.entAt D j).s=[]then xN M T D i j else(xN M T D i j).set (Gd.entAt D j).i (vI M T D i j (Gd.entAt D j).i+1):=by
 have hl:∀k,(xN M T D i k).length=33:=fun k=>by
  unfold xN;rw[List.length_map,List.length_range]
 apply List.ext_getElem?
 intro q;by_cases hq:q<33
 ·rw[xy M T D i (j+1) hq];unfold vI;rw[Gd.linkT_step hD hj];by_cases hs:(Gd.entAt D j).s=[]
  ·rw[if_pos hs,xy M T D i j hq,if_neg (by simp[hs])];rfl
  ·rw[if_neg hs,List.getElem?_set];by_cases e:(Gd.entAt D j).i=q
   ·rw[if_pos ⟨hs,e⟩,if_pos e,if_pos (by rw[hl];omega),e];congr 1
   ·rw[if_neg (fun h=>e h.2),if_neg e,xy M T D i j hq];rfl
 ·rw[List.getElem?_eq_none (by rw[hl];omega)];split
  ·rw[List.getElem?_eq_none (by rw[hl];omega)]
  ·rw[List.getElem?_eq_none (by rw[List.length_set,hl];omega)]
theorem Y4(M:Gd.Vol)(T:Nat→Gd.Tab){D:Gd.Tab}{i:Nat}(hk:(M.ino (i+1)).k=2)(hD:D=T (i+1)):xN M T D i 16=xU M T (i+1):=by
 unfold xN xU vI;congr 1
 funext t
 show((Gd.linkD M T t i+Gd.linkT D 16 t:Nat):Int)=((Gd.linkD M T t i+if(M.ino (i+1)).k=2 then Gd.linkT (T (i+1)) 16 t else 0:Nat):Int)
 rw[if_pos hk,hD]
theorem Y5(M:Gd.Vol)(T:Nat→Gd.Tab){i:Nat}(hk:(M.ino (i+1)).k≠2):xU M T (i+1)=xU M T i:=by
 unfold xU;congr 1
 funext t
 show((Gd.linkD M T t i+if(M.ino (i+1)).k=2 then Gd.linkT (T (i+1)) 16 t else 0:Nat):Int)=_
 rw[if_neg hk];rfl
theorem VW(M:Gd.Vol)(T:Nat→Gd.Tab)(D:Gd.Tab)(i j q:Nat)(hi:i≤32)(hj:j<16):0≤vI M T D i j q∧vI M T D i j q<100000:=by
 unfold vI;have:=Gd.linkD_le M T q i
 have:=Gd.linkT_le D j q
 omega
def Zv:Array Value:=#[.int .u8 0,.int .u8 0,.int .u8 0,.int .u8 0,.int .u8 0,.int .u8 0,.int .u8 0,.int .u8 0,.int .u8 0,.int .u8 0,.int .u8 0,.int .u8 0,.int .u8 0,.int .u8 0,.int .u8 0,.int .u8 0]
def Qv:Array Value:=#[.int .i64 0,.int .i64 0,.int .i64 0,.int .i64 0,.int .i64 0,.int .i64 0,.int .i64 0,.int .i64 0,.int .i64 0,.int .i64 0,.int .i64 0,.int .i64 0,.int .i64 0,.int .i64 0,.int .i64 0,.int .i64 0,.int .i64 0,.int .i64 0,.int .i64 0,.int .i64 0,.int .i64 0,.int .i64 0,.int .i64 0,.int .i64 0,.int .i64 0,.int .i64 0,.int .i64 0,.int .i64 0,.int .i64 0,.int .i64 0,.int .i64 0,.int .i64 0,.int .i64 0]
theorem Yl:Zv=ze (Gd.takesL []):=by rfl
theorem Ym(M:Gd.Vol)(T:Nat→Gd.Tab):Qv=(zY (xU M T 0)).toArray:=by rfl
theorem allSize:zeroCells95.size=495:=by kernel_rfl
theorem Q5[zg]{x t c K p:Nat}{S:List UInt8}{M:Gd.Vol}{T:Nat→Gd.Tab}{F:Nat→Prop}(w:World)(h:zy x t S M c K w F)(hp:w.cell? ⟨p,2,none⟩=some (.pointer (some ⟨x,0,none⟩)))(hpl:p<w.heap.size)(hS:Gd.Snd M T):
 Calls prog 12 #[.pointer (some ⟨p,0,none⟩)] w fun e w'=>e= .returned (.bool true)∧Below w.heap.size w w':=by
 have HSz:Hid (∀j:Nat,1≤j→j≤32→(zf (M.ino j)).size=15∧(M.ino j).Shape∧Gd.mayI (M.ino j)=true):=hid fun j h1 h2=>by
  obtain⟨P,h3,h4⟩:=h;exact⟨jO h4 h1 h2,h4.shape j h1 h2,h4.may j h1 h2⟩
 have HIn:Hid (∀i:Nat,1≤i→i≤32→∀W,Below w.heap.size w W→Calls prog 17 #[.pointer (some ⟨x,0,none⟩),.int .i64 (i:Int)] W fun e W'=>e= .returned (.tuple #[zv (M.ino i),.int .i64 0])∧Below W.heap.size W W'):=hid fun i h1 h2 W hW=>by
  have:=zZ (i:Int) W (h.below hW) (by omega) (by omega)
  rw[Int.toNat_natCast]at this;exact this
 have HTb:Hid (∀d:Nat,1≤d→d≤32→(M.ino d).k=2→∀W,Below w.heap.size w W→Calls prog 28 #[.pointer (some ⟨x,0,none⟩),.int .i64 (d:Int)] W fun e W'=>e= .returned (.tuple #[zW (T d),.int .i64 0])∧Below W.heap.size W W'):=hid fun d h1 h2 h3 W hW=>jw W (h.below hW) (hS.tree.dir d h1 h2 h3);have HMp:Hid (∀W,Below w.heap.size w W→Calls prog 15 #[.pointer (some ⟨x,0,none⟩)] W fun e W'=>e= .returned (jK M.map)∧Below W.heap.size W W'):=hid fun W hW=>va W (h.below hW);have HS:=hid hS;have HP:Hid (∀W,Below w.heap.size w W→W.cell? ⟨p,2,none⟩=some (.pointer (some ⟨x,0,none⟩))):=hid fun W hW=>(hW.cell (p:=⟨p,2,none⟩) hpl).trans hp;obtain⟨w3,hw3⟩:=nm (((w.alloc (.cells Zv 35)).alloc (.cells Qv 94)).alloc (.cells zeroCells95 95));obtain⟨ub,hub⟩:=nm w.heap.size;obtain⟨lb,hlb⟩:=nm (w.heap.size+1)
 obtain⟨ab,hab⟩:=nm (w.heap.size+1+1);have n1:(w.alloc (.cells Zv 35)).heap.size=w.heap.size+1:=by simp
 have n2:((w.alloc (.cells Zv 35)).alloc (.cells Qv 94)).heap.size=w.heap.size+1+1:=by simp
 have hB3:Below w.heap.size w w3:=by rw[hw3];exact(((Below.refl _ _).alloc (Nat.le_refl _) _).alloc (by rw[n1];omega) _).alloc (by rw[n2];omega) _
 have hu3:w3.heap[ub]? =some (.cells (ze (Gd.takesL (Gd.blksD M 0))) 35 (0,0)):=by
  rw[hw3,hub,Below.heap_alloc _ _ _ (by rw[n2];omega),Below.heap_alloc _ _ _ (by rw[n1];omega),Yl];exact heap_alloc_new _ _
 have hl3:w3.heap[lb]? =some (.cells (zY (xU M T 0)).toArray 94 (0,0)):=by
  rw[hw3,hlb,Below.heap_alloc _ _ _ (by rw[n2];omega),←n1,Ym M T];exact heap_alloc_new _ _
 have ha3:qG w3 ab M 0:=by
  refine⟨zeroCells95,?_,allSize,fun j j1 j2=>by omega⟩;rw[hw3,hab,←n2];exact heap_alloc_new _ _
 have HI3:Hid (SdI w M ub lb ab (Gd.takesL (Gd.blksD M 0)) (xU M T 0) 0 w3):=hid ⟨hu3,hl3,ha3,hB3⟩;have HU0:=hid hub.symm;have HL0:=hid hlb.symm;have HA0:=hid hab.symm;have HOr:Hid (w.heap.size≤ub∧ub<lb∧lb<ab):=hid (by omega);have HW3:=hid hw3.symm;have HSa:Hid (∀j:Nat,1≤j→j≤32→(zf (M.ino j)).size=15):=hid fun j h1 h2=>(HSz.o j h1 h2).1;unfold Zv Qv at HW3;clear h hp hpl hS hw3 hub hlb hab n1 n2 hB3 hu3 hl3 ha3;go_enter func12,ntmps12;go_upto_region 4 with fail
 rw[HW3.o,HA0.o,HL0.o,HU0.o];go_upto_region 5 with fail
 go_loopw[6] (fun z wr=>∃i:Nat,z= .int .i64 ((i:Int)+1)∧i≤32∧Hid (SdI w M ub lb ab (Gd.takesL (Gd.blksD M i)) (xU M T i) i wr)) (fun z _=>34-(intOf z).toNat)
 case atStart=>exact⟨0,rfl,by omega,HI3⟩
 case round=>
  obtain⟨i,rfl,hi32,HI⟩:=hrel;by_cases hlt:i<32
  ·have hi1:(i:Int)+1≤32:=by omega
   have HIi:=HIn.o (i+1) (by omega) (by omega) wr HI.o.b;have HTi:=hid (HTb.o (i+1) (by omega) (by omega));rw[show((i+1:Nat):Int)=(i:Int)+1 by omega]at HIi HTi;have HIi:=hid HIi;have hsz:=(HSz.o (i+1) (by omega) (by omega)).1;have HSm:=hid (HSz.o (i+1) (by omega) (by omega)).2;obtain⟨y,hy⟩:=nm (M.ino (i+1));rw[←hy]at HIi hsz HSm;have HSy:=hid hsz;have Hy:=hid hy;unfold zv at HIi;have hc0:=HP.o wr HI.o.b;clear hy hsz hlt
   go_upto_region 8 with(first|(go_at_call 17;refine HIi.o.mono ?_;rintro e w2 ⟨rfl,hb2⟩;have HI2:=hid (HI.o.below hb2);clear hb2)|(rw[←zA];refine wpList_store_mid rfl 48 _ _ rfl w2.heap.size 0 (zf y) rfl rfl (zd (heap_alloc_new _ _) (by rw[zc,HSy.o])) (by rw[HSy.o];exact sizeIno) (zr _) ?_;obtain⟨hbw,hbg⟩:=zi w2 zU 48 (zf y).toList (by rw[zc,Array.length_toList,HSy.o]);generalize (World.setCells _ _ _ _)=w3 at hbw hbg⊢;have HX3:Hid (w3.heap[w2.heap.size]? =some (.cells (zf y) 48 (0,0))):=hid hbg;have HI3':=hid (HI2.o.below hbw);clear hbw hbg))
   obtain⟨xb,hxb⟩:=nm w2.heap.size;have HXb:Hid (ab<xb):=hid (by rw[hxb];exact HI2.o.a.lt);rw[←hxb]at HX3⊢;clear hxb HI HI2 HIi hc0;go_upto_region 10 with fail
   have hi33:(i:Int)+1<33:=by omega
   have hi0:(0:Int)≤(i:Int)+1:=by omega
   go_upto_region 11 with(first|(refine wpList_load_row rfl 48 _ rfl xb rfl 48 (zf y) (0,0) _ HX3.o underlying48 rfl (by rw[HSy.o];exact sizeIno) ?_)|(refine wpList_store_mid rfl 48 _ _ rfl ab ((i+1)*15) (zf y) rfl rfl (by rw[HSy.o];exact HI3'.o.a.there (by omega)) (by rw[HSy.o];exact sizeIno) (zr _) ?_;have hi4:=HI3'.o.put HOr.o (by omega) HSa.o;rw[←Hy.o]at hi4;have hx4:=((jZ w3 ab ((i+1)*15) (zf y).toList).1 xb (za HX3.o) (by have:=HXb.o;omega)).trans HX3.o;generalize (World.setCells _ _ _ _)=w4 at hi4 hx4⊢;have HI4:=hid hi4;have HX4:Hid (zp w4 xb y):=hid ⟨hx4,HSm.o.1⟩;clear hi4 hx4))
   have hm4:=congrArg Gd.takesL (show Gd.blksD M i=Gd.blksD M i++y.B.take 0 by simp);rw[hm4]at HI4;clear hm4 HI3' HX3;go_upto_region 12 with fail
   go_loopw[9] (fun z wr=>∃j:Nat,z= .int .i64 j∧j≤4∧Hid (SdI w M ub lb ab (Gd.takesL (Gd.blksD M i++y.B.take j)) (xU M T i) (i+1) wr)∧Hid (zp wr xb y)) (fun z _=>4-(intOf z).toNat)
   case atStart=>exact⟨0,rfl,by omega,HI4,HX4⟩
   case round=>
    obtain⟨j,rfl,hj4,HI,HX⟩:=hrel;by_cases hjl:j<4
    ·obtain⟨n,hn⟩:∃n,y.B[j]? =some n:=⟨_,List.getElem?_eq_getElem (by rw[HSm.o.1.1];exact hjl)⟩;have hj1:(j:Int)<4:=by omega
     have c14:=(HX.o.cB hn).1;obtain⟨m,hm⟩:=nm (Gd.takesL (Gd.blksD M i++y.B.take j));rw[←hm]at HI;have hml:m.length=16:=by rw[hm];exact Gd.takesL_len _
     have HSq:=hid (z6 hml);have HUn:Hid (n≠0→Gd.usedI m n=false):=hid fun h0=>by
      have:=HS.o.sound.fresh (i:=i) (k:=j) (n:=n) (by omega) (by rw[←Hy.o];exact hn) h0
      rw[←Hy.o,←hm]at this;exact this
     have HNx:Hid (Gd.takesL (Gd.blksD M i++y.B.take (j+1))=Gd.takeI m n):=hid (by rw[hm,←Gd.takesL_snoc,List.append_assoc,List.take_add_one,hn];rfl);have HN:=hid hn;have Hml:=hid hml;clear hn hm hml hjl;go_upto_region 14 with fail
     have Hx3:=hid c14;go_cut[50] from 38 to 50 (fun z wx=>z= .bool false∧Hid (SdI w M ub lb ab m (xU M T i) (i+1) wx)∧Hid (zp wx xb y))
     case first=>
      by_cases h0:n=0
      ·subst h0;have hs0:wr.drew.cell? ⟨xb,3+j,none⟩=some (.int .i64 0):=c14;have HId:=hid (HI.o.below (Below.refl _ _).drew);have HXd:Hid (zp wr.drew xb y):=hid (HX.o.keep (Below.refl _ _).drew);refine wp_region_held_drew (S:=(fun W=>W.cell? ⟨xb,3+j,none⟩=some (.int .i64 0))) (by kernel_rfl) ?_ (fun hH=> ?_)
       ·exact hs0
       refine tk 0 ?_;refine tk 1 ?_;refine tk 2 ?_;refine tk 3 ?_;refine tk 4 ?_;refine tk 5 ?_;refine sk 6 ?_;refine sk 7 ?_;refine sk 8 ?_;refine sk 9 ?_;refine sk 10 ?_;refine sk 11 ?_;refine tk 12 ?_;refine dn ?_;(try simp only[Exit.then])
       go_wp2;go_meet
       exact⟨rfl,HId,HXd⟩
      ·have hu:=HUn.o h0;have hnb:(n !=0)=true:=by simpa using h0
       have HUs:=hid (Zy m Hml.o n);rw[hu]at HUs;unfold jK at HUs;have HId:=hid (HI.o.below (Below.refl _ _).drew);have HXd:Hid (zp wr.drew xb y):=hid (HX.o.keep (Below.refl _ _).drew);have hs0:wr.drew.cell? ⟨xb,3+j,none⟩=some (.int .i64 n)∧wr.drew.heap[ub]? =some (.cells (ze m) 35 (0,0)):=⟨c14,HI.o.u⟩;refine wp_region_held_drew (S:=(fun W=>W.cell? ⟨xb,3+j,none⟩=some (.int .i64 n)∧W.heap[ub]? =some (.cells (ze m) 35 (0,0)))) (by kernel_rfl) ?_ (fun hH=> ?_)
       ·exact hs0
       refine tk 0 ?_;refine tk 1 ?_;refine tk 2 ?_;refine tk 3 ?_;refine tk 4 ?_;refine tk 5 ?_;refine th (v:= ?_) 6 ?_ ?_;rotate_left
       ·intro w hSw;refine qH 35 (.tmp 3) ?_ ub ?_ 35 (ze m) (0,0) _ hSw.2 underlying35 ?_ (by rw[HSq.o];exact sizeMap);all_goals rfl
       try simp only[put]
       refine tk 7 ?_;refine tk 8 ?_;refine tk 9 ?_;refine tk 10 ?_;refine rd 11 (fun K hK=> ?_);go_simp
       refine(HUs.o _).mono ?_
       rintro e wq ⟨rfl,hbq⟩;have HIq:=hid (HId.o.below hbq);have HXq:=hid (HXd.o.keep hbq);have hsq:wq.cell? ⟨xb,3+j,none⟩=some (.int .i64 n)∧wq.heap[ub]? =some (.cells (ze m) 35 (0,0)):=⟨(HXq.o.cB HN.o).1,HIq.o.u⟩;clear hbq;dsimp only;refine hK.o _ _ hsq (fun hH=> ?_);clear hK K;try simp only[put]
       refine tk 12 ?_;refine dn ?_;(try simp only[Exit.then])
       go_wp2;go_meet
       exact⟨rfl,HIq,HXq⟩
     case rest=>
     obtain⟨rfl,HIc,HXc⟩:=hcut;obtain⟨wy,rfl⟩:=nm wc;go_upto_region 16 with fail
     have HTk:=hid (ZC m Hml.o n);have htl:(Gd.takeI m n).length=16:=by rw[Gd.takeI_len];exact Hml.o
     have HSt:=hid (z6 htl);have Htl:=hid htl;obtain⟨m2,hm2⟩:=nm (Gd.takeI m n);rw[←hm2]at HTk HSt HNx Htl;unfold jK at HTk;have HId:=hid (HIc.o.below (Below.refl _ _).drew);have HXd:Hid (zp wy.drew xb y):=hid (HXc.o.keep (Below.refl _ _).drew);have hs0:wy.drew.cell? ⟨xb,3+j,none⟩=some (.int .i64 n):=(HXd.o.cB HN.o).1;clear hm2 htl c14;refine wp_region_held_drew (S:=(fun W=>W.cell? ⟨xb,3+j,none⟩=some (.int .i64 n))) (by kernel_rfl) ?_ (fun hH=> ?_)
     ·exact hs0
     refine tk 1 ?_;refine tk 2 ?_;refine tk 3 ?_;refine tk 4 ?_;refine rd 0 (fun K hK=> ?_);refine wp_load_row 35 _ rfl ub rfl 35 (ze m) (0,0) _ HId.o.u underlying35 rfl (by rw[HSq.o];exact sizeMap) ?_;try dsimp only
     refine hK.o _ _ hs0 (fun hH=> ?_);clear hK K;try simp only[put]
     refine rd 5 (fun K hK=> ?_);go_simp
     refine(HTk.o _).mono ?_
     rintro e wq ⟨rfl,hbq⟩;have HIq:=hid (HId.o.below hbq);have HXq:=hid (HXd.o.keep hbq);have hsq:wq.cell? ⟨xb,3+j,none⟩=some (.int .i64 n):=(HXq.o.cB HN.o).1;clear hbq;dsimp only;refine hK.o _ _ hsq (fun hH=> ?_);clear hK K;try simp only[put]
     refine rd 6 (fun K hK=> ?_);refine wp_store_mid 35 _ _ rfl ub 0 (ze m2) rfl rfl (by rw[HSt.o];exact zd HIq.o.u (by rw[HSq.o])) (by rw[HSt.o];exact sizeMap) (je _) ?_;have hi6:=HIq.o.map HOr.o Hml.o Htl.o;have hx6:=((jZ wq ub 0 (ze m2).toList).1 xb (za HXq.o.row) (by have:=HXb.o;have:=HOr.o;omega)).trans HXq.o.row;generalize (World.setCells _ _ _ _)=w6 at hi6 hx6⊢;have HI6:=hid hi6;have HX6:Hid (zp w6 xb y):=hid ⟨hx6,HSm.o.1⟩;have hs6:w6.cell? ⟨xb,3+j,none⟩=some (.int .i64 n):=(HX6.o.cB HN.o).1;clear hi6 hx6;try dsimp only
     refine hK.o _ _ hs6 (fun hH=> ?_);clear hK K;try simp only[put]
     refine dn ?_;(try simp only[Exit.then])
     rw[←HNx.o]at HI6;go_wp2;go_roundw
     case rel=>exact⟨j+1,by go_num,by omega,HI6,HX6⟩
     case measure=>simp[intOf];omega
    ·obtain rfl:j=4:=by omega
     have hyB:Gd.blksD M i++y.B.take 4=Gd.blksD M (i+1):=by
      rw[List.take_of_length_le (by rw[HSm.o.1.1];omega)];rw[Hy.o];rfl
     rw[hyB]at HI;clear hyB hjl;obtain⟨wz,rfl⟩:=nm wr;have c0:=HX.o.c0;by_cases hk:y.k=2
     ·rw[hk]at c0;have HT:=hid (HTi.o (by rw[←Hy.o];exact hk) wz HI.o.b);have HD:=hid (HS.o.tree.dir (i+1) (by omega) (by omega) (by rw[←Hy.o];exact hk));have HEn:=hid (HS.o.tree.ent (i+1) (by omega) (by omega) (by rw[←Hy.o];exact hk));have HSz2:=hid (HS.o.size (i+1) (by omega) (by omega) (by rw[←Hy.o];exact hk));have HKy:=hid hk;rw[←Hy.o]at HSz2;have HTs:=hid (zF HD.o.ok.len);obtain⟨D,hD⟩:=nm (T (i+1));rw[←hD]at HT HD HEn HSz2 HTs;have HDt:=hid hD;unfold zW at HT;have hc0:=HP.o wz HI.o.b;clear hD hk
      go_upto_region 19 with(first|(go_at_call 28;refine HT.o.mono ?_;rintro e w2 ⟨rfl,hb2⟩;have HI2:=hid (HI.o.below hb2);have HX2:=hid (HX.o.keep hb2);clear hb2)|(rw[←qh];refine wpList_store_mid rfl 77 _ _ rfl w2.heap.size 0 (zk D) rfl rfl (zd (heap_alloc_new _ _) (by rw[zn,HTs.o])) (by rw[HTs.o];exact sizeTab) (zQ _) ?_;obtain⟨hbw,hbg⟩:=zi w2 (zk Gd.noTab) 77 (zk D).toList (by rw[zn,Array.length_toList,HTs.o]);generalize (World.setCells _ _ _ _)=w3 at hbw hbg⊢;have HN3:Hid (w3.heap[w2.heap.size]? =some (.cells (zk D) 77 (0,0))):=hid hbg;have HI3':=hid (HI2.o.below hbw);have HX3:=hid (HX2.o.keep hbw);clear hbw hbg))
      obtain⟨tb,htb⟩:=nm w2.heap.size;have HTb2:Hid (ab<tb∧xb<tb):=hid (by rw[htb];exact⟨HI2.o.a.lt,za HX2.o.row⟩);rw[←htb]at HN3⊢;clear htb c0 hc0 HI HX HI2 HX2 HT;go_upto_region 23 with fail
      go_loopw[12,13] (fun v z wr=>∃j:Nat,z= .int .i64 j∧v= .int .i64 (Gd.namedT D j:Nat)∧j≤16∧Hid (SdI w M ub lb ab (Gd.takesL (Gd.blksD M (i+1))) (xN M T D i j) (i+1) wr)∧Hid (zp wr xb y)∧Hid (wr.heap[tb]? =some (.cells (zk D) 77 (0,0)))) (fun _ z _=>16-(intOf z).toNat)
      case atStart=>exact⟨0,rfl,rfl,by omega,hid (by rw[XS];exact HI3'.o),HX3,HN3⟩
      case round=>
       obtain⟨j,rfl,rfl,hj16,HI,HX,HN⟩:=hrel;by_cases hjl:j<16
       ·obtain⟨en,hen⟩:=nm (Gd.entAt D j);obtain⟨e0,e1⟩:=jH HN.o (Gd.entAt_get HD.o.ok.len hjl);have hst:=Gd.namedT_step HD.o.ok.len hjl;have hls:=XT M T i HD.o.ok.len hjl;have hmy:=Gd.entAt_may HD.o.ok j;have hj1:(j:Int)<16:=by omega
        have hnl:=Gd.namedT_le D j;rw[←hen]at e0 e1 hst hls hmy;have HLs:=hid hls;by_cases hs:en.s=[]
        ·rw[hs]at e0;rw[if_neg (by simp[hs])]at hst;have HSt:=hid hst;have HLk:Hid (xN M T D i (j+1)=xN M T D i j):=hid (by rw[HLs.o,if_pos hs]);clear hen hst hls hmy hjl hs hnl;go_wp2;go_roundw
         case rel=>exact⟨j+1,by go_num,by rw[HSt.o];rfl,by omega,by rw[HLk.o];exact HI,HX,HN⟩
         case measure=>simp[intOf];omega
        ·rw[if_pos hs]at hst;have HSt:=hid hst;have hi:1≤en.i∧en.i≤32:=by
          rcases hmy with h|⟨_,h⟩
          ·rw[h]at hs;exact absurd rfl hs
          ·exact h
         obtain⟨q,hq⟩:=nm en.i;rw[←hq]at e1 hi;have HLk:Hid (xN M T D i (j+1)=(xN M T D i j).set q (vI M T D i j q+1)):=hid (by rw[HLs.o,if_neg hs,←hq]);have hlc:wr.cell? ⟨lb,q,none⟩=some (.int .i64 (vI M T D i j q)):=by
          rw[cell_of_row wr lb q _ _ _ HI.o.l,List.getElem?_toArray];exact jy (xy M T D i j (by omega))
         have hfz:wr.frozen? ⟨lb,q,none⟩=false:=frozen_of_row wr lb q _ _ HI.o.l;have hlt:=VW M T D i j q (by omega) hjl;have hisE:(⟨en.s.toArray⟩:ByteArray).toList.isEmpty=false:=qZ hs;obtain⟨nmm,hnm⟩:∃nmm:ByteArray,nmm=⟨en.s.toArray⟩:=⟨_,rfl⟩;rw[←hnm]at e0 hisE;obtain⟨ln,hln⟩:=nm (vI M T D i j q);rw[←hln]at hlc HLk hlt;have hq33:(q:Int)<33:=by omega
         have hq0:(0:Int)≤q:=by omega
         clear hen hst hls hmy hjl hs hnm hln hq;go_upto_region 26 with fail
         go_upto_region 27 with fail
         have hO:zu (fun j=>j=lb) wr (wr.setCell ⟨lb,q,none⟩ (.int .i64 (ln+1))):=zw (z4 lb q wr (.int .i64 (ln+1))) fun j e=>(Option.some.inj e).symm;have HI5:Hid (SdI w M ub lb ab (Gd.takesL (Gd.blksD M (i+1))) (xN M T D i (j+1)) (i+1) (wr.setCell ⟨lb,q,none⟩ (.int .i64 (ln+1)))):=hid (by rw[HLk.o];exact HI.o.link HOr.o q (ln+1));have HX5:Hid (zp (wr.setCell ⟨lb,q,none⟩ (.int .i64 (ln+1))) xb y):=hid ⟨(hO.block xb (za HX.o.row) (by have:=HXb.o;have:=HOr.o;omega)).trans HX.o.row,HSm.o.1⟩;have HN5:Hid ((wr.setCell ⟨lb,q,none⟩ (.int .i64 (ln+1))).heap[tb]? =some (.cells (zk D) 77 (0,0))):=hid ((hO.block tb (za HN.o) (by have:=HTb2.o;have:=HOr.o;omega)).trans HN.o);clear hO e0 e1 hlc hfz;generalize (wr.setCell ⟨lb,q,none⟩ (.int .i64 (ln+1)))=w5 at HI5 HX5 HN5⊢;go_wp2;go_roundw
         case rel=>exact⟨j+1,by go_num,by rw[HSt.o];rfl,by omega,HI5,HX5,HN5⟩
         case measure=>simp[intOf];omega
       ·obtain rfl:j=16:=by omega
        have c2:=HX.o.c2;rw[HSz2.o]at c2;have HI6:Hid (SdI w M ub lb ab (Gd.takesL (Gd.blksD M (i+1))) (xU M T (i+1)) (i+1) wr):=hid (by
         have:=HI.o
         rw[Y4 M T (by rw[←Hy.o];exact HKy.o) HDt.o]at this;exact this)
        obtain⟨wv,rfl⟩:=nm wr;clear hjl;go_wp2;go_roundw
        case rel=>exact⟨i+1,by go_num,by omega,HI6⟩
        case measure=>simp[intOf];omega
     ·have HI6:Hid (SdI w M ub lb ab (Gd.takesL (Gd.blksD M (i+1))) (xU M T (i+1)) (i+1) wz):=hid (by
       rw[Y5 M T (by rw[←Hy.o];exact hk)];exact HI.o)
      obtain⟨ky,hky⟩:=nm y.k;rw[←hky]at hk c0;clear hky;go_wp2;go_roundw
      case rel=>exact⟨i+1,by go_num,by omega,HI6⟩
      case measure=>simp[intOf];omega
  ·obtain rfl:i=32:=by omega
   obtain⟨wz,rfl⟩:=nm wr;rw[HS.o.sound.all]at HI;clear hlt hi32;rw[show((32:Nat):Int)+1=33 from rfl];go_upto_region 31 with fail
   go_loopw[14] (fun z wr=>∃i:Nat,z= .int .i64 ((i:Int)+1)∧i≤32∧Hid (SdI w M ub lb ab M.map (xU M T 32) 32 wr)) (fun z _=>34-(intOf z).toNat)
   case atStart=>exact⟨0,rfl,by omega,HI⟩
   case round=>
    obtain⟨i,rfl,hi32,HI⟩:=hrel;by_cases hlt:i<32
    ·have hi1:(i:Int)+1≤32:=by omega
     have hi33:(i:Int)+1<33:=by omega
     have hi0:(0:Int)≤(i:Int)+1:=by omega
     have hr:=HI.o.a.range (j:=i+1) (by omega) (by omega);have HSm:=hid (HSz.o (i+1) (by omega) (by omega));have Hk0:=hid (HS.o.none (i+1) (by omega) (by omega));have Hk1:=hid (HS.o.files (i+1) (by omega) (by omega));have Hk2:=hid (HS.o.dirs (i+1) (by omega) (by omega));obtain⟨y,hy⟩:=nm (M.ino (i+1));rw[←hy]at hr HSm Hk0 Hk1 Hk2;have HRg:Hid (wr.rangeAt ab ((i+1)*15) (zY (jd y))):=hid hr;have HSl:Hid ((zY (jd y)).length=15):=hid (by have:=HSm.o.1;unfold zf at this;rw[List.size_toArray]at this;exact this);have HSy:=hid HSm.o.1;have hy3:=Gd.mayI_in HSm.o.2.2;have hlk:wr.cell? ⟨lb,i+1,none⟩=some (.int .i64 (Gd.linkD M T (i+1) 32:Nat)):=by
      rw[cell_of_row wr lb (i+1) _ _ _ HI.o.l,List.getElem?_toArray];exact jy (xy M T Gd.noTab 32 0 (by omega))
     clear hr hy hlt;go_upto_region 34 with(first|(refine wpList_load_mid rfl 48 _ rfl ab ((i+1)*15) rfl (zY (jd y)) _ HRg.o underlying48 rfl (by rw[HSl.o];exact sizeIno) ?_)|(rw[←zA];refine wpList_store_mid rfl 48 _ _ rfl wr.heap.size 0 (zf y) rfl rfl (zd (heap_alloc_new _ _) (by rw[zc,HSy.o])) (by rw[HSy.o];exact sizeIno) (zr _) ?_;obtain⟨hbw,hbg⟩:=zi wr zU 48 (zf y).toList (by rw[zc,Array.length_toList,HSy.o]);generalize (World.setCells _ _ _ _)=w3 at hbw hbg⊢;have HX3:Hid (zp w3 wr.heap.size y):=hid ⟨hbg,HSm.o.2.1⟩;have HI3':=hid (HI.o.below hbw);have h3k:=(hbw.cell (p:=⟨lb,i+1,none⟩) (za HI.o.l)).trans hlk;clear hbw hbg))
     obtain⟨xb,hxb⟩:=nm wr.heap.size;rw[←hxb]at HX3⊢;have c0:=HX3.o.c0;have c1:=HX3.o.c1;clear hxb HI hlk;by_cases hk0:y.k=0
     ·rw[hk0]at c0;rw[Hk0.o hk0]at h3k;clear hk0 hy3;go_upto_region 38 with fail
      have hs0:w3.drew.cell? ⟨xb,0,none⟩=some (.int .i64 0):=c0;have HId:=hid (HI3'.o.below (Below.refl _ _).drew);clear c0 c1 h3k;refine wp_region_held_drew (S:=(fun W=>W.cell? ⟨xb,0,none⟩=some (.int .i64 0))) (by kernel_rfl) ?_ (fun hH=> ?_)
      ·exact hs0
      refine tk 0 ?_;refine tk 1 ?_;refine tk 2 ?_;refine tk 3 ?_;refine sk 4 ?_;refine sk 5 ?_;refine sk 6 ?_;refine sk 7 ?_;refine sk 8 ?_;refine sk 9 ?_;refine sk 10 ?_;refine sk 11 ?_;refine sk 12 ?_;refine sk 13 ?_;refine sk 14 ?_;refine sk 15 ?_;refine sk 16 ?_;refine sk 17 ?_;refine sk 18 ?_;refine sk 19 ?_;refine tk 20 ?_;refine dn ?_;(try simp only[Exit.then])
      go_wp2;go_roundw
      case rel=>exact⟨i+1,by go_num,by omega,HId⟩
      case measure=>simp[intOf];omega
     ·by_cases hk2:y.k=2
      ·rw[hk2]at c0;have hl2:=Hk2.o hk2;have HId:=hid (HI3'.o.below (Below.refl _ _).drew);by_cases hi0':i=0
       ·subst hi0';rw[if_pos rfl]at hl2;rw[hl2]at h3k;clear hk0 hk2 hy3 hl2;go_upto_region 38 with fail
        have hs0:w3.drew.cell? ⟨xb,0,none⟩=some (.int .i64 2):=c0;clear c0 c1 h3k;refine wp_region_held_drew (S:=(fun W=>W.cell? ⟨xb,0,none⟩=some (.int .i64 2))) (by kernel_rfl) ?_ (fun hH=> ?_)
        ·exact hs0
        refine tk 0 ?_;refine tk 1 ?_;refine tk 2 ?_;refine tk 3 ?_;refine sk 4 ?_;refine sk 5 ?_;refine sk 6 ?_;refine sk 7 ?_;refine sk 8 ?_;refine sk 9 ?_;refine sk 10 ?_;refine sk 11 ?_;refine sk 12 ?_;refine sk 13 ?_;refine sk 14 ?_;refine sk 15 ?_;refine sk 16 ?_;refine sk 17 ?_;refine sk 18 ?_;refine sk 19 ?_;refine tk 20 ?_;refine dn ?_;(try simp only[Exit.then])
        go_wp2;go_roundw
        case rel=>exact⟨1,by go_num,by omega,HId⟩
        case measure=>simp[intOf]
       ·rw[if_neg (by omega)]at hl2;rw[hl2]at h3k;have hne:((i:Int)+1==1)=false:=by simp;omega
        have hne2:¬(i:Int)+1=1:=by omega
        clear hk0 hk2 hy3 hl2;go_upto_region 38 with fail
        have hs0:w3.drew.cell? ⟨xb,0,none⟩=some (.int .i64 2):=c0;clear c0 c1 h3k;refine wp_region_held_drew (S:=(fun W=>W.cell? ⟨xb,0,none⟩=some (.int .i64 2))) (by kernel_rfl) ?_ (fun hH=> ?_)
        ·exact hs0
        refine tk 0 ?_;refine tk 1 ?_;refine tk 2 ?_;refine tk 3 ?_;refine sk 4 ?_;refine sk 5 ?_;refine sk 6 ?_;refine sk 7 ?_;refine sk 8 ?_;refine sk 9 ?_;refine sk 10 ?_;refine sk 11 ?_;refine sk 12 ?_;refine sk 13 ?_;refine sk 14 ?_;refine sk 15 ?_;refine sk 16 ?_;refine sk 17 ?_;refine sk 18 ?_;refine sk 19 ?_;refine tk 20 ?_;refine dn ?_;(try simp only[Exit.then])
        go_wp2;go_roundw
        case rel=>exact⟨i+1,by go_num,by omega,HId⟩
        case measure=>simp[intOf];omega
      ·have hk1:y.k=1:=by
        have:=hy3.k
        omega
       obtain⟨hl1,hl0⟩:=Hk1.o hk1;rw[hk1]at c0;rw[←hl1]at h3k;have HOp:=hid (yJ y HSm.o.2.1 hy3.O);unfold zv at HOp;have HId:=hid (HI3'.o.below (Below.refl _ _).drew);obtain⟨l,hl⟩:=nm y.l;rw[←hl]at c1 h3k hl0;clear hl1 hl hk0 hk2 hk1 hy3;go_upto_region 38 with fail
       by_cases hz:l=0
       ·have ho:=hl0 hz;subst hz;obtain⟨o,hoo⟩:=nm y.O.sum;rw[←hoo]at HOp ho;have hob:(o==0)=false:=by simpa using ho
        have hs0:w3.drew.cell? ⟨xb,0,none⟩=some (.int .i64 1)∧w3.drew.cell? ⟨xb,1,none⟩=some (.int .i64 0)∧w3.drew.cell? ⟨lb,i+1,none⟩=some (.int .i64 0)∧w3.drew.heap[xb]? =some (.cells (zf y) 48 (0,0)):=⟨c0,c1,h3k,HX3.o.row⟩;clear c0 c1 h3k hl0 hoo;refine wp_region_held_drew (S:=(fun W=>W.cell? ⟨xb,0,none⟩=some (.int .i64 1)∧W.cell? ⟨xb,1,none⟩=some (.int .i64 0)∧W.cell? ⟨lb,i+1,none⟩=some (.int .i64 0)∧W.heap[xb]? =some (.cells (zf y) 48 (0,0)))) (by kernel_rfl) ?_ (fun hH=> ?_)
        ·exact hs0
        refine tk 0 ?_;refine tk 1 ?_;refine tk 2 ?_;refine tk 3 ?_;refine tk 4 ?_;refine tk 5 ?_;refine tk 6 ?_;refine tk 7 ?_;refine tk 8 ?_;refine tk 9 ?_;refine tk 10 ?_;refine tk 11 ?_;refine tk 12 ?_;refine tk 13 ?_;refine tk 14 ?_;refine th (v:= ?_) 15 ?_ ?_;rotate_left
        ·intro w hSw;refine qH 48 (.tmp 15) ?_ xb ?_ 48 (zf y) (0,0) _ hSw.2.2.2 underlying48 ?_ (by rw[HSy.o];exact sizeIno);all_goals rfl
        try simp only[put]
        refine rd 16 (fun K hK=> ?_);go_simp
        refine(HOp.o _).mono ?_
        rintro e wq ⟨rfl,hbq⟩;have HIq:=hid (HId.o.below hbq);have hsq:=And.intro ((hbq.cell (p:=⟨xb,0,none⟩) (za hs0.2.2.2)).trans hs0.1) (And.intro ((hbq.cell (p:=⟨xb,1,none⟩) (za hs0.2.2.2)).trans hs0.2.1) (And.intro ((hbq.cell (p:=⟨lb,i+1,none⟩) (za HId.o.l)).trans hs0.2.2.1) ((hbq.block xb (za hs0.2.2.2)).trans hs0.2.2.2)));clear hbq;dsimp only;refine hK.o _ _ hsq (fun hH=> ?_);clear hK K;try simp only[put]
        refine tk 17 ?_;refine tk 18 ?_;refine tk 19 ?_;refine tk 20 ?_;refine dn ?_;(try simp only[Exit.then])
        go_wp2;go_roundw
        case rel=>exact⟨i+1,by go_num,by omega,HIq⟩
        case measure=>simp[intOf];omega
       ·have hzb:(l==0)=false:=by simpa using hz
        have hs0:w3.drew.cell? ⟨xb,0,none⟩=some (.int .i64 1)∧w3.drew.cell? ⟨xb,1,none⟩=some (.int .i64 l)∧w3.drew.cell? ⟨lb,i+1,none⟩=some (.int .i64 l):=⟨c0,c1,h3k⟩;clear c0 c1 h3k hl0;refine wp_region_held_drew (S:=(fun W=>W.cell? ⟨xb,0,none⟩=some (.int .i64 1)∧W.cell? ⟨xb,1,none⟩=some (.int .i64 l)∧W.cell? ⟨lb,i+1,none⟩=some (.int .i64 l))) (by kernel_rfl) ?_ (fun hH=> ?_)
        ·exact hs0
        refine tk 0 ?_;refine tk 1 ?_;refine tk 2 ?_;refine tk 3 ?_;refine tk 4 ?_;refine tk 5 ?_;refine tk 6 ?_;refine tk 7 ?_;refine tk 8 ?_;refine tk 9 ?_;refine tk 10 ?_;refine tk 11 ?_;refine tk 12 ?_;refine tk 13 ?_;refine tk 14 ?_;refine sk 15 ?_;refine sk 16 ?_;refine sk 17 ?_;refine tk 18 ?_;refine tk 19 ?_;refine tk 20 ?_;refine dn ?_;(try simp only[Exit.then])
        go_wp2;go_roundw
        case rel=>exact⟨i+1,by go_num,by omega,HId⟩
        case measure=>simp[intOf];omega
    ·obtain rfl:i=32:=by omega
     obtain⟨wy,rfl⟩:=nm wr;have hml:M.map.length=16:=HS.o.sound.mapl;have hrt:=HS.o.tree.root;have hr1:=HI.o.a.range (j:=1) (by omega) (by omega);have hk1:wy.cell? ⟨ab,15,none⟩=some (.int .i64 2):=by
      have:=hr1 0 (.int .i64 2) (by
       show(zY (jd (M.ino 1)))[0]? =_
       rw[jy (n:=(M.ino 1).k) rfl,hrt])
      exact this
     have HMm:=hid (HMp.o wy.drew (HI.o.b.trans (Below.refl _ _).drew));unfold jK at HMm;have HSq:=hid (z6 hml);have hms:Hid (∀W:World,(binOp .eql 35 (.agg (ze M.map)) (.agg (ze M.map))).run prog W= .ok (.bool true) W):=hid fun W=>YZ M.map hml W;have HId:=hid (HI.o.below (Below.refl _ _).drew);have hs0:wy.drew.cell? ⟨p,2,none⟩=some (.pointer (some ⟨x,0,none⟩))∧wy.drew.heap[ub]? =some (.cells (ze M.map) 35 (0,0))∧wy.drew.cell? ⟨ab,15,none⟩=some (.int .i64 2):=⟨HP.o _ HId.o.b,HId.o.u,hk1⟩;have Hab:=hid HId.o.a.lt;clear hml hrt hr1 hk1 hlt hi32;go_upto_region 40 with fail
     refine wp_region_held_drew (S:=(fun W=>W.cell? ⟨p,2,none⟩=some (.pointer (some ⟨x,0,none⟩))∧W.heap[ub]? =some (.cells (ze M.map) 35 (0,0))∧W.cell? ⟨ab,15,none⟩=some (.int .i64 2))) (by kernel_rfl) ?_ (fun hH=> ?_)
     ·exact hs0
     refine tk 0 ?_;refine tk 1 ?_;refine tk 2 ?_;refine tk 3 ?_;refine th (v:= ?_) 5 ?_ ?_;rotate_left
     ·intro w hSw;refine qH 35 (.tmp 3) ?_ ub ?_ 35 (ze M.map) (0,0) _ hSw.2.1 underlying35 ?_ (by rw[HSq.o];exact sizeMap);all_goals rfl
     try simp only[put]
     refine rd 4 (fun K hK=> ?_);go_simp
     refine HMm.o.mono ?_;rintro e wq ⟨rfl,hbq⟩;have HIq:=hid (HId.o.below hbq);have hsq:=And.intro (HP.o wq HIq.o.b) (And.intro HIq.o.u ((hbq.cell (p:=⟨ab,15,none⟩) Hab.o).trans hs0.2.2));clear hbq;dsimp only;refine hK.o _ _ hsq (fun hH=> ?_);clear hK K;try simp only[put]
     refine rd 6 (fun K hK=> ?_);refine Uh .eql 35 _ _ _ rfl (.agg (ze M.map)) (.agg (ze M.map)) (.bool true) rfl rfl (XO _ _ _ _ _ _) (hms.o _) ?_;try dsimp only
     refine hK.o _ _ hsq (fun hH=> ?_);clear hK K;try simp only[put]
     refine tk 7 ?_;refine tk 8 ?_;refine tk 9 ?_;refine tk 10 ?_;refine tk 11 ?_;refine tk 12 ?_;refine tk 13 ?_;refine dn ?_;(try simp only[Exit.then])
     go_wp2;go_ret
     exact⟨rfl,HIq.o.b⟩
end Go.Proofs.YtjlpkbhgphjpeaaGreatDoor
