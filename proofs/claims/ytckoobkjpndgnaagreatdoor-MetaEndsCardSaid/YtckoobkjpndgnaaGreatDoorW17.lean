/- Walks: the document's file system in memory; Lookup, Of, count. -/
import Derived.Test.YtckoobkjpndgnaaGreatDoorW16
import Derived.Laws.Rows
set_option linter.unusedVariables false
set_option linter.unusedSimpArgs false
set_option linter.unusedSectionVars false
set_option maxHeartbeats 8000000
set_option maxRecDepth 100000
namespace Go.Proofs.YtckoobkjpndgnaaGreatDoor
open Go.RowKit
open Lib(hid)
open Go.Proofs.Tryz
def cN(L:List Pz.Nd):List Value:=Pz.three (fun x=> .bool x.dir) (fun x=> .string ⟨x.data.toArray⟩) (fun x=> .int .i64 x.links) L
def cE(L:List Pz.En):List Value:=Pz.three (fun x=> .int .i64 x.dir) (fun x=> .string ⟨x.name.toArray⟩) (fun x=> .int .i64 x.node) L
def cO(L:List Pz.Op):List Value:=Pz.three (fun x=> .int .i64 x.client) (fun x=> .int .i64 x.fd) (fun x=> .int .i64 x.node) L
structure RefAt(w:World)(B r:Nat)(vN vE vO:Value)(S:Pz.Fil):Prop where
 lo:B≤r
 lt:r<w.heap.size
 c0:w.cell? ⟨r,0,none⟩=some vN
 c1:w.cell? ⟨r,1,none⟩=some vE
 c2:w.cell? ⟨r,2,none⟩=some vO
 fr:∀j,w.frozen? ⟨r,j,none⟩=false
 oN:w.ownsRow B 115 3 vN S.N.length (cN S.N)
 oE:w.ownsRow B 171 3 vE S.E.length (cE S.E)
 oO:w.ownsRow B 117 3 vO S.O.length (cO S.O)
 aN:vN.ownBlock≠some r
 aE:vE.ownBlock≠some r
 aO:vO.ownBlock≠some r
 nE:vN.ownBlock=none∨vN.ownBlock≠vE.ownBlock
 nO:vN.ownBlock=none∨vN.ownBlock≠vO.ownBlock
 eO:vE.ownBlock=none∨vE.ownBlock≠vO.ownBlock
def RefIs(w:World)(B r:Nat)(S:Pz.Fil):Prop:=∃vN vE vO,RefAt w B r vN vE vO S
theorem grown_of{w w':World}(h:Below w.heap.size w w'):w.grownBy w' none:=⟨h.os,h.tape,h.output,h.size,fun k hk _=>h.block k hk⟩
theorem RefAt.keep{w w':World}{B r:Nat}{vN vE vO:Value}{S:Pz.Fil}(h:RefAt w B r vN vE vO S)(hb:Below w.heap.size w w'):RefAt w' B r vN vE vO S:=
 {
  h with
  lt:=Nat.lt_of_lt_of_le h.lt hb.size
  c0:=(hb.cell (p:=⟨r,0,none⟩) h.lt).trans h.c0
  c1:=(hb.cell (p:=⟨r,1,none⟩) h.lt).trans h.c1
  c2:=(hb.cell (p:=⟨r,2,none⟩) h.lt).trans h.c2
  fr:=fun j=>(hb.frozen (p:=⟨r,j,none⟩) h.lt).trans (h.fr j)
  oN:=h.oN.kept (grown_of hb) (by cases hv:vN.ownBlock<;>simp)
  oE:=h.oE.kept (grown_of hb) (by cases hv:vE.ownBlock<;>simp)
  oO:=h.oO.kept (grown_of hb) (by cases hv:vO.ownBlock<;>simp)}
theorem RefIs.keep{w w':World}{B r:Nat}{S:Pz.Fil}(h:RefIs w B r S)(hb:Below w.heap.size w w'):RefIs w' B r S:=by
 obtain⟨vN,vE,vO,h⟩:=h;exact⟨vN,vE,vO,h.keep hb⟩
theorem row3{w:World}{B e:Nat}{v:Value}{α:Type}{f g h:α→Value}{L:List α}(hr:w.ownsRow B e 3 v L.length (Pz.three f g h L)):
 ∃A c,v= .slice A L.length c∧L.length≤c∧∀k x,L[k]? =some x→∃b,A=some ⟨b,0,none⟩∧B≤b∧b<w.heap.size∧w.cell? ⟨b,k*3,none⟩=some (f x)∧w.cell? ⟨b,k*3+1,none⟩=some (g x)∧w.cell? ⟨b,k*3+2,none⟩=some (h x)∧∀j,w.frozen? ⟨b,j,none⟩=false:=by
 have hr':=hr;rcases hr.2 with⟨rfl,h0⟩|⟨b,cap,cur,rfl,hb,hg,hc,_,_,_⟩
 ·refine⟨none,0,by rw[h0],by omega,fun k x hx=> ?_⟩;have:=(List.getElem?_eq_some_iff.1 hx).1
  omega
 ·refine⟨_,cap,rfl,hc,fun k x hx=> ?_⟩;have hk:=(List.getElem?_eq_some_iff.1 hx).1;obtain⟨h1,h2,h3⟩:=Pz.three_get f g h L k x hx;exact⟨b,rfl,hb,(Array.getElem?_eq_some_iff.1 hg).1,(hr'.cellAt _ (by omega)).trans h1,(hr'.cellAt _ (by omega)).trans h2,(hr'.cellAt _ (by omega)).trans h3,fun j=>hr'.frozenAt j⟩
theorem look_any(B r:Nat)(S:Pz.Fil)(i:Nat)(s:ByteArray)(w:World)(hE:S.E.length≤1000000)(hR:RefIs w B r S):
 Calls prog 104 #[.pointer (some ⟨r,0,none⟩),.int .i64 i,.string s] w fun e w'=>e= .returned (.int .i64 (Pz.look S.E i s.data.toList))∧Below w.heap.size w w':=by
 obtain⟨vN,vE,vO,hR⟩:=hR;obtain⟨A,c,rfl,hc,hrow⟩:=row3 hR.oE;have hc1:=hR.c1;have hlt:=hR.lt;have HR:=hid hrow;clear hrow hR hc;obtain⟨n,hn⟩:=nm S.E.length;rw[←hn]at hc1 hE;have Hn:=hid hn;clear hn;obtain⟨R,hRv⟩:=nm (Pz.look S.E i s.data.toList);rw[←hRv];have HV:=hid hRv;clear hRv;go_enter func104,ntmps104;go_wp2;go_loopw[7] (fun v wr=>∃k:Nat,k≤n∧v= .int .i64 k∧Hid (R=Pz.look (S.E.drop k) i s.data.toList)∧Below w.heap.size w wr) (fun v _=>n-(intOf v).toNat)
 case atStart=>exact⟨0,by omega,rfl,HV.o,Below.refl _ _⟩
 case round=>
  obtain⟨k,hk,rfl,hok,hbw⟩:=hrel;have hc1':wr.cell? ⟨r,1,none⟩=some (.slice A n c):=(hbw.cell (p:=⟨r,1,none⟩) hlt).trans hc1;by_cases hkn:k<n
  ·obtain⟨e,he⟩:∃e,S.E[k]? =some e:=⟨_,List.getElem?_eq_getElem (by have:=Hn.o;omega)⟩;obtain⟨b,rfl,_,hb,h0,h1,h2,_⟩:=HR.o k e he;have hst:=Pz.look_at (i:=i) (x:=s.data.toList) he;rw[←hok.o]at hst;have Hst:=hid hst;have g0:=(hbw.cell (p:=⟨b,k*3,none⟩) hb).trans h0;have g1:=(hbw.cell (p:=⟨b,k*3+1,none⟩) hb).trans h1;have g2:=(hbw.cell (p:=⟨b,k*3+2,none⟩) hb).trans h2;clear h0 h1 h2 he hst hc1;have hk1:(0:Int)≤k:=by omega
   have hk2:(k:Int)<n:=by omega
   go_wp2
   ·go_ret
    refine⟨ret_int ?_,hbw⟩;rw[Hst.o,if_pos ?_];refine⟨by
     have h1:(e.dir:Int)=i:=by assumption
     omega,?_⟩
    have h1:(e.name==s.toList)=true:=by assumption
    rw[←Lib.toList_data];exact eq_of_beq h1
   all_goals
    have hne:¬(e.dir=i∧e.name=s.data.toList):=by
     first
     |(have h1:(e.name==s.toList)=false:=by assumption
       rintro⟨_,h2⟩;rw[←Lib.toList_data]at h2;exact(beq_eq_false_iff_ne.1 h1) h2)
     |(have h1:¬(e.dir:Int)=i:=by assumption
       rintro⟨h2,_⟩;exact h1 (by rw[h2]))
    go_roundw
    case rel=>exact⟨k+1,by omega,by go_num,Hst.o.trans (if_neg hne),hbw⟩
    case measure=>simp[intOf];omega
  ·have hk2:(n:Int)≤k:=by omega
   go_wp2;go_ret
   refine⟨?_,hbw⟩;apply ret_int
   rw[hok.o,List.drop_of_length_le (by have:=Hn.o;omega)];rfl
theorem of_any(B r:Nat)(S:Pz.Fil)(cl fd:Int)(w:World)(hE:S.O.length≤1000000)(hR:RefIs w B r S):
 Calls prog 49 #[.pointer (some ⟨r,0,none⟩),.int .i64 cl,.int .i64 fd] w fun e w'=>e= .returned (.int .i64 (Pz.ofd S.O cl fd))∧Below w.heap.size w w':=by
 obtain⟨vN,vE,vO,hR⟩:=hR;obtain⟨A,c,rfl,hc,hrow⟩:=row3 hR.oO;have hc1:=hR.c2;have hlt:=hR.lt;have HR:=hid hrow;clear hrow hR hc;obtain⟨n,hn⟩:=nm S.O.length;rw[←hn]at hc1 hE;have Hn:=hid hn;clear hn;obtain⟨R,hRv⟩:=nm (Pz.ofd S.O cl fd);rw[←hRv];have HV:=hid hRv;clear hRv;go_enter func49,ntmps49;go_wp2;go_loopw[7] (fun v wr=>∃k:Nat,k≤n∧v= .int .i64 k∧Hid (R=Pz.ofd (S.O.drop k) cl fd)∧Below w.heap.size w wr) (fun v _=>n-(intOf v).toNat)
 case atStart=>exact⟨0,by omega,rfl,HV.o,Below.refl _ _⟩
 case round=>
  obtain⟨k,hk,rfl,hok,hbw⟩:=hrel;have hc1':wr.cell? ⟨r,2,none⟩=some (.slice A n c):=(hbw.cell (p:=⟨r,2,none⟩) hlt).trans hc1;by_cases hkn:k<n
  ·obtain⟨e,he⟩:∃e,S.O[k]? =some e:=⟨_,List.getElem?_eq_getElem (by have:=Hn.o;omega)⟩;obtain⟨b,rfl,_,hb,h0,h1,h2,_⟩:=HR.o k e he;have hst:=Pz.ofd_at (c:=cl) (fd:=fd) he;rw[←hok.o]at hst;have Hst:=hid hst;have g0:=(hbw.cell (p:=⟨b,k*3,none⟩) hb).trans h0;have g1:=(hbw.cell (p:=⟨b,k*3+1,none⟩) hb).trans h1;have g2:=(hbw.cell (p:=⟨b,k*3+2,none⟩) hb).trans h2;clear h0 h1 h2 he hst hc1;have hk1:(0:Int)≤k:=by omega
   have hk2:(k:Int)<n:=by omega
   go_wp2
   ·go_ret
    refine⟨ret_int ?_,hbw⟩;rw[Hst.o,if_pos ⟨by assumption,eq_of_beq (by assumption)⟩]
   all_goals
    have hne:¬(e.client=cl∧e.fd=fd):=by
     first
     |(have h1:¬e.client=cl:=by assumption
       rintro⟨h2,_⟩;exact h1 h2)
     |(have h1:(e.fd==fd)=false:=by assumption
       rintro⟨_,h2⟩;exact(beq_eq_false_iff_ne.1 h1) h2)
    go_roundw
    case rel=>exact⟨k+1,by omega,by go_num,Hst.o.trans (if_neg hne),hbw⟩
    case measure=>simp[intOf];omega
  ·have hk2:(n:Int)≤k:=by omega
   go_wp2;go_ret
   refine⟨?_,hbw⟩;apply ret_int
   rw[hok.o,List.drop_of_length_le (by have:=Hn.o;omega)];rfl
theorem pcount_any(B r:Nat)(S:Pz.Fil)(i:Nat)(w:World)(hE:S.E.length≤1000000)(hR:RefIs w B r S):
 Calls prog 102 #[.pointer (some ⟨r,0,none⟩),.int .i64 i] w fun e w'=>e= .returned (.int .i64 (Pz.count S.E i))∧Below w.heap.size w w':=by
 obtain⟨vN,vE,vO,hR⟩:=hR;obtain⟨A,c,rfl,hc,hrow⟩:=row3 hR.oE;have hc1:=hR.c1;have hlt:=hR.lt;have HR:=hid hrow;clear hrow hR hc;obtain⟨n,hn⟩:=nm S.E.length;rw[←hn]at hc1 hE;have Hn:=hid hn;clear hn;go_enter func102,ntmps102;go_wp2;go_loopw[5,6] (fun q v wr=>∃k m:Nat,k≤n∧m≤k∧v= .int .i64 k∧q= .int .i64 m∧Hid (m=Pz.count (S.E.take k) i)∧Below w.heap.size w wr) (fun _ v _=>n-(intOf v).toNat)
 case atStart=>exact⟨0,0,by omega,by omega,rfl,rfl,by show 0=Pz.count (S.E.take 0) i;rfl,Below.refl _ _⟩
 case round=>
  obtain⟨k,m,hk,hm,rfl,rfl,hok,hbw⟩:=hrel;have hc1':wr.cell? ⟨r,1,none⟩=some (.slice A n c):=(hbw.cell (p:=⟨r,1,none⟩) hlt).trans hc1;by_cases hkn:k<n
  ·obtain⟨e,he⟩:∃e,S.E[k]? =some e:=⟨_,List.getElem?_eq_getElem (by have:=Hn.o;omega)⟩;obtain⟨b,rfl,_,hb,h0,h1,h2,_⟩:=HR.o k e he;have hst:=Pz.count_step (i:=i) he;rw[←hok.o]at hst;have Hst:=hid hst;have g0:=(hbw.cell (p:=⟨b,k*3,none⟩) hb).trans h0;clear h0 h1 h2 he hst hc1;have hk1:(0:Int)≤k:=by omega
   have hk2:(k:Int)<n:=by omega
   go_wp2
   ·have h1:(e.dir:Int)=i:=eq_of_beq (by assumption);go_roundw
    case rel=>exact⟨k+1,m+1,by omega,by omega,by go_num,by go_num,by show _=_;rw[Hst.o,if_pos (by omega)],hbw⟩
    case measure=>simp[intOf];omega
   ·have h1:¬(e.dir:Int)=i:=beq_eq_false_iff_ne.1 (by assumption);go_roundw
    case rel=>exact⟨k+1,m,by omega,by omega,by go_num,by go_num,by show _=_;rw[Hst.o,if_neg (by omega)];rfl,hbw⟩
    case measure=>simp[intOf];omega
  ·have hk2:(n:Int)≤k:=by omega
   go_wp2;go_ret
   refine⟨?_,hbw⟩;apply ret_int
   have:=hok.o
   rw[List.take_of_length_le (by have:=Hn.o;omega)]at this;rw[this]
theorem ret_of{a b:Value}(h:a=b):Ending.returned a= .returned b:=by rw[h]
def toT:Except Int Nat→Value
 | .ok n=> .tuple #[.int .i64 n,.int .i64 0]
 | .error e=> .tuple #[.int .i64 0,.int .i64 e]
theorem walk_cons{S:Pz.Fil}{n:Nat}{L:List (List UInt8)}{k:Nat}{x:List UInt8}(hx:L[k]? =some x):
 Pz.walk S n (L.drop k)=if Pz.isDir S.N n then(if Pz.look S.E n x<0 then .error 10 else Pz.walk S (Pz.look S.E n x).toNat (L.drop (k+1)))else .error 12:=by
 obtain⟨h,h2⟩:=List.getElem?_eq_some_iff.1 hx;rw[List.drop_eq_getElem_cons h,h2,Pz.walk]
theorem pwalk_any(B r:Nat)(S:Pz.Fil)(A:Option Addr)(L:List (List UInt8))(c B':Nat)(w:World)(hE:S.E.length≤1000000)(hN:S.N.length≤1000000)(hO:Pz.Ok S)(hL:L.length≤1000000)(hR:RefIs w B r S)(hS:Strs w B' A L):
 Calls prog 101 #[.pointer (some ⟨r,0,none⟩),.slice A L.length c] w fun e w'=>e= .returned (toT (Pz.walk S 0 L))∧Below w.heap.size w w':=by
 have hk:=fun W W' (h:Below W.heap.size W W') (h2:RefIs W B r S)=>h2.keep h;obtain⟨vN,vE,vO,hA⟩:=id hR;obtain⟨A2,c2,rfl,hc2,hrow⟩:=row3 hA.oN;have hc0:=hA.c0;have hlt:=hA.lt;have HRow:=hid hrow;have HR:=hid hR;clear hrow hA hR hc2;have HS:=hid hS;clear hS;have HK:=hid hO;have HE:=hid hE;have hroot:=hO.root;have hlk:=fun n x=>Pz.look_lt (n:=S.N.length) (i:=n) (x:=x) hO.ent;have HLK:=hid hlk;obtain⟨q,hq⟩:=nm S.N.length;rw[←hq]at hc0 hN hroot;have Hq:=hid hq;clear hO hE hlk hq;obtain⟨n,hn⟩:=nm L.length;rw[←hn]at hL⊢;have Hn:=hid hn;clear hn;obtain⟨R,hRv⟩:=nm (Pz.walk S 0 L);rw[←hRv];have HV:=hid hRv;clear hRv;go_enter func101,ntmps101;go_wp2;go_loopw[6,7] (fun u v wr=>∃k m:Nat,k≤n∧m<q∧v= .int .i64 k∧u= .int .i64 m∧Hid (R=Pz.walk S m (L.drop k))∧Below w.heap.size w wr) (fun _ v _=>n-(intOf v).toNat)
 case atStart=>exact⟨0,0,by omega,hroot,rfl,rfl,HV.o,Below.refl _ _⟩
 case round=>
  obtain⟨k,m,hkn,hm,rfl,rfl,hok,hbw⟩:=hrel;have hc0':wr.cell? ⟨r,0,none⟩=some (.slice A2 q c2):=(hbw.cell (p:=⟨r,0,none⟩) hlt).trans hc0;by_cases hlt2:k<n
  ·obtain⟨x,hx⟩:∃x,L[k]? =some x:=⟨_,List.getElem?_eq_getElem (by have:=Hn.o;omega)⟩;obtain⟨nd,hnd⟩:∃nd,S.N[m]? =some nd:=⟨_,List.getElem?_eq_getElem (by have:=Hq.o;omega)⟩;obtain⟨b,rfl,_,hb,h0,h1,h2,_⟩:=HRow.o m nd hnd;have g0:=(hbw.cell (p:=⟨b,m*3,none⟩) hb).trans h0;clear h0 h1 h2;have hst:=walk_cons (S:=S) (n:=m) hx;rw[←hok.o,show Pz.isDir S.N m=nd.dir by unfold Pz.isDir;rw[hnd]]at hst;have hcx:∃b o,A=some ⟨b,o,none⟩∧wr.cell? ⟨b,o+k,none⟩=some (.string ⟨x.toArray⟩):=by
    rcases HS.o with h|⟨b,o,h1,_,h3,h4,_⟩
    ·rw[h]at hx;cases hx
    ·exact⟨b,o,h1,(hbw.cell (p:=⟨b,o+k,none⟩) h3).trans (h4 k x hx)⟩
   obtain⟨b2,o2,rfl,hcx⟩:=hcx;have hl:=look_any B r S m ⟨x.toArray⟩ wr HE.o (HR.o.keep hbw);rw[show(⟨x.toArray⟩:ByteArray).data.toList=x from rfl]at hl;have hlq:=HLK.o m x;have hlg:=Pz.look_ge (E:=S.E) (i:=m) (x:=x);rw[←Hq.o]at hlq;obtain⟨z,hz⟩:=nm (Pz.look S.E m x);rw[←hz]at hl hst hlq hlg;clear hz;have HL:=hid hl;clear hl hx hnd;have hk1:(0:Int)≤k:=by omega
   have hk2:(k:Int)<n:=by omega
   have hm1:(0:Int)≤m:=by omega
   have hm2:(m:Int)<q:=by omega
   cases hd:nd.dir with
   |false=>
    rw[hd]at g0 hst;have Hst:=hid hst;clear hst;go_wp2;go_ret2
    exact⟨ret_of (by rw[Hst.o];rfl),hbw⟩
   |true=>
    rw[hd]at g0 hst;by_cases hz0:z<0
    ·rw[if_pos rfl,if_pos hz0]at hst;have Hst:=hid hst;clear hst;go_wp2_with(go_at_call 104;refine HL.o.mono ?_;rintro e w2 ⟨rfl,hb2⟩)
     go_ret2
     exact⟨ret_of (by rw[Hst.o];rfl),hbw.trans (hb2.mono hbw.size)⟩
    ·rw[if_pos rfl,if_neg hz0]at hst;have Hst:=hid hst;clear hst;have hz1:(0:Int)≤z:=by omega
     go_wp2_with(go_at_call 104;refine HL.o.mono ?_;rintro e w2 ⟨rfl,hb2⟩)
     go_roundw
     case rel=>exact⟨k+1,z.toNat,by omega,by omega,by go_num,by rw[Int.toNat_of_nonneg hz1],Hst.o,hbw.trans (hb2.mono hbw.size)⟩
     case measure=>simp[intOf];omega
  ·have hk2:(n:Int)≤k:=by omega
   go_wp2;go_ret2
   refine⟨ret_of ?_,hbw⟩;have:=hok.o
   rw[List.drop_of_length_le (by have:=Hn.o;omega),Pz.walk]at this;rw[this];rfl
def toP:Except Int (Nat×List UInt8)→Value
 | .ok (n,x)=> .tuple #[.int .i64 n,.string ⟨x.toArray⟩,.int .i64 0]
 | .error e=> .tuple #[.int .i64 0,.string ⟨#[]⟩,.int .i64 e]
theorem pfind_any(B r:Nat)(S:Pz.Fil)(s:ByteArray)(w:World)(hs:s.size≤100000)(hE:S.E.length≤1000000)(hN:S.N.length≤1000000)(hO:Pz.Ok S)(hR:RefIs w B r S):
 Calls prog 51 #[.pointer (some ⟨r,0,none⟩),.string s] w fun e w'=>e= .returned (toT (Pz.find S s.data.toList))∧Below w.heap.size w w':=by
 unfold Pz.find;have HR:=hid hR;clear hR
 cases hG:Np.pathL s.data.toList with
 |none=>
  have h1:=fun W=>rpathN s W hs hG;have H1:=hid h1;clear h1 hG;show Calls _ _ _ _ fun e w'=>e= .returned (.tuple #[.int .i64 0,.int .i64 15])∧_
  clear HR hO;go_enter func51,ntmps51;go_wp2_with fail
  refine(H1.o _).mono ?_
  rintro e w1 ⟨rfl,hb1⟩;go_wp2;go_ret2
  exact⟨rfl,hb1⟩
 |some L=>
  have h1:=fun W=>rpathY s L W hs hG;have hl6:=(pathL_names hG).1;have h2:=fun A c B' W hR hS=>pwalk_any B r S A L c B' W hE hN hO (by omega) hR hS;have H1:=hid h1;clear h1 hG;have H2:=hid h2;clear h2 hO;show Calls _ _ _ _ fun e w'=>e= .returned (toT (Pz.walk S 0 L))∧_
  obtain⟨R,hRv⟩:=nm (Pz.walk S 0 L);rw[←hRv]at H2⊢;clear hRv
  cases R with
  |ok m=>
   simp only[toT]at H2⊢;go_enter func51,ntmps51;go_wp2_with fail
   refine(H1.o _).mono ?_
   rintro e w1 ⟨A,c,rfl,hc,hS,hb1⟩;have HS:=hid hS;clear hS;go_wp2_with fail
   refine(H2.o _ _ _ _ (HR.o.keep hb1) HS.o).mono ?_
   rintro e w2 ⟨rfl,hb2⟩;go_wp2;go_ret2
   exact⟨rfl,hb1.trans (hb2.mono hb1.size)⟩
  |error v=>
   simp only[toT]at H2⊢;go_enter func51,ntmps51;go_wp2_with fail
   refine(H1.o _).mono ?_
   rintro e w1 ⟨A,c,rfl,hc,hS,hb1⟩;have HS:=hid hS;clear hS;go_wp2_with fail
   refine(H2.o _ _ _ _ (HR.o.keep hb1) HS.o).mono ?_
   rintro e w2 ⟨rfl,hb2⟩;go_wp2;go_ret2
   exact⟨rfl,hb1.trans (hb2.mono hb1.size)⟩
theorem place_some{S:Pz.Fil}{p:List UInt8}{L:List (List UInt8)}{x:List UInt8}(h:Np.pathL p=some (L++[x])):
 Pz.place S p=Pz.placeOn S x (Pz.walk S 0 L):=by
 unfold Pz.place;rw[h];simp only[List.getLast?_concat,List.dropLast_concat]
theorem place_none{S:Pz.Fil}{p:List UInt8}(h:Np.pathL p=none∨Np.pathL p=some []):Pz.place S p= .error 15:=by
 unfold Pz.place;rcases h with h|h<;>rw[h]<;>rfl
theorem place_any(B r:Nat)(S:Pz.Fil)(s:ByteArray)(w:World)(hs:s.size≤100000)(hE:S.E.length≤1000000)(hN:S.N.length≤1000000)(hO:Pz.Ok S)(hR:RefIs w B r S):
 Calls prog 52 #[.pointer (some ⟨r,0,none⟩),.string s] w fun e w'=>e= .returned (toP (Pz.place S s.data.toList))∧Below w.heap.size w w':=by
 have HR:=hid hR;rcases Classical.em (Np.pathL s.data.toList=none)with hG|hG
 ·rw[place_none (Or.inl hG)];have h1:=fun W=>rpathN s W hs hG;have H1:=hid h1;clear h1 hG hO HR hR;simp only[toP];go_enter func52,ntmps52;go_wp2_with fail
  refine(H1.o _).mono ?_
  rintro e w1 ⟨rfl,hb1⟩;go_wp2;go_ret3
  exact⟨rfl,hb1⟩
 rcases Classical.em (Np.pathL s.data.toList=some [])with hG2|hG2
 ·rw[place_none (Or.inr hG2)];have h1:=fun W=>rpathY s [] W hs hG2;have H1:=hid h1;clear h1 hG2 hG hO HR hR;simp only[toP];go_enter func52,ntmps52;go_wp2_with fail
  refine(H1.o _).mono ?_
  rintro e w1 ⟨A,c,rfl,hc,hS,hb1⟩;clear hS;go_wp2;go_ret3
  exact⟨rfl,hb1⟩
 obtain⟨L,x,hL⟩:∃L x,Np.pathL s.data.toList=some (L++[x]):=by
  cases h:Np.pathL s.data.toList with
  |none=>exact absurd h hG
  |some M=>
   have hne:M≠[]:=fun e=>hG2 (by rw[h,e]);exact⟨M.dropLast,M.getLast hne,by rw[List.dropLast_concat_getLast hne]⟩
 rw[place_some hL];have hl6:=(pathL_names hL).1;rw[List.length_append,List.length_singleton]at hl6;have h1:=fun W=>rpathY s (L++[x]) W hs hL;have h2:=fun A c B' W hR hS=>pwalk_any B r S A L c B' W hE hN hO (by omega) hR hS;have hwl:=fun m h=>Pz.walk_lt hO (L:=L) (n:=0) (m:=m) hO.root h;have hwe:=fun e h=>Pz.walk_err (S:=S) (L:=L) (n:=0) (e:=e) h;obtain⟨n,hn⟩:=nm L.length;have hn6:n≤6:=by omega
 have hn1:(L++[x]).length=n+1:=by simp[hn]
 have hP:∀W,Calls prog 100 #[.string s] W fun e w'=>∃b o c,e= .returned (.tuple #[.slice (some ⟨b,o,none⟩) (n+1) c,.int .i64 0])∧n+1≤c∧w'.cell? ⟨b,o+n,none⟩=some (.string ⟨x.toArray⟩)∧Strs w' 0 (some ⟨b,o,none⟩) L∧b<w'.heap.size∧Below W.heap.size W w':=fun W=>by
  refine(h1 W).mono fun e w' ⟨A,c,he,hc,hS,hB⟩=> ?_
  rcases hS with h0|⟨b,o,rfl,h1,h2,h3,h4⟩
  ·simp at h0
  ·exact⟨b,o,c,by rw[he,hn1],by rw[←hn1];exact hc,h3 n x (by rw[hn];simp),Or.inr ⟨b,o,rfl,Nat.zero_le _,h2,fun j y hy=>h3 j y (by rw[List.getElem?_append_left (List.getElem?_eq_some_iff.1 hy).1];exact hy),h4⟩,h2,hB⟩
 rw[←hn]at h2;have H1:=hid hP;have H2:=hid h2;have HWL:=hid hwl;have HWE:=hid hwe;clear hP h1 h2 hwl hwe hL hG hG2 hn hn1;clear hl6;obtain⟨R,hRv⟩:=nm (Pz.walk S 0 L);rw[←hRv]at H2 HWL HWE⊢;clear hRv;have hi0:(0:Int)≤n:=by omega
 have hi1:((n:Int)+1==0)=false:=by rw[beq_eq_false_iff_ne];omega
 have hi2:(n:Int)<(n:Int)+1:=by omega
 cases R with
 |error v=>
  simp only[toT]at H2;simp only[Pz.placeOn,toP];have hv:=HWE.o v rfl;clear hR hO;rcases hv with rfl|rfl
  all_goals
   go_enter func52,ntmps52;go_wp2_with fail
   refine(H1.o _).mono ?_
   rintro e w1 ⟨b1,o1,c1,rfl,hc1,hcell,hS,hbl,hb1⟩;have HS:=hid hS;clear hS;have hi3:(n:Int)≤c1:=by omega
   go_wp2_with fail
   refine(H2.o _ _ _ _ (HR.o.keep hb1) HS.o).mono ?_
   rintro e w2 ⟨rfl,hb2⟩;have hcell2:=(hb2.cell (p:=⟨b1,o1+n,none⟩) hbl).trans hcell;clear hcell;go_wp2;go_ret3
   exact⟨rfl,hb1.trans (hb2.mono hb1.size)⟩
 |ok m=>
  have hm:=HWL.o m rfl;simp only[toT]at H2;obtain⟨vN,vE,vO,hA⟩:=id hR;obtain⟨A2,c2,rfl,hc2,hrow⟩:=row3 hA.oN;obtain⟨nd,hnd⟩:∃nd,S.N[m]? =some nd:=⟨_,List.getElem?_eq_getElem hm⟩;obtain⟨b,rfl,_,hb,h0,h1,h2,_⟩:=hrow m nd hnd;have hc0:=hA.c0;have hlt:=hA.lt;simp only[Pz.placeOn];rw[show Pz.isDir S.N m=nd.dir by unfold Pz.isDir;rw[hnd]];obtain⟨q,hq⟩:=nm S.N.length;rw[←hq]at hc0 hm hN;clear h1 h2 hrow hA hR hO hnd hq;have hm1:(0:Int)≤m:=by omega
  have hm2:(m:Int)<q:=by omega
  cases hd:nd.dir with
  |true=>
   rw[hd]at h0;simp only[if_true,toP];go_enter func52,ntmps52;go_wp2_with fail
   refine(H1.o _).mono ?_
   rintro e w1 ⟨b1,o1,c1,rfl,hc1,hcell,hS,hbl,hb1⟩;have HS:=hid hS;clear hS;have hi3:(n:Int)≤c1:=by omega
   go_wp2_with fail
   refine(H2.o _ _ _ _ (HR.o.keep hb1) HS.o).mono ?_
   rintro e w2 ⟨rfl,hb2⟩;have hcell2:=(hb2.cell (p:=⟨b1,o1+n,none⟩) hbl).trans hcell;clear hcell;have hc0':=((hb1.trans (hb2.mono hb1.size)).cell (p:=⟨r,0,none⟩) hlt).trans hc0;have g0:=((hb1.trans (hb2.mono hb1.size)).cell (p:=⟨b,m*3,none⟩) hb).trans h0;clear h0 hc0;go_wp2;go_quiet (fail)
   go_wp2;go_ret3
   exact⟨rfl,below_drewN (hb1.trans (hb2.mono hb1.size)) _⟩
  |false=>
   rw[hd]at h0;simp only[Bool.false_eq_true,if_false,toP];go_enter func52,ntmps52;go_wp2_with fail
   refine(H1.o _).mono ?_
   rintro e w1 ⟨b1,o1,c1,rfl,hc1,hcell,hS,hbl,hb1⟩;have HS:=hid hS;clear hS;have hi3:(n:Int)≤c1:=by omega
   go_wp2_with fail
   refine(H2.o _ _ _ _ (HR.o.keep hb1) HS.o).mono ?_
   rintro e w2 ⟨rfl,hb2⟩;have hcell2:=(hb2.cell (p:=⟨b1,o1+n,none⟩) hbl).trans hcell;clear hcell;have hc0':=((hb1.trans (hb2.mono hb1.size)).cell (p:=⟨r,0,none⟩) hlt).trans hc0;have g0:=((hb1.trans (hb2.mono hb1.size)).cell (p:=⟨b,m*3,none⟩) hb).trans h0;clear h0 hc0;go_wp2;go_ret3
   exact⟨rfl,hb1.trans (hb2.mono hb1.size)⟩
theorem gset(w:World)(a:Addr)(u:Value):w.grownBy (w.setCell a u) (some a.block):=
 ⟨rfl,rfl,rfl,by simp[World.setCell],fun k _ hk=>Below.heap_setCell w a u k (fun e=>hk (by rw[e]))⟩
theorem gbut{w w':World}{row:Option Nat}(h:w.grownBy w' none):w.grownBy w' row:=⟨h.os,h.tape,h.output,h.size,fun k hk _=>h.block k hk (by simp)⟩
theorem gcell{w w':World}{row:Option Nat}(h:w.grownBy w' row){b j:Nat}(hb:b<w.heap.size)(hne:some b≠row):w'.cell? ⟨b,j,none⟩=w.cell? ⟨b,j,none⟩:=
 World.cell?_of_block (w:=w) (h.block b hb hne)
theorem gfrozen{w w':World}{row:Option Nat}(h:w.grownBy w' row){b j:Nat}(hb:b<w.heap.size)(hne:some b≠row):w'.frozen? ⟨b,j,none⟩=w.frozen? ⟨b,j,none⟩:=
 World.frozen?_of_block (w:=w) (h.block b hb hne)
def Lies(w:World)(v v':Value):Prop:=v'.ownBlock=v.ownBlock∨v'.ownBlock=none∨∃k,w.heap.size≤k∧v'.ownBlock=some k
theorem apart_swap{a b:Option Nat}(h:a=none∨a≠b):b=none∨b≠a:=by
 cases b with
 |none=>exact Or.inl rfl
 |some x=>
  right
  rcases h with e|e
  ·rw[e];simp
  ·exact fun e2=>e e2.symm
theorem apart_new{w:World}{v v' x:Value}(hat:Lies w v v')(h:v.ownBlock=none∨v.ownBlock≠x.ownBlock)(hx:∀j,x.ownBlock=some j→j<w.heap.size):v'.ownBlock=none∨v'.ownBlock≠x.ownBlock:=by
 rcases hat with e|e|⟨k,hk,e⟩
 ·rw[e];exact h
 ·exact Or.inl e
 ·right
  cases hv:x.ownBlock with
  |none=>rw[e];simp
  |some y=>rw[e];intro e2;have:=Option.some.inj e2;have:=hx y hv;omega
theorem apart_row{w:World}{v v':Value}{r:Nat}(hat:Lies w v v')(h:v.ownBlock≠some r)(hr:r<w.heap.size):v'.ownBlock≠some r:=by
 rcases hat with e|e|⟨k,hk,e⟩
 ·rw[e];exact h
 ·rw[e];simp
 ·rw[e];intro e2;have:=Option.some.inj e2;omega
def Inn(F:Nat→Prop)(v:Value):Prop:=∀k,v.ownBlock=some k→F k
def RefF(r:Nat)(S:Pz.Fil)(w:World)(F:Nat→Prop):Prop:=∃vN vE vO,RefAt w 0 r vN vE vO S∧F r∧Inn F vN∧Inn F vE∧Inn F vO
theorem RefF.is{r:Nat}{S:Pz.Fil}{w:World}{F:Nat→Prop}(h:RefF r S w F):RefIs w 0 r S:=by
 obtain⟨vN,vE,vO,h,_⟩:=h;exact⟨vN,vE,vO,h⟩
theorem row_keep{w w':World}{B e sz n:Nat}{v:Value}{xs:List Value}(h:w.ownsRow B e sz v n xs)(hb:∀k,v.ownBlock=some k→w'.heap[k]? =w.heap[k]?):w'.ownsRow B e sz v n xs:=
 ⟨h.1,h.2.imp id fun⟨g,cap,cur,a,b,c,d⟩=>⟨g,cap,cur,a,b,(hb g (by rw[a];rfl)).trans c,d⟩⟩
theorem RefF.held(r:Nat)(S:Pz.Fil):Held (RefF r S) where
 keep:=by
  rintro w w' F ⟨vN,vE,vO,h,hr,hN,hE,hO⟩ hs hb;have e:=hb r h.lt hr;refine⟨vN,vE,vO,{h with
   lt:=Nat.lt_of_lt_of_le h.lt hs
   c0:=(World.cell?_of_block (w:=w) (a:=⟨r,0,none⟩) e).trans h.c0
   c1:=(World.cell?_of_block (w:=w) (a:=⟨r,1,none⟩) e).trans h.c1
   c2:=(World.cell?_of_block (w:=w) (a:=⟨r,2,none⟩) e).trans h.c2
   fr:=fun j=>(World.frozen?_of_block (w:=w) (a:=⟨r,j,none⟩) e).trans (h.fr j)
   oN:=row_keep h.oN fun k hk=>hb k (h.oN.lt k hk).2 (hN k hk)
   oE:=row_keep h.oE fun k hk=>hb k (h.oE.lt k hk).2 (hE k hk)
   oO:=row_keep h.oO fun k hk=>hb k (h.oO.lt k hk).2 (hO k hk)},hr,hN,hE,hO⟩
 mono:=by
  rintro w F G ⟨vN,vE,vO,h,hr,hN,hE,hO⟩ hG;exact⟨vN,vE,vO,h,hG r h.lt hr,fun k hk=>hG k (h.oN.lt k hk).2 (hN k hk),fun k hk=>hG k (h.oE.lt k hk).2 (hE k hk),fun k hk=>hG k (h.oO.lt k hk).2 (hO k hk)⟩
theorem inn_lies{w:World}{F:Nat→Prop}{v v':Value}(h:Inn F v)(hat:Lies w v v'):Inn (Gr F w) v':=by
 intro k hk;rcases hat with e|e|⟨j,hj,e⟩
 ·exact Or.inl (h k (e▸hk))
 ·rw[e]at hk;cases hk
 ·rw[e]at hk;cases hk;exact Or.inr hj
theorem RefAt.putN{w w1:World}{r:Nat}{vN vE vO v':Value}{S:Pz.Fil}{L:List Pz.Nd}{F:Nat→Prop}(h:RefAt w 0 r vN vE vO S)(hr:F r)(hN:Inn F vN)(hE:Inn F vE)(hO:Inn F vO)(hg:w.grownBy w1 vN.ownBlock)(hown:w1.ownsRow 0 115 3 v' L.length (cN L))(hat:Lies w vN v'):
 RefF r {S with N:=L} (w1.setCell ⟨r,0,none⟩ v') (Gr F w)∧Only F w (w1.setCell ⟨r,0,none⟩ v'):=by
 have hre:some r≠vN.ownBlock:=fun e=>h.aN e.symm;have hs:=hg.size;have c0:=(gcell (j:=0) hg h.lt hre).trans h.c0;have c1:=(gcell (j:=1) hg h.lt hre).trans h.c1;have c2:=(gcell (j:=2) hg h.lt hre).trans h.c2;have haw:=apart_row hat h.aN h.lt;have g2:=gset w1 ⟨r,0,none⟩ v';refine⟨⟨v',vE,vO,{
  lo:=h.lo
  lt:=by rw[show(w1.setCell ⟨r,0,none⟩ v').heap.size=w1.heap.size by simp[World.setCell]];exact Nat.lt_of_lt_of_le h.lt hs
  c0:=World.cell?_setCell_same _ _ _ c0
  c1:=by rw[World.cell?_setCell_other (h:=by simp)];exact c1
  c2:=by rw[World.cell?_setCell_other (h:=by simp)];exact c2
  fr:=fun j=>by simpa using(gfrozen (j:=j) hg h.lt hre).trans (h.fr j)
  oN:=hown.kept g2 (Or.inr haw)
  oE:=(h.oE.kept hg (apart_swap h.nE)).kept g2 (Or.inr h.aE)
  oO:=(h.oO.kept hg (apart_swap h.nO)).kept g2 (Or.inr h.aO)
  aN:=haw
  aE:=h.aE
  aO:=h.aO
  nE:=apart_new hat h.nE (fun j hj=>(h.oE.lt j hj).2)
  nO:=apart_new hat h.nO (fun j hj=>(h.oO.lt j hj).2)
  eO:=h.eO},Or.inl hr,inn_lies hN hat,fun k hk=>Or.inl (hE k hk),fun k hk=>Or.inl (hO k hk)⟩,?_⟩
 exact(grown_only hg hN).trans (only_setCell w1 ⟨r,0,none⟩ v' (F:=F) hr) fun _ _ e=>e
theorem RefAt.putE{w w1:World}{r:Nat}{vN vE vO v':Value}{S:Pz.Fil}{L:List Pz.En}{F:Nat→Prop}(h:RefAt w 0 r vN vE vO S)(hr:F r)(hN:Inn F vN)(hE:Inn F vE)(hO:Inn F vO)(hg:w.grownBy w1 vE.ownBlock)(hown:w1.ownsRow 0 171 3 v' L.length (cE L))(hat:Lies w vE v'):
 RefF r {S with E:=L} (w1.setCell ⟨r,1,none⟩ v') (Gr F w)∧Only F w (w1.setCell ⟨r,1,none⟩ v'):=by
 have hre:some r≠vE.ownBlock:=fun e=>h.aE e.symm;have hs:=hg.size;have c0:=(gcell (j:=0) hg h.lt hre).trans h.c0;have c1:=(gcell (j:=1) hg h.lt hre).trans h.c1;have c2:=(gcell (j:=2) hg h.lt hre).trans h.c2;have haw:=apart_row hat h.aE h.lt;have g2:=gset w1 ⟨r,1,none⟩ v';refine⟨⟨vN,v',vO,{
  lo:=h.lo
  lt:=by rw[show(w1.setCell ⟨r,1,none⟩ v').heap.size=w1.heap.size by simp[World.setCell]];exact Nat.lt_of_lt_of_le h.lt hs
  c0:=by rw[World.cell?_setCell_other (h:=by simp)];exact c0
  c1:=World.cell?_setCell_same _ _ _ c1
  c2:=by rw[World.cell?_setCell_other (h:=by simp)];exact c2
  fr:=fun j=>by simpa using(gfrozen (j:=j) hg h.lt hre).trans (h.fr j)
  oN:=(h.oN.kept hg h.nE).kept g2 (Or.inr h.aN)
  oE:=hown.kept g2 (Or.inr haw)
  oO:=(h.oO.kept hg (apart_swap h.eO)).kept g2 (Or.inr h.aO)
  aN:=h.aN
  aE:=haw
  aO:=h.aO
  nE:=apart_swap (apart_new hat (apart_swap h.nE) (fun j hj=>(h.oN.lt j hj).2))
  nO:=h.nO
  eO:=apart_new hat h.eO (fun j hj=>(h.oO.lt j hj).2)},Or.inl hr,fun k hk=>Or.inl (hN k hk),inn_lies hE hat,fun k hk=>Or.inl (hO k hk)⟩,?_⟩
 exact(grown_only hg hE).trans (only_setCell w1 ⟨r,1,none⟩ v' (F:=F) hr) fun _ _ e=>e
theorem RefAt.putO{w w1:World}{r:Nat}{vN vE vO v':Value}{S:Pz.Fil}{L:List Pz.Op}{F:Nat→Prop}(h:RefAt w 0 r vN vE vO S)(hr:F r)(hN:Inn F vN)(hE:Inn F vE)(hO:Inn F vO)(hg:w.grownBy w1 vO.ownBlock)(hown:w1.ownsRow 0 117 3 v' L.length (cO L))(hat:Lies w vO v'):
 RefF r {S with O:=L} (w1.setCell ⟨r,2,none⟩ v') (Gr F w)∧Only F w (w1.setCell ⟨r,2,none⟩ v'):=by
 have hre:some r≠vO.ownBlock:=fun e=>h.aO e.symm;have hs:=hg.size;have c0:=(gcell (j:=0) hg h.lt hre).trans h.c0;have c1:=(gcell (j:=1) hg h.lt hre).trans h.c1;have c2:=(gcell (j:=2) hg h.lt hre).trans h.c2;have haw:=apart_row hat h.aO h.lt;have g2:=gset w1 ⟨r,2,none⟩ v';refine⟨⟨vN,vE,v',{
  lo:=h.lo
  lt:=by rw[show(w1.setCell ⟨r,2,none⟩ v').heap.size=w1.heap.size by simp[World.setCell]];exact Nat.lt_of_lt_of_le h.lt hs
  c0:=by rw[World.cell?_setCell_other (h:=by simp)];exact c0
  c1:=by rw[World.cell?_setCell_other (h:=by simp)];exact c1
  c2:=World.cell?_setCell_same _ _ _ c2
  fr:=fun j=>by simpa using(gfrozen (j:=j) hg h.lt hre).trans (h.fr j)
  oN:=(h.oN.kept hg h.nO).kept g2 (Or.inr h.aN)
  oE:=(h.oE.kept hg h.eO).kept g2 (Or.inr h.aE)
  oO:=hown.kept g2 (Or.inr haw)
  aN:=h.aN
  aE:=h.aE
  aO:=haw
  nE:=h.nE
  nO:=apart_swap (apart_new hat (apart_swap h.nO) (fun j hj=>(h.oN.lt j hj).2))
  eO:=apart_swap (apart_new hat (apart_swap h.eO) (fun j hj=>(h.oE.lt j hj).2))},Or.inl hr,fun k hk=>Or.inl (hN k hk),fun k hk=>Or.inl (hE k hk),inn_lies hO hat⟩,?_⟩
 exact(grown_only hg hO).trans (only_setCell w1 ⟨r,2,none⟩ v' (F:=F) hr) fun _ _ e=>e
theorem infoE:(prog.info? 171).map (fun i=>(i.zero,i.size,i.bytes))=some (some (.agg #[.int .i64 0,.string ByteArray.empty,.int .i64 0]),3,32):=by kernel_rfl
theorem pinfoN:(prog.info? 115).map (fun i=>(i.zero,i.size,i.bytes))=some (some (.agg #[.bool false,.string ByteArray.empty,.int .i64 0]),3,32):=by kernel_rfl
theorem infoO:(prog.info? 117).map (fun i=>(i.zero,i.size,i.bytes))=some (some (.agg #[.int .i64 0,.int .i64 0,.int .i64 0]),3,24):=by kernel_rfl
theorem pcells_new3(w:World)(x y z:Value)(t:TypeId):∀j u,[x,y,z][j]? =some u→(w.alloc (.cells #[x,y,z] t)).cell? ((⟨w.heap.size,0,none⟩:Addr).add j)=some u:=by
 intro j u hj;match j,hj with
 |0,hj=>simp at hj;subst hj;simp[Addr.add]
 |1,hj=>simp at hj;subst hj;simp[Addr.add]
 |2,hj=>simp at hj;subst hj;simp[Addr.add]
theorem lies_at{w:World}{v v':Value}(h:v'.ownBlock=v.ownBlock∨v'.ownBlock=some w.heap.size):Lies w v v':=h.imp id fun e=>Or.inr ⟨_,Nat.le_refl _,e⟩
theorem pput_any(r:Nat)(S:Pz.Fil)(i n:Nat)(s:ByteArray)(w:World)(F:Nat→Prop)(hE:S.E.length≤1000000)(hR:RefF r S w F):
 Calls prog 53 #[.pointer (some ⟨r,0,none⟩),.int .i64 i,.string s,.int .i64 n] w fun e w'=>e= .returned (.tuple #[])∧RefF r {S with E:=S.E++[⟨i,s.data.toList,n⟩]} w' (Gr F w)∧Only F w w':=by
 obtain⟨vN,vE,vO,hA,hr,hiN,hiE,hiO⟩:=hR;have HI:=hid (And.intro hr (And.intro hiN (And.intro hiE hiO)));clear hr hiN hiE hiO;have hc1:=hA.c1;have hlt:=hA.lt;have hlo:=hA.lo;have hfr:=hA.fr 1;have HA:=hid hA;have hoE:=hA.oE;clear hA;obtain⟨i0,hi,hz0,hz1,hz2⟩:=info_parts infoE;have hsn:cE S.E++[.int .i64 i,.string s,.int .i64 n]=cE (S.E++[⟨i,s.data.toList,n⟩]):=by
  unfold cE;rw[Pz.three_snoc]
 have Hsn:=hid hsn;clear hsn;go_enter func53,ntmps53;go_wp2_with(at_builtin;go_loud (refine wpList_append_own_at _ rfl _ _ 110 rfl 0 171 i0 _ 3 32 underlying110 hi hz0 hz1 hz2 rfl (by decide) vE S.E.length (cE S.E) rfl (hoE.alloc _) ⟨w.heap.size,0,none⟩ 1 1 [.int .i64 i,.string s,.int .i64 n] rfl rfl ?_ (by intro u hu;simp at hu;rcases hu with rfl|rfl|rfl<;>rfl) (by unfold maxLen;omega) (by omega) (Nat.zero_le _) ?_))
 ·exact pcells_new3 _ _ _ _ _
 intro v' w1 hown hgrow _ hat;have hba:=(Below.refl w.heap.size w).alloc (Nat.le_refl _) (.cells #[.int .i64 i,.string s,.int .i64 n] 171);have hA0:=HA.o.keep hba;obtain⟨hr,hiN,hiE,hiO⟩:=HI.o;rw[Hsn.o,show S.E.length+1=(S.E++[(⟨i,s.data.toList,n⟩:Pz.En)]).length by simp]at hown;obtain⟨A',c',rfl,_,_⟩:=row3 hown;obtain⟨hR',hb'⟩:=hA0.putE hr hiN hiE hiO hgrow hown (lies_at (by simpa using hat));have hre:some r≠vE.ownBlock:=fun e=>hA0.aE e.symm;have c1':=(gcell (j:=1) hgrow hA0.lt hre).trans hA0.c1;have f1':=(gfrozen (j:=1) hgrow hA0.lt hre).trans (hA0.fr 1);have hB2:=(RefF.held _ _).back hba hR' hb';rw[List.length_append,List.length_singleton]at hB2;have HR':=hid hB2;clear hR' hA0 hown hb' hat hB2 hr hiN hiE hiO;go_wp2;go_end0
 exact⟨rfl,HR'.o⟩
theorem node_any(r:Nat)(S:Pz.Fil)(d:Bool)(w:World)(F:Nat→Prop)(hE:S.N.length≤1000000)(hR:RefF r S w F):
 Calls prog 54 #[.pointer (some ⟨r,0,none⟩),.bool d] w fun e w'=>e= .returned (.int .i64 S.N.length)∧RefF r {S with N:=S.N++[⟨d,[],1⟩]} w' (Gr F w)∧Only F w w':=by
 obtain⟨vN,vE,vO,hA,hr,hiN,hiE,hiO⟩:=hR;have HI:=hid (And.intro hr (And.intro hiN (And.intro hiE hiO)));clear hr hiN hiE hiO;have hc1:=hA.c0;have hlt:=hA.lt;have hlo:=hA.lo;have hfr:=hA.fr 0;have HA:=hid hA;have hoE:=hA.oN;clear hA;obtain⟨i0,hi,hz0,hz1,hz2⟩:=info_parts pinfoN;have hsn:cN S.N++[.bool d,.string ByteArray.empty,.int .i64 1]=cN (S.N++[⟨d,[],1⟩]):=by
  unfold cN;rw[Pz.three_snoc];rfl
 have Hsn:=hid hsn;clear hsn;go_enter func54,ntmps54;go_wp2_with(at_builtin;go_loud (refine wpList_append_own_at _ rfl _ _ 109 rfl 0 115 i0 _ 3 32 underlying109 hi hz0 hz1 hz2 rfl (by decide) vN S.N.length (cN S.N) rfl (hoE.alloc _) ⟨w.heap.size,0,none⟩ 1 1 [.bool d,.string ByteArray.empty,.int .i64 1] rfl rfl ?_ (by intro u hu;simp at hu;rcases hu with rfl|rfl|rfl<;>rfl) (by unfold maxLen;omega) (by omega) (Nat.zero_le _) ?_))
 ·exact pcells_new3 _ _ _ _ _
 intro v' w1 hown hgrow _ hat;have hba:=(Below.refl w.heap.size w).alloc (Nat.le_refl _) (.cells #[.bool d,.string ByteArray.empty,.int .i64 1] 115);have hA0:=HA.o.keep hba;obtain⟨hr,hiN,hiE,hiO⟩:=HI.o;rw[Hsn.o,show S.N.length+1=(S.N++[(⟨d,[],1⟩:Pz.Nd)]).length by simp]at hown;obtain⟨A',c',rfl,_,_⟩:=row3 hown;obtain⟨hR',hb'⟩:=hA0.putN hr hiN hiE hiO hgrow hown (lies_at (by simpa using hat));have hre:some r≠vN.ownBlock:=fun e=>hA0.aN e.symm;have c1':=(gcell (j:=0) hgrow hA0.lt hre).trans hA0.c0;have f1':=(gfrozen (j:=0) hgrow hA0.lt hre).trans (hA0.fr 0);have hB2:=(RefF.held _ _).back hba hR' hb';rw[List.length_append,List.length_singleton]at hB2;have HR':=hid hB2;clear hR' hA0 hown hb' hat hB2 hr hiN hiE hiO;have hc0':(w1.setCell ⟨r,0,none⟩ (.slice A' (S.N.length+1) c')).cell? ⟨r,0,none⟩=some (.slice A' (S.N.length+1) c'):=World.cell?_setCell_same _ _ _ c1'
 go_wp2;go_ret
 exact⟨rfl,HR'.o⟩
theorem row_low{w:World}{B B' e sz n:Nat}{v:Value}{xs:List Value}(h:w.ownsRow B' e sz v n xs)(hB:B≤B'):w.ownsRow B e sz v n xs:=
 ⟨h.1,h.2.imp id fun⟨g,cap,cur,a,b,c⟩=>⟨g,cap,cur,a,Nat.le_trans hB b,c⟩⟩
theorem ptake_any(r:Nat)(S:Pz.Fil)(i:Nat)(s:ByteArray)(w:World)(F:Nat→Prop)(hE:S.E.length≤1000000)(hR:RefF r S w F):
 Calls prog 57 #[.pointer (some ⟨r,0,none⟩),.int .i64 i,.string s] w fun e w'=>e= .returned (.tuple #[])∧RefF r {S with E:=Pz.take S.E i s.data.toList} w' (Gr F w)∧Only F w w':=by
 obtain⟨vN,vE,vO,hA,hr,hiN,hiE,hiO⟩:=hR;have HI:=hid (And.intro hr (And.intro hiN (And.intro hiE hiO)));clear hr hiN hiE hiO;have HA:=hid hA;obtain⟨A,c,rfl,hc,hrow⟩:=row3 hA.oE;have hc1:=hA.c1;have hlt:=hA.lt;have hfr:=hA.fr 1;have HR:=hid hrow;clear hrow hA hc;obtain⟨n,hn⟩:=nm S.E.length;rw[←hn]at hc1 hE;have Hn:=hid hn;clear hn;obtain⟨i0,hi,hz0,hz1,hz2⟩:=info_parts infoE;go_enter func57,ntmps57;go_wp2;go_loopw[6,7] (fun u v wr=>∃(k:Nat) (T:List Pz.En),k≤n∧T.length≤k∧v= .int .i64 k∧wr.ownsRow w.heap.size 171 3 u T.length (cE T)∧Hid (T=Pz.take (S.E.take k) i s.data.toList)∧Below w.heap.size w wr) (fun _ v _=>n-(intOf v).toNat)
 case atStart=>exact⟨0,[],by omega,by simp,rfl,World.ownsRow_nil _ _ _ _,by show[]=Pz.take (S.E.take 0) i _;rfl,Below.refl _ _⟩
 case round=>
  obtain⟨k,T,hk,hT,rfl,hown,hok,hbw⟩:=hrel;have hc1':wr.cell? ⟨r,1,none⟩=some (.slice A n c):=(hbw.cell (p:=⟨r,1,none⟩) hlt).trans hc1;obtain⟨A',c',hv,hc',_⟩:=row3 hown;rw[hv]at hown;rw[hv];by_cases hkn:k<n
  ·obtain⟨e,he⟩:∃e,S.E[k]? =some e:=⟨_,List.getElem?_eq_getElem (by have:=Hn.o;omega)⟩;obtain⟨b,rfl,_,hb,h0,h1,h2,_⟩:=HR.o k e he;have hst:=Pz.take_step (i:=i) (x:=s.data.toList) he;rw[←hok.o]at hst;have Hst:=hid hst;obtain⟨x,hx⟩:∃x:ByteArray,x=⟨e.name.toArray⟩:=⟨_,rfl⟩;rw[←hx]at h1;have Hx:=hid hx;have g0:=(hbw.cell (p:=⟨b,k*3,none⟩) hb).trans h0;have g1:=(hbw.cell (p:=⟨b,k*3+1,none⟩) hb).trans h1;have g2:=(hbw.cell (p:=⟨b,k*3+2,none⟩) hb).trans h2;clear h0 h1 h2 he hst hc1 hx;have hk1:(0:Int)≤k:=by omega
   have hk2:(k:Int)<n:=by omega
   have hsn:cE T++[.int .i64 e.dir,.string x,.int .i64 e.node]=cE (T++[e]):=by
    unfold cE;rw[Pz.three_snoc,Hx.o]
   have Hsn:=hid hsn;clear hsn;by_cases hd:e.dir=i
   ·subst hd;go_wp2_with(at_builtin;refine wpList_append_own _ rfl _ _ 110 rfl w.heap.size 171 i0 _ 3 32 underlying110 hi hz0 hz1 hz2 rfl (by decide) (.slice A' T.length c') T.length (cE T) rfl (hown.alloc _) ⟨wr.heap.size,0,none⟩ 1 1 [.int .i64 e.dir,.string x,.int .i64 e.node] rfl rfl (pcells_new3 _ _ _ _ _) (by intro u hu;simp at hu;rcases hu with rfl|rfl|rfl<;>rfl) (by unfold maxLen;omega) (by omega) (by have:=hbw.size;simp;omega) ?_;intro v' w1 hown' hgrow _)
    ·have hne:¬(e.dir=e.dir∧e.name=s.data.toList):=by
      have h1:(!x.toList==s.toList)=true:=by assumption
      rintro⟨_,h2⟩;rw[Hx.o,Lib.toList_data,Lib.toList_data]at h1;simp[h2]at h1
     have Hne:=hid hne;clear hne;rw[Hsn.o,show T.length+1=(T++[e]).length by simp]at hown';have hB1:Below w.heap.size w w1:=(hbw.alloc hbw.size _).grown hgrow (by have:=hbw.size;simp;omega) (fun q hq=>(hown.lt q hq).1);obtain⟨A2,c2,hv',_,_⟩:=row3 hown';rw[hv']at hown';rw[hv'];have HO:=hid hown';clear hown' hown hv' hv;go_wp2;go_roundw
     case rel=>exact⟨k+1,T++[e],by omega,by simp;omega,by go_num,HO.o,by show T++[e]=_;rw[Hst.o,if_neg Hne.o],hB1⟩
     case measure=>simp[intOf];omega
    ·have hps:e.dir=e.dir∧e.name=s.data.toList:=by
      have h1:(!x.toList==s.toList)=false:=by assumption
      rw[Hx.o,Lib.toList_data,Lib.toList_data]at h1;exact⟨rfl,by simpa using h1⟩
     go_roundw
     case rel=>exact⟨k+1,T,by omega,by omega,by go_num,hown,by show T=_;rw[Hst.o,if_pos hps];simp,hbw⟩
     case measure=>simp[intOf];omega
   ·have hd1:((e.dir:Int)==i)=false:=by rw[beq_eq_false_iff_ne];omega
    have Hne:Hid (¬(e.dir=i∧e.name=s.data.toList)):=hid fun h=>hd h.1;go_wp2_with(at_builtin;refine wpList_append_own _ rfl _ _ 110 rfl w.heap.size 171 i0 _ 3 32 underlying110 hi hz0 hz1 hz2 rfl (by decide) (.slice A' T.length c') T.length (cE T) rfl (hown.alloc _) ⟨wr.heap.size,0,none⟩ 1 1 [.int .i64 e.dir,.string x,.int .i64 e.node] rfl rfl (pcells_new3 _ _ _ _ _) (by intro u hu;simp at hu;rcases hu with rfl|rfl|rfl<;>rfl) (by unfold maxLen;omega) (by omega) (by have:=hbw.size;simp;omega) ?_;intro v' w1 hown' hgrow _)
    rw[Hsn.o,show T.length+1=(T++[e]).length by simp]at hown';have hB1:Below w.heap.size w w1:=(hbw.alloc hbw.size _).grown hgrow (by have:=hbw.size;simp;omega) (fun q hq=>(hown.lt q hq).1);obtain⟨A2,c2,hv',_,_⟩:=row3 hown';rw[hv']at hown';rw[hv'];have HO:=hid hown';clear hown' hown hv' hv;go_wp2;go_roundw
    case rel=>exact⟨k+1,T++[e],by omega,by simp;omega,by go_num,HO.o,by show T++[e]=_;rw[Hst.o,if_neg Hne.o],hB1⟩
    case measure=>simp[intOf];omega
  ·have hk2:(n:Int)≤k:=by omega
   have hTE:T=Pz.take S.E i s.data.toList:=by rw[hok.o,List.take_of_length_le (by have:=Hn.o;omega)]
   have hat:Lies w (.slice A S.E.length c) (.slice A' T.length c'):=by
    cases hv:(Value.slice A' T.length c').ownBlock with
    |none=>exact Or.inr (Or.inl hv)
    |some q=>exact Or.inr (Or.inr ⟨q,(hown.lt q hv).1,hv⟩)
   obtain⟨hr,hiN,hiE,hiO⟩:=HI.o;have hR':=HA.o.putE hr hiN hiE hiO (gbut (grown_of hbw)) (row_low hown (Nat.zero_le _)) hat;have f1':wr.frozen? ⟨r,1,none⟩=false:=(hbw.frozen (p:=⟨r,1,none⟩) hlt).trans hfr;have HR':=hid hR';clear hR' hown hat hr hiN hiE hiO;go_wp2;go_end0
   rw[←hTE];exact⟨rfl,HR'.o⟩
theorem drop_any(r:Nat)(S:Pz.Fil)(cl:Int)(w:World)(F:Nat→Prop)(hE:S.O.length≤1000000)(hR:RefF r S w F):
 Calls prog 19 #[.pointer (some ⟨r,0,none⟩),.int .i64 cl] w fun e w'=>e= .returned (.tuple #[])∧RefF r {S with O:=Pz.drop S.O cl} w' (Gr F w)∧Only F w w':=by
 obtain⟨vN,vE,vO,hA,hr,hiN,hiE,hiO⟩:=hR;have HI:=hid (And.intro hr (And.intro hiN (And.intro hiE hiO)));clear hr hiN hiE hiO;have HA:=hid hA;obtain⟨A,c,rfl,hc,hrow⟩:=row3 hA.oO;have hc1:=hA.c2;have hlt:=hA.lt;have hfr:=hA.fr 2;have HR:=hid hrow;clear hrow hA hc;obtain⟨n,hn⟩:=nm S.O.length;rw[←hn]at hc1 hE;have Hn:=hid hn;clear hn;obtain⟨i0,hi,hz0,hz1,hz2⟩:=info_parts infoO;go_enter func19,ntmps19;go_wp2;go_loopw[4,5] (fun u v wr=>∃(k:Nat) (T:List Pz.Op),k≤n∧T.length≤k∧v= .int .i64 k∧wr.ownsRow w.heap.size 117 3 u T.length (cO T)∧Hid (T=Pz.drop (S.O.take k) cl)∧Below w.heap.size w wr) (fun _ v _=>n-(intOf v).toNat)
 case atStart=>exact⟨0,[],by omega,by simp,rfl,World.ownsRow_nil _ _ _ _,by show[]=Pz.drop (S.O.take 0) cl;rfl,Below.refl _ _⟩
 case round=>
  obtain⟨k,T,hk,hT,rfl,hown,hok,hbw⟩:=hrel;have hc1':wr.cell? ⟨r,2,none⟩=some (.slice A n c):=(hbw.cell (p:=⟨r,2,none⟩) hlt).trans hc1;obtain⟨A',c',hv,hc',_⟩:=row3 hown;rw[hv]at hown;rw[hv];by_cases hkn:k<n
  ·obtain⟨e,he⟩:∃e,S.O[k]? =some e:=⟨_,List.getElem?_eq_getElem (by have:=Hn.o;omega)⟩;obtain⟨b,rfl,_,hb,h0,h1,h2,_⟩:=HR.o k e he;have hst:=Pz.drop_step (c:=cl) he;rw[←hok.o]at hst;have Hst:=hid hst;have g0:=(hbw.cell (p:=⟨b,k*3,none⟩) hb).trans h0;have g1:=(hbw.cell (p:=⟨b,k*3+1,none⟩) hb).trans h1;have g2:=(hbw.cell (p:=⟨b,k*3+2,none⟩) hb).trans h2;clear h0 h1 h2 he hst hc1;have hk1:(0:Int)≤k:=by omega
   have hk2:(k:Int)<n:=by omega
   have hsn:cO T++[.int .i64 e.client,.int .i64 e.fd,.int .i64 e.node]=cO (T++[e]):=by
    unfold cO;rw[Pz.three_snoc]
   have Hsn:=hid hsn;clear hsn;by_cases hd:e.client=cl
   ·have hd1:(e.client==cl)=true:=by rw[beq_iff_eq];exact hd
    go_wp2;go_roundw
    case rel=>exact⟨k+1,T,by omega,by omega,by go_num,hown,by show T=_;rw[Hst.o,if_pos hd];simp,hbw⟩
    case measure=>simp[intOf];omega
   ·have hd1:(e.client==cl)=false:=by rw[beq_eq_false_iff_ne];exact hd
    have Hne:Hid (¬e.client=cl):=hid hd;go_wp2_with(at_builtin;refine wpList_append_own _ rfl _ _ 111 rfl w.heap.size 117 i0 _ 3 24 underlying111 hi hz0 hz1 hz2 rfl (by decide) (.slice A' T.length c') T.length (cO T) rfl (hown.alloc _) ⟨wr.heap.size,0,none⟩ 1 1 [.int .i64 e.client,.int .i64 e.fd,.int .i64 e.node] rfl rfl (pcells_new3 _ _ _ _ _) (by intro u hu;simp at hu;rcases hu with rfl|rfl|rfl<;>rfl) (by unfold maxLen;omega) (by omega) (by have:=hbw.size;simp;omega) ?_;intro v' w1 hown' hgrow _)
    rw[Hsn.o,show T.length+1=(T++[e]).length by simp]at hown';have hB1:Below w.heap.size w w1:=(hbw.alloc hbw.size _).grown hgrow (by have:=hbw.size;simp;omega) (fun q hq=>(hown.lt q hq).1);obtain⟨A2,c2,hv',_,_⟩:=row3 hown';rw[hv']at hown';rw[hv'];have HO:=hid hown';clear hown' hown hv' hv;go_wp2;go_roundw
    case rel=>exact⟨k+1,T++[e],by omega,by simp;omega,by go_num,HO.o,by show T++[e]=_;rw[Hst.o,if_neg Hne.o],hB1⟩
    case measure=>simp[intOf];omega
  ·have hk2:(n:Int)≤k:=by omega
   have hTE:T=Pz.drop S.O cl:=by rw[hok.o,List.take_of_length_le (by have:=Hn.o;omega)]
   have hat:Lies w (.slice A S.O.length c) (.slice A' T.length c'):=by
    cases hv:(Value.slice A' T.length c').ownBlock with
    |none=>exact Or.inr (Or.inl hv)
    |some q=>exact Or.inr (Or.inr ⟨q,(hown.lt q hv).1,hv⟩)
   obtain⟨hr,hiN,hiE,hiO⟩:=HI.o;have hR':=HA.o.putO hr hiN hiE hiO (gbut (grown_of hbw)) (row_low hown (Nat.zero_le _)) hat;have f1':wr.frozen? ⟨r,2,none⟩=false:=(hbw.frozen (p:=⟨r,2,none⟩) hlt).trans hfr;have HR':=hid hR';clear hR' hown hat hr hiN hiE hiO;go_wp2;go_end0
   rw[←hTE];exact⟨rfl,HR'.o⟩
def replyV(errno fd:Int)(data:ByteArray)(names:Value)(k l s:Int):Value:= .agg #[.int .i64 errno,.int .i64 fd,.string data,names,.int .i64 k,.int .i64 l,.int .i64 s]
theorem infoR:(prog.info? 47).map (·.size)=some 7:=by kernel_rfl
theorem rfails_any(e0:Int)(w:World):
 Calls prog 47 #[.int .i64 e0] w fun e w'=>e= .returned (replyV e0 0 ⟨#[]⟩ (.slice none 0 0) 0 0 0)∧Below w.heap.size w w':=by
 go_enter func47,ntmps47;go_wp2;try simp only[Exit.inBlock,Exit.then]
 refine bodyPost_ret (results_cell_row rfl _ _ w.heap.size _ #[.int .i64 e0,.int .i64 0,.string ⟨#[]⟩,.slice none 0 0,.int .i64 0,.int .i64 0,.int .i64 0] _ _ rfl (heap_alloc_new _ _) underlying47 rfl infoR) rfl ?_;exact⟨rfl,(Below.refl _ _).alloc (Nat.le_refl _) _⟩
def newFS:Pz.Fil:={N:=[⟨true,[],1⟩],E:=[],O:=[]}
theorem ref_empty(w:World)(t:TypeId):RefAt (w.alloc (.cells #[.slice none 0 0,.slice none 0 0,.slice none 0 0] t)) 0 w.heap.size (.slice none 0 0) (.slice none 0 0) (.slice none 0 0) {N:=[],E:=[],O:=[]} where
 lo:=Nat.zero_le _
 lt:=by simp
 c0:=by simp
 c1:=by simp
 c2:=by simp
 fr:=fun j=>frozen_new _ _ _ _
 oN:=World.ownsRow_nil _ _ _ _
 oE:=World.ownsRow_nil _ _ _ _
 oO:=World.ownsRow_nil _ _ _ _
 aN:=by simp[Value.ownBlock]
 aE:=by simp[Value.ownBlock]
 aO:=by simp[Value.ownBlock]
 nE:=Or.inl rfl
 nO:=Or.inl rfl
 eO:=Or.inl rfl
theorem rnew_any(w:World):
 Calls prog 18 #[] w fun e w'=>e= .returned (.pointer (some ⟨w.heap.size,0,none⟩))∧RefF w.heap.size newFS w' (fun k=>w.heap.size≤k)∧Below w.heap.size w w':=by
 obtain⟨i0,hi,hz0,hz1,hz2⟩:=info_parts pinfoN;go_enter func18,ntmps18;go_wp2_with(at_builtin;go_loud (refine wpList_append_own_at _ rfl _ _ 109 rfl 0 115 i0 _ 3 32 underlying109 hi hz0 hz1 hz2 rfl (by decide) (.slice none 0 0) 0 [] rfl (World.ownsRow_nil _ _ _ _) ⟨w.heap.size+1,0,none⟩ 1 1 [.bool true,.string ByteArray.empty,.int .i64 1] rfl rfl ?_ (by intro u hu;simp at hu;rcases hu with rfl|rfl|rfl<;>rfl) (by unfold maxLen;omega) (by omega) (Nat.zero_le _) ?_))
 ·intro j u hu;have:=pcells_new3 (w.alloc (.cells #[.slice none 0 0,.slice none 0 0,.slice none 0 0] 113)) (.bool true) (.string ByteArray.empty) (.int .i64 1) 115 j u hu
  rwa [show(w.alloc (.cells #[.slice none 0 0,.slice none 0 0,.slice none 0 0] 113)).heap.size=w.heap.size+1 by simp]at this
 intro v' w1 hown hgrow _ hat;have hA0:=(ref_empty w 113).keep ((Below.refl _ _).alloc (Nat.le_refl _) (.cells #[.bool true,.string ⟨#[]⟩,.int .i64 1] 115));have hBa:=((Below.refl w.heap.size w).alloc (Nat.le_refl _) (.cells #[.slice none 0 0,.slice none 0 0,.slice none 0 0] 113)).alloc (by simp) (.cells #[.bool true,.string ⟨#[]⟩,.int .i64 1] 115);obtain⟨A',c',rfl,_,_⟩:=row3 (L:=[(⟨true,[],1⟩:Pz.Nd)]) (f:=fun x=> .bool x.dir) (g:=fun x=> .string ⟨x.data.toArray⟩) (h:=fun x=> .int .i64 x.links) hown;obtain⟨hR',hb'⟩:=hA0.putN (F:=fun k=>w.heap.size≤k) (L:=[(⟨true,[],1⟩:Pz.Nd)]) (Nat.le_refl _) (by intro k hk;cases hk) (by intro k hk;cases hk) (by intro k hk;cases hk) hgrow hown (lies_at (by simpa using hat))
 have hre:some w.heap.size≠(Value.slice none 0 0).ownBlock:=by simp[Value.ownBlock]
 have c1':=(gcell (j:=0) hgrow hA0.lt hre).trans hA0.c0;have f1':=(gfrozen (j:=0) hgrow hA0.lt hre).trans (hA0.fr 0);have hB2:=hBa.trans (hb'.below (B:=w.heap.size) (by simp;omega) (fun k hk=>by omega));have hR2:=(RefF.held _ _).mono (G:=fun k=>w.heap.size≤k) hR' fun k _ e=>e.elim id fun e=>by simp at e;omega
 have HR':=hid hR2;clear hR' hA0 hown hb' hat hBa hR2;go_wp2;go_ret
 exact⟨rfl,HR'.o,hB2⟩
section
open Go.Shelf
def PSt[MemNo](x t r:Nat)(S:List UInt8)(M:Gd.Vol)(Z:Pz.Fil)(c K:Nat)(w a:World)(Ls:List (Nat×Obj)):Prop:=
 ∃F' G,Step (MetaV x t S M c K) Nof w F' a∧RefF r Z a G∧(∀k,G k→w.heap.size≤k∧k<a.heap.size∧¬F' k)∧∀p∈Ls,w.heap.size≤p.1∧¬F' p.1∧¬G p.1∧a.heap[p.1]? =some p.2
variable {x t r c K:Nat} {S:List UInt8} {M:Gd.Vol} {Z:Pz.Fil} {w a b:World} {Ls:List (Nat×Obj)}
theorem PSt.tl[MemNo](h:PSt x t r S M Z c K w a Ls):Tl x t S M c K Nof w a Ls:=by
 obtain⟨F',G,h1,h2,h3,h4⟩:=h;exact⟨F',h1,fun p hp=>⟨(h4 p hp).1,(h4 p hp).2.1,(h4 p hp).2.2.2⟩⟩
theorem PSt.belowW[MemNo](h:PSt x t r S M Z c K w a Ls):Below w.heap.size w a:=h.tl.belowW
theorem PSt.size[MemNo](h:PSt x t r S M Z c K w a Ls):w.heap.size≤a.heap.size:=h.tl.size
theorem PSt.get[MemNo](h:PSt x t r S M Z c K w a Ls){k:Nat}{o:Obj}(hk:(k,o)∈Ls):a.heap[k]? =some o:=h.tl.get hk
theorem PSt.good[MemNo](h:PSt x t r S M Z 0 K w a Ls):Gd.Good S M:=h.tl.good
theorem PSt.mx[MemNo](h:PSt x t r S M Z c K w a Ls)(hM:Mx w):Mx a:=by
 obtain⟨m,hm⟩:=hM;exact⟨m,(h.belowW.cell (p:=⟨0,0,none⟩) (mx_lt hm)).trans hm⟩
theorem PSt.below[MemNo](h:PSt x t r S M Z c K w a Ls)(hb:Below a.heap.size a b):PSt x t r S M Z c K w b Ls:=by
 obtain⟨F',G,h1,h2,h3,h4⟩:=h;refine⟨F',G,⟨h1.inv.below hb,h1.old,h1.only.trans (below_only hb Nof) fun _ _ e=>e⟩,(RefF.held r Z).below h2 hb,fun k hk=>⟨(h3 k hk).1,Nat.lt_of_lt_of_le (h3 k hk).2.1 hb.size,(h3 k hk).2.2⟩,fun p hp=>⟨(h4 p hp).1,(h4 p hp).2.1,(h4 p hp).2.2.1,?_⟩⟩;rw[hb.block p.1 (lt_get (h4 p hp).2.2.2)];exact(h4 p hp).2.2.2
theorem PSt.new[MemNo](h:PSt x t r S M Z c K w a Ls)(hb:Below a.heap.size a b){k:Nat}{o:Obj}(hk:a.heap.size≤k)(ho:b.heap[k]? =some o):PSt x t r S M Z c K w b ((k,o)::Ls):=by
 have hw:=h.size;obtain⟨F',G,h1,h2,h3,h4⟩:=h;refine⟨F',G,⟨h1.inv.below hb,h1.old,h1.only.trans (below_only hb Nof) fun _ _ e=>e⟩,(RefF.held r Z).below h2 hb,fun q hq=>⟨(h3 q hq).1,Nat.lt_of_lt_of_le (h3 q hq).2.1 hb.size,(h3 q hq).2.2⟩,fun p hp=> ?_⟩;rcases List.mem_cons.1 hp with rfl|hp
 ·exact⟨Nat.le_trans hw hk,fun e=>absurd (h1.inv.tight k e) (Nat.not_lt.2 hk),fun e=>absurd (h3 k e).2.1 (Nat.not_lt.2 hk),ho⟩
 ·exact⟨(h4 p hp).1,(h4 p hp).2.1,(h4 p hp).2.2.1,(hb.block p.1 (lt_get (h4 p hp).2.2.2)).trans (h4 p hp).2.2.2⟩
theorem PSt.less[MemNo]{Ls':List (Nat×Obj)}(h:PSt x t r S M Z c K w a Ls)(hL:∀p∈Ls',p∈Ls):PSt x t r S M Z c K w a Ls':=by
 obtain⟨F',G,h1,h2,h3,h4⟩:=h;exact⟨F',G,h1,h2,h3,fun p hp=>h4 p (hL p hp)⟩
theorem PSt.open[MemNo](h:PSt x t r S M Z c K w a Ls):∃F,MetaV x t S M c K a F∧(∀k,k<w.heap.size→¬F k)∧∀(N:Gd.Vol) (S2:List UInt8) (d K2:Nat) (b:World),Turns x t S2 N d K2 F a b→PSt x t r S2 N Z d K2 w b Ls:=by
 obtain⟨F',G,h1,h2,h3,h4⟩:=h;refine⟨F',h1.inv,fun k hk hf=>h1.old k hk hf,fun N S2 d K2 b ⟨F2,k2⟩=> ?_⟩;have hs:=k2.only.size;refine⟨F2,G,h1.trans k2,(RefF.held r Z).apart h2 k2.only fun k hk hg=>(h3 k hg).2.2,fun k hk=>⟨(h3 k hk).1,Nat.lt_of_lt_of_le (h3 k hk).2.1 hs,fun e=>(h3 k hk).2.2 (k2.old k (h3 k hk).2.1 e)⟩,fun p hp=> ?_⟩;obtain⟨e1,e2,e3,e4⟩:=h4 p hp;exact⟨e1,fun e=>e2 (k2.old _ (lt_get e4) e),e3,(k2.only.block _ (lt_get e4) e2).trans e4⟩
theorem PSt.doc[MemNo](h:PSt x t r S M Z c K w a Ls):∃G,RefF r Z a G∧(∀k,G k→w.heap.size≤k∧k<a.heap.size)∧(∀p∈Ls,¬G p.1)∧∀(Z2:Pz.Fil) (b:World),RefF r Z2 b (Gr G a)→Only G a b→PSt x t r S M Z2 c K w b Ls:=by
 obtain⟨F',G,h1,h2,h3,h4⟩:=h;refine⟨G,h2,fun k hk=>⟨(h3 k hk).1,(h3 k hk).2.1⟩,fun p hp=>(h4 p hp).2.2.1,fun Z2 b hi ho=> ?_⟩;have hs:=ho.size;have hw:=h1.only.size;refine⟨F',fun k=>Gr G a k∧k<b.heap.size,⟨h1.inv.keep hs fun k hk hf=>ho.block k hk fun e=>(h3 k e).2.2 hf,h1.old,h1.only.trans (ho.mono fun k hk e=>e) ?_⟩,?_,fun k hk=> ?_,fun p hp=> ?_⟩
 ·intro j hj hg;exact absurd (h3 j hg).1 (Nat.not_le.2 hj)
 ·exact(RefF.held r Z2).mono hi fun k hk e=>⟨e,hk⟩
 ·rcases hk with⟨e|e,e2⟩
  ·exact⟨(h3 k e).1,e2,(h3 k e).2.2⟩
  ·exact⟨Nat.le_trans hw e,e2,fun hf=>absurd (h1.inv.tight k hf) (Nat.not_lt.2 e)⟩
 ·obtain⟨e1,e2,e3,e4⟩:=h4 p hp;refine⟨e1,e2,fun e=> ?_,(ho.block _ (lt_get e4) e3).trans e4⟩;rcases e.1 with e|e
  ·exact e3 e
  ·exact absurd (lt_get e4) (Nat.not_lt.2 e)
theorem PSt.turn[MemNo](h:PSt x t r S M Z c K w a Ls){k:Nat}{o o2:Obj}(hk:(k,o)∈Ls)(hO:Only (fun q=>q=k) a b)(ho:b.heap[k]? =some o2)(Ls':List (Nat×Obj))(hL:∀p∈Ls',p=(k,o2)∨(p∈Ls∧p.1≠k)):
 PSt x t r S M Z c K w b Ls':=by
 obtain⟨F',G,h1,h2,h3,h4⟩:=h;obtain⟨e1,e2,e3,e4⟩:=h4 _ hk;dsimp only at e1 e2 e3 e4;have hs:=hO.size;refine⟨F',G,⟨h1.inv.keep hs fun q hq hf=>hO.block q hq fun e=>e2 (e▸hf),h1.old,h1.only.trans hO fun q hq e=>absurd e1 (by rw[←e];exact Nat.not_le.2 hq)⟩,(RefF.held r Z).apart h2 hO fun q hq hg e=>e3 (e▸hg),fun q hq=>⟨(h3 q hq).1,Nat.lt_of_lt_of_le (h3 q hq).2.1 hs,(h3 q hq).2.2⟩,fun p hp=> ?_⟩;rcases hL p hp with rfl|⟨hp,hne⟩
 ·exact⟨e1,e2,e3,ho⟩
 ·obtain⟨q1,q2,q3,q4⟩:=h4 p hp;exact⟨q1,q2,q3,(hO.block _ (lt_get q4) hne).trans q4⟩
theorem PSt.set[MemNo](h:PSt x t r S M Z c K w a Ls){k j:Nat}{C:Array Value}{ty:TypeId}{v:Value}(hk:(k,Obj.cells C ty (0,0))∈Ls)(Ls':List (Nat×Obj))(hL:∀p∈Ls',p=(k,Obj.cells (C.setIfInBounds j v) ty (0,0))∨(p∈Ls∧p.1≠k)):
 PSt x t r S M Z c K w (a.setCell ⟨k,j,none⟩ v) Ls':=
 h.turn hk (only_setCell a _ _ rfl) (heap_setCell_same a k j C ty v (h.get hk)) Ls' hL
theorem PSt.setAll[MemNo](h:PSt x t r S M Z c K w a Ls){k:Nat}{C:Array Value}{ty:TypeId}{vs:List Value}(hk:(k,Obj.cells C ty (0,0))∈Ls)(hC:C.size=vs.length)(Ls':List (Nat×Obj))(hL:∀p∈Ls',p=(k,Obj.cells vs.toArray ty (0,0))∨(p∈Ls∧p.1≠k)):
 PSt x t r S M Z c K w (a.setCells k 0 vs) Ls':=
 h.turn hk (grown_only (setCells_grownM k vs 0 a) fun q e=>(Option.some.inj e).symm) (whole_at (h.get hk) hC (Nat.le_refl k)).2 Ls' hL
theorem PSt.alloc[MemNo](h:PSt x t r S M Z c K w a Ls)(C:Array Value)(ty:TypeId):PSt x t r S M Z c K w (a.alloc (.cells C ty)) ((a.heap.size,.cells C ty (0,0))::Ls):=
 h.new ((Below.refl _ _).alloc (Nat.le_refl _) _) (Nat.le_refl _) (heap_alloc_new _ _)
def pairC[MemNo](t x r:Nat)(D:Nat→Nat→Nat):Array Value:=#[.pointer (some ⟨MemNo.no,0,none⟩),.pointer (some ⟨t,0,none⟩),.pointer (some ⟨x,0,none⟩),.pointer (some ⟨r,0,none⟩)]++((List.range 64).map fun j=>Value.int .i64 (D (j/8) (j % 8):Nat)).toArray
def oPair[MemNo](t x r:Nat)(D:Nat→Nat→Nat):Obj:= .cells (pairC t x r D) 39 (0,0)
theorem pairC_ptr[MemNo]{t x r:Nat}{D:Nat→Nat→Nat}:(pairC t x r D)[0]? =some (.pointer (some ⟨MemNo.no,0,none⟩))∧(pairC t x r D)[1]? =some (.pointer (some ⟨t,0,none⟩))∧(pairC t x r D)[2]? =some (.pointer (some ⟨x,0,none⟩))∧(pairC t x r D)[3]? =some (.pointer (some ⟨r,0,none⟩)):=by
 unfold pairC;exact⟨(Array.getElem?_append_left (show 0<4 by decide)).trans rfl,(Array.getElem?_append_left (show 1<4 by decide)).trans rfl,(Array.getElem?_append_left (show 2<4 by decide)).trans rfl,(Array.getElem?_append_left (show 3<4 by decide)).trans rfl⟩
theorem pairC_fd[MemNo]{t x r:Nat}{D:Nat→Nat→Nat}{k fd:Nat}(hk:k<8)(hfd:fd<8):(pairC t x r D)[4+(8*k+fd)]? =some (.int .i64 (D k fd:Nat)):=by
 unfold pairC;rw[Array.getElem?_append_right (by show 4≤_;omega)];rw[show(4+(8*k+fd)-#[Value.pointer (some ⟨MemNo.no,0,none⟩),.pointer (some ⟨t,0,none⟩),.pointer (some ⟨x,0,none⟩),.pointer (some ⟨r,0,none⟩)].size)=8*k+fd by show 4+(8*k+fd)-4=_;omega];rw[List.getElem?_toArray,List.getElem?_map,List.getElem?_range (by omega)];show some (Value.int .i64 (D ((8*k+fd)/8) ((8*k+fd) % 8):Nat))=_
 rw[show(8*k+fd)/8=k by omega,show(8*k+fd) % 8=fd by omega]
theorem pairC_size[MemNo]{t x r:Nat}{D:Nat→Nat→Nat}:(pairC t x r D).size=68:=by
 unfold pairC;rw[Array.size_append];show 4+(List.map (fun j=>Value.int .i64 (D (j/8) (j % 8):Nat)) (List.range 64)).length=68
 rw[List.length_map,List.length_range]
theorem pairC_set[MemNo]{t x r:Nat}{D:Nat→Nat→Nat}{k fd i:Nat}(hk:k<8)(hfd:fd<8):(pairC t x r D).setIfInBounds (4+(8*k+fd)) (.int .i64 (i:Nat))=pairC t x r (fun a b=>if a=k∧b=fd then i else D a b):=by
 apply Array.ext_getElem?
 intro j;rw[Array.getElem?_setIfInBounds];by_cases e:4+(8*k+fd)=j
 ·rw[if_pos e,if_pos (by rw[pairC_size];omega),←e,pairC_fd hk hfd,if_pos ⟨rfl,rfl⟩]
 ·rw[if_neg e];unfold pairC;by_cases hj:j<4
  ·rw[Array.getElem?_append_left (by exact hj),Array.getElem?_append_left (by exact hj)]
  ·rw[Array.getElem?_append_right (by show 4≤j;omega),Array.getElem?_append_right (by show 4≤j;omega)];show(List.map _ _).toArray[j-4]? =(List.map _ _).toArray[j-4]?
   rw[List.getElem?_toArray,List.getElem?_toArray,List.getElem?_map,List.getElem?_map];by_cases h64:j-4<64
   ·rw[List.getElem?_range h64];dsimp only[Option.map];rw[if_neg];intro e2;omega
   ·rw[List.getElem?_eq_none (by rw[List.length_range];omega)];rfl
end
end Go.Proofs.YtckoobkjpndgnaaGreatDoor
