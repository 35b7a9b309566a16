/- Walks: commonsref01.Get. -/
import Derived.Test.YtccpdkjonepoiaaGreatDoorT25
import Derived.Laws.BitsAllLaws
set_option linter.unusedVariables false
set_option linter.unusedSimpArgs false
set_option linter.unusedSectionVars false
set_option maxHeartbeats 8000000
set_option maxRecDepth 100000
namespace Go.Proofs.YtccpdkjonepoiaaGreatDoor
open Go.RowKit
open Lib(hid)
open Go.Proofs.Tryz
namespace Gd
theorem unle_app:∀(A B:List UInt8),unle (A++B)=unle A+256^A.length*unle B
 |[],B=>by simp[unle]
 |a::r,B=>by
  rw[List.cons_append,unle,unle,unle_app r,List.length_cons,Nat.pow_succ,Nat.mul_add,←Nat.mul_assoc,Nat.mul_comm (256^r.length) 256];omega
theorem getN_split(L:List UInt8)(a j m:Nat)(h:a+j≤L.length):getN L a (j+m)=getN L a j+256^j*getN L (a+j) m:=by
 unfold getN;have h1:(L.drop a).take (j+m)=(L.drop a).take j++(L.drop (a+j)).take m:=by
  rw[List.take_add,List.drop_drop]
 rw[h1,unle_app];congr 2
 rw[List.length_take,List.length_drop,Nat.min_eq_left (by omega)]
theorem getN_front(L:List UInt8)(a m:Nat){x:UInt8}(h:L[a]? =some x):getN L a (m+1)=getN L (a+1) m*256+x.toNat:=by
 have hl:=(List.getElem?_eq_some_iff.mp h).1;rw[Nat.add_comm m 1,getN_split L a 1 m (by omega)];have:getN L a 1=x.toNat:=by
  have:=qy (L:=L) (a:=a) (i:=0) (x:=x) h
  rw[this];simp[getN,unle]
 rw[this];omega
theorem getN_up(L:List UInt8)(a j m:Nat)(h:a+j≤L.length):getN L (a+j) m≤getN L a (j+m):=by
 rw[getN_split L a j m h];have:1≤256^j:=Nat.one_le_pow _ _ (by decide)
 have:=Nat.mul_le_mul this (Nat.le_refl (getN L (a+j) m))
 omega
end Gd
theorem yA(v:Value)(L:List UInt8)(at_:Int)(k:Nat)(hk:Gd.wid k)(ha:I64 at_)(w:World)(h:zr w v L)(hl:L.length≤1000000):Calls prog 66 #[v,.int .i64 at_,.int .i64 k] w fun e w'=>e= .returned (.tuple #[.int .i64 (Gd.get L at_ k),.bool (Gd.getB L at_ k)])∧w'=w:=by
 have hk8:k≤8:=by rcases hk with rfl|rfl|rfl|rfl<;>omega
 obtain⟨A,c,rfl,hA⟩:=h;have HA:=hid hA;have hlo:=ha.lo;clear hA ha;obtain⟨n,hn⟩:=nm L.length;have HNE:Hid (L.length=n):=hid hn.symm;rw[←hn];rw[←hn]at hl;clear hn;have HKW:=hid hk;by_cases hr:0≤at_∧at_+k≤n
 ·obtain⟨a,hae⟩:∃a:Nat,at_=a:=⟨at_.toNat,by omega⟩;subst hae;have hak:a+k≤n:=by omega
  obtain⟨b,o,hAA,hbl,hcell⟩:∃b o,A=some ⟨b,o,none⟩∧b<w.heap.size∧∀(j:Nat) (x:UInt8),L[j]? =some x→w.cell? ⟨b,o+j,none⟩=some (.int .u8 x.toNat):=by
   rcases HA.o with⟨_,h,_⟩|h
   ·rw[h]at HNE;have:0=n:=HNE.o
    rcases hk with rfl|rfl|rfl|rfl<;>omega
   ·exact h
  subst hAA;have HC:=hid hcell;clear hcell HA hk;by_cases hbig:k=8∧¬Gd.getN L a k<9223372036854775808
  ·obtain⟨rfl,hbig⟩:=hbig;obtain⟨x,hx⟩:∃x,L[a+7]? =some x:=⟨_,List.getElem?_eq_getElem (by rw[HNE.o];omega)⟩;have hc:=HC.o _ _ hx;have hx128:128≤(x.toNat:Int):=by
    have h1:Gd.getN L a 8=_:=qy hx;have h2:=xh L a 7;have h3:(256:Nat)^7=72057594037927936:=by decide
    rw[h3]at h1 h2;omega
   have HR:Hid (Gd.get L a 8=0∧Gd.getB L a 8=false):=hid (by
    have hb:Gd.getB L a 8=false:=by
     unfold Gd.getB;rw[Int.toNat_natCast,decide_eq_false hbig,Bool.and_false]
    exact⟨by unfold Gd.get;rw[hb];rfl,hb⟩)
   have h3:(a:Int)+7<n:=by omega
   have h4:(n:Int)≤1000000:=by omega
   clear hbig hx hk8 hr;go_enter func66,ntmps66;go_wp2;go_ret2
   exact⟨by rw[HR.o.1,HR.o.2];rfl,rfl⟩
  ·have HR:Hid (Gd.get L a k=Gd.getN L a k∧Gd.getB L a k=true∧Gd.getN L a k<9223372036854775808):=hid (by
    have h63:Gd.getN L a k<9223372036854775808:=by
     by_cases h8:k=8
     ·exact Classical.not_not.mp fun hh=>hbig ⟨h8,hh⟩
     ·have:=xh L a k
      have h4:k≤4:=by rcases HKW.o with h|h|h|h<;>omega
      have h5:(256:Nat)^k≤256^4:=Nat.pow_le_pow_right (by decide) h4;have h6:(256:Nat)^4=4294967296:=by decide
      omega
    have hb:Gd.getB L a k=true:=by
     unfold Gd.getB;rw[Int.toNat_natCast];simp only[Bool.and_eq_true,decide_eq_true_eq];exact⟨⟨by omega,by rw[HNE.o];omega⟩,h63⟩
    exact⟨by unfold Gd.get;rw[if_pos hb,Int.toNat_natCast],hb,h63⟩)
   have H7:Hid (k=8→∃x:UInt8,L[a+7]? =some x∧(x.toNat:Int)<128):=hid (by
    rintro rfl;obtain⟨x,hx⟩:∃x,L[a+7]? =some x:=⟨_,List.getElem?_eq_getElem (by rw[HNE.o];omega)⟩;refine⟨x,hx,?_⟩;have h1:Gd.getN L a 8=_:=qy hx;have h2:=HR.o.2.2;have h3:(256:Nat)^7=72057594037927936:=by decide
    rw[h3]at h1;omega)
   clear hbig;have h3:(a:Int)+k≤n:=by omega
   have h4:(n:Int)≤1000000:=by omega
   obtain⟨kk,HKK⟩:∃kk,Hid (kk=k):=⟨_,hid rfl⟩;have HRK:Hid (Gd.get L a k=Gd.getN L a kk∧Gd.getB L a k=true∧Gd.getN L a kk<9223372036854775808):=hid (by rw[HKK.o];exact HR.o);clear HR;have hkk1:1≤kk∧kk≤8∧a+kk≤n:=by
    rw[HKK.o];rcases HKW.o with h|h|h|h<;>omega
   obtain⟨hk1,hk2,hk3⟩:=hkk1;have h34:(a:Int)+kk≤n:=by omega
   have HW:∀P:World→Prop,P w→P w:=fun _ h=>h;clear hk8 HW hr hak;rcases HKW.o with rfl|rfl|rfl|rfl
   rotate_left 3
   obtain⟨x,hx,hx2⟩:=H7.o rfl;have hc:=HC.o _ _ hx;have hx7:(a:Int)+7<n:=by omega
   clear hx;all_goals
    clear H7 HKW;go_enter func66,ntmps66;go_upto_region 8 with fail
    go_wp2;go_loopw[8,9] (fun u z wr=>∃j x:Nat,z= .int .i64 ((j:Int)-1)∧u= .int .i64 x∧j≤kk∧(x:Int)≤9223372036854775807∧wr=w∧Hid (x=Gd.getN L (a+j) (kk-j))) (fun _ z _=>(intOf z+1).toNat)
    case atStart=>exact⟨kk,0,by rw[HKK.o];rfl,rfl,by omega,by omega,rfl,hid (by rw[Nat.sub_self];simp[Gd.getN,Gd.unle])⟩
    case round=>
     obtain⟨j,y,rfl,rfl,hj,hy,rfl,HY⟩:=hrel;by_cases hlt:0<j
     ·obtain⟨i,rfl⟩:∃i,j=i+1:=⟨j-1,by omega⟩;obtain⟨q,hq⟩:∃q,L[a+i]? =some q:=⟨_,List.getElem?_eq_getElem (by rw[HNE.o];omega)⟩;have hcq:=HC.o _ _ hq;have HQ:Hid (y*256+q.toNat=Gd.getN L (a+i) (kk-i)):=hid (by
       rw[show kk-i=(kk-(i+1))+1 by omega,Gd.getN_front L (a+i) _ hq,HY.o,Nat.add_assoc])
      have hQ2:y*256+q.toNat<9223372036854775808:=by
       rw[HQ.o];have:=Gd.getN_up L a i (kk-i) (by rw[HNE.o];omega)
       rw[show i+(kk-i)=kk by omega]at this;exact Nat.lt_of_le_of_lt this HRK.o.2.2
      have hi1:(a:Int)+i<n:=by omega
      have hq8:=q.toNat_lt;have hI:((i+1:Nat):Int)-1=i:=by omega
      rw[hI];clear hq hlt hI HY;go_wp2;go_roundw
      case rel=>exact⟨i,y*256+q.toNat,by go_num,by go_num,by omega,by omega,trivial,HQ⟩
      case measure=>simp[intOf]
     ·obtain rfl:j=0:=by omega
      clear hlt;go_wp2;go_ret2
      have:=HY.o
      rw[Nat.add_zero,Nat.sub_zero]at this;rw[HRK.o.1,HRK.o.2.1,←this];exact⟨rfl,rfl⟩
 ·have HR:Hid (Gd.get L at_ k=0∧Gd.getB L at_ k=false):=hid (by
   have hb:Gd.getB L at_ k=false:=by
    unfold Gd.getB;rw[HNE.o];by_cases h0:0≤at_
    ·rw[decide_eq_false (by omega:¬at_+k≤(n:Nat)),Bool.and_false,Bool.false_and]
    ·rw[decide_eq_false h0,Bool.false_and,Bool.false_and]
   exact⟨by unfold Gd.get;rw[hb];rfl,hb⟩)
  by_cases h0:0≤at_
  ·by_cases h1:at_≤n
   ·have h2:(n:Int)-at_<k:=by omega
    clear hr;rcases hk with rfl|rfl|rfl|rfl
    all_goals
     go_enter func66,ntmps66;go_wp2;go_ret2
     exact⟨by rw[HR.o.1,HR.o.2];rfl,rfl⟩
   ·clear hr;rcases hk with rfl|rfl|rfl|rfl
    all_goals
     go_enter func66,ntmps66;go_wp2;go_ret2
     exact⟨by rw[HR.o.1,HR.o.2];rfl,rfl⟩
  ·clear hr;rcases hk with rfl|rfl|rfl|rfl
   all_goals
    go_enter func66,ntmps66;go_wp2;go_ret2
    exact⟨by rw[HR.o.1,HR.o.2];rfl,rfl⟩
namespace Gd
structure Rec where
 call:Int
 inode:Int
 tr:Bool
 off:Int
 d:List UInt8
def Rec.may(r:Rec):Bool:=Fp.mayB r.call r.inode r.tr r.off r.d
def trB(t:Bool):UInt8:=if t then 1 else 0
def bodyL(r:Rec):List UInt8:=le r.call.toNat 8++([UInt8.ofNat r.inode.toNat,trB r.tr]++(le r.off.toNat 2++([UInt8.ofNat r.d.length]++r.d)))
def sumL(r:Rec):List UInt8:=bodyL r++le (crc (bodyL r)) 4
def padL(L:List UInt8):List UInt8:=L++List.replicate (up8 L.length-L.length) 0
def encL(r:Rec):List UInt8:=padL (sumL r)
theorem bodyL_length(r:Rec):(bodyL r).length=13+r.d.length:=by
 unfold bodyL;simp only[List.length_append,le_length,List.length_cons,List.length_nil];omega
theorem sumL_length(r:Rec):(sumL r).length=17+r.d.length:=by
 unfold sumL;rw[List.length_append,bodyL_length,le_length];omega
theorem up8_le(n:Nat):n≤up8 n∧up8 n<n+8∧up8 n % 8=0:=by
 unfold up8;omega
theorem padL_length(L:List UInt8):(padL L).length=up8 L.length:=by
 unfold padL;have:=up8_le L.length
 rw[List.length_append,List.length_replicate];omega
theorem encL_length(r:Rec):(encL r).length=up8 (17+r.d.length):=by
 unfold encL;rw[padL_length,sumL_length]
theorem le_unle:∀(L:List UInt8),le (unle L) L.length=L
 |[]=>rfl
 |b::r=>by
  have h1:(b.toNat+256*unle r)/256=unle r:=by have:=b.toNat_lt;omega
  have h2:UInt8.ofNat (b.toNat+256*unle r)=b:=by
   apply UInt8.toNat_inj.mp
   rw[UInt8.toNat_ofNat'];have:=b.toNat_lt
   omega
  rw[unle,List.length_cons,le,h1,h2,le_unle r]
def nOf(L:List UInt8):Nat:=(L.getD 12 0).toNat
def recOf(L:List UInt8):Rec:=⟨get L 0 8,(L.getD 8 0).toNat,decide (L.getD 9 0=1),get L 10 2,(L.drop 13).take (nOf L)⟩
instance(A B:List UInt8):Decidable (A<+:B):=inferInstance
def decR(L:List UInt8):Option (Rec×Nat):=
 if 17+nOf L≤L.length∧getN L (13+nOf L) 4=crc (L.take (13+nOf L))∧(recOf L).may=true∧encL (recOf L)<+:L then some (recOf L,up8 (17+nOf L))else none
theorem recOf_len{L:List UInt8}(h:17+nOf L≤L.length):(recOf L).d.length=nOf L:=by
 show((L.drop 13).take (nOf L)).length=_
 rw[List.length_take,List.length_drop];omega
theorem take_parts{L:List UInt8}(h:17+nOf L≤L.length):L.take (13+nOf L)=L.take 8++([L.getD 8 0,L.getD 9 0]++((L.drop 10).take 2++([L.getD 12 0]++(L.drop 13).take (nOf L)))):=by
 match L,h with
 |a0::a1::a2::a3::a4::a5::a6::a7::a8::a9::a10::a11::a12::r,h=>
  generalize hn:nOf (a0::a1::a2::a3::a4::a5::a6::a7::a8::a9::a10::a11::a12::r)=n;rw[show 13+n=n+13 by omega];simp
theorem off_bytes{L:List UInt8}(h:17+nOf L≤L.length):le (get L 10 2).toNat 2=(L.drop 10).take 2:=by
 have hl:((L.drop 10).take 2).length=2:=by rw[List.length_take,List.length_drop];omega
 have h1:=le_unle ((L.drop 10).take 2);rw[hl]at h1;have h2:getN L 10 2<65536:=by
  have:=unle_lt ((L.drop 10).take 2)
  rw[hl]at this;exact this
 have h3:getB L 10 2=true:=by
  unfold getB;simp only[Bool.and_eq_true,decide_eq_true_eq];refine⟨⟨by omega,by omega⟩,?_⟩;show getN L 10 2<_
  omega
 unfold get;rw[if_pos h3];show le (getN L 10 2) 2=_
 exact h1
theorem get8{L:List UInt8}(h:17+nOf L≤L.length):le (get L 0 8).toNat 8=L.take 8↔getB L 0 8=true:=by
 have hl:(L.take 8).length=8:=by rw[List.length_take];omega
 constructor
 ·intro hh
  cases hb:getB L 0 8 with
  |true=>rfl
  |false=>
   exfalso
   unfold get at hh;rw[hb,if_neg (by decide)]at hh;have h0:getN L 0 8=0:=by
    unfold getN;rw[List.drop_zero,←hh];rfl
   have:getB L 0 8=true:=by
    unfold getB;simp only[Bool.and_eq_true,decide_eq_true_eq];refine⟨⟨by omega,by omega⟩,?_⟩;show getN L 0 8<_
    omega
   rw[this]at hb
   cases hb
 ·intro hb;unfold get;rw[if_pos hb];have h1:=le_unle (L.take 8);rw[hl]at h1;exact h1
theorem body_take{L:List UInt8}(h:17+nOf L≤L.length):bodyL (recOf L)=L.take (13+nOf L)↔getB L 0 8=true∧(L.getD 9 0).toNat≤1:=by
 rw[take_parts h,←get8 h];unfold bodyL;rw[recOf_len h];show le (get L 0 8).toNat 8++([UInt8.ofNat ((L.getD 8 0).toNat:Int).toNat,trB (decide (L.getD 9 0=1))]++(le (get L 10 2).toNat 2++([UInt8.ofNat (nOf L)]++(L.drop 13).take (nOf L))))=_↔_
 have h8:UInt8.ofNat ((L.getD 8 0).toNat:Int).toNat=L.getD 8 0:=by simp
 have h12:UInt8.ofNat (nOf L)=L.getD 12 0:=by unfold nOf;simp
 have h9:trB (decide (L.getD 9 0=1))=L.getD 9 0↔(L.getD 9 0).toNat≤1:=by
  generalize L.getD 9 0=b;unfold trB;by_cases hb:b=1
  ·subst hb;simp
  ·rw[decide_eq_false hb];constructor
   ·intro hh;rw[←hh];simp
   ·intro hh;have:b.toNat≠1:=fun e=>hb (UInt8.toNat_inj.mp e)
    apply UInt8.toNat_inj.mp
    show 0=b.toNat
    omega
 rw[off_bytes h,h8,h12];constructor
 ·intro hh;have hl:(L.take 8).length=8:=by rw[List.length_take];omega
  obtain⟨h1,h2⟩:=List.append_inj hh (by rw[le_length,hl]);have h3:=(List.append_inj h2 rfl).1;simp only[List.cons.injEq,true_and,and_true]at h3;exact⟨h1,h9.mp h3⟩
 ·rintro⟨h1,h2⟩;rw[h1,h9.mpr h2]
def fillB(L:List UInt8)(a b:Nat):Prop:=∀i,a≤i→i<b→L[i]? =some 0
theorem zeros_prefix(L:List UInt8)(a m:Nat)(ha:a≤L.length):List.replicate m 0<+:L.drop a↔a+m≤L.length∧fillB L a (a+m):=by
 constructor
 ·rintro⟨t,ht⟩;have hl:=congrArg List.length ht;rw[List.length_append,List.length_replicate,List.length_drop]at hl;refine⟨by omega,fun i h1 h2=> ?_⟩;have:(L.drop a)[i-a]? =some 0:=by
   rw[←ht,List.getElem?_append_left (by rw[List.length_replicate];omega),List.getElem?_replicate,if_pos (by omega)]
  rw[List.getElem?_drop,show a+(i-a)=i by omega]at this;exact this
 ·rintro⟨h1,h2⟩;rw[List.prefix_iff_eq_take];apply List.ext_getElem?
  intro i;rw[List.length_replicate,List.getElem?_replicate,List.getElem?_take];by_cases hi:i<m
  ·rw[if_pos hi,if_pos hi,List.getElem?_drop,h2 (a+i) (by omega) (by omega)]
  ·rw[if_neg hi,if_neg hi]
theorem enc_prefix{L:List UInt8}(h:17+nOf L≤L.length)(hs:getN L (13+nOf L) 4=crc (L.take (13+nOf L))):encL (recOf L)<+:L↔(getB L 0 8=true∧(L.getD 9 0).toNat≤1)∧up8 (17+nOf L)≤L.length∧fillB L (17+nOf L) (up8 (17+nOf L)):=by
 have hu:=up8_le (17+nOf L);have hsl:(sumL (recOf L)).length=17+nOf L:=by rw[sumL_length,recOf_len h]
 have key:bodyL (recOf L)=L.take (13+nOf L)→sumL (recOf L)=L.take (17+nOf L):=fun hb=>by
  unfold sumL;rw[hb,←hs];have hl:((L.drop (13+nOf L)).take 4).length=4:=by rw[List.length_take,List.length_drop];omega
  have h1:=le_unle ((L.drop (13+nOf L)).take 4);rw[hl]at h1;unfold getN;rw[h1,←List.take_add,show 13+nOf L+4=17+nOf L by omega]
 have hz:sumL (recOf L)=L.take (17+nOf L)→(encL (recOf L)<+:L↔up8 (17+nOf L)≤L.length∧fillB L (17+nOf L) (up8 (17+nOf L))):=fun hb=>by
  have h1:=zeros_prefix L (17+nOf L) (up8 (17+nOf L)-(17+nOf L)) h;rw[show 17+nOf L+(up8 (17+nOf L)-(17+nOf L))=up8 (17+nOf L) by omega]at h1;rw[←h1];unfold encL padL;rw[hsl,hb];conv=>lhs;rhs;rw[←List.take_append_drop (17+nOf L) L]
  exact List.prefix_append_right_inj _
 constructor
 ·intro hp;have hb:bodyL (recOf L)=L.take (13+nOf L):=by
   have hp2:bodyL (recOf L)<+:L:=((List.prefix_append _ _).trans (List.prefix_append _ _)).trans hp;have:=List.prefix_iff_eq_take.mp hp2
   rw[bodyL_length,recOf_len h]at this;exact this
  exact⟨(body_take h).mp hb,(hz (key hb)).mp hp⟩
 ·rintro⟨h1,h2⟩;exact(hz (key ((body_take h).mpr h1))).mpr h2
def scanF(L:List UInt8)(n:Nat):Nat→Nat→List (Rec×Nat)
 |0,_=>[]
 |f+1,head=>if head<n then match decR ((L.drop (8+head)).take (n-head))with|none=>[]|some (r,k)=>(r,head+k)::scanF L n f (head+k)else[]
def endB(ep:Int)(n:Int):Bool:=decide (0≤ep)&&decide (ep≤1073741824)&&decide (0≤n)&&decide (n≤1016)&&decide (n % 8=0)
def endN(L:List UInt8):Nat:=(get L 0 8).toNat
def scanL(L:List UInt8)(ep head:Int):List (Rec×Nat):=
 if getB L 0 8=true∧endB (endN L/4294967296:Nat) (endN L % 4294967296:Nat)=true∧((endN L/4294967296:Nat):Int)=ep∧0≤head then scanF L (endN L % 4294967296) 1024 head.toNat else[]
end Gd
theorem UD(x:Nat)(h:x<9223372036854775808):bits .and .i64 (x:Int) 4294967295=((x % 4294967296:Nat):Int):=by
 show IntKind.i64.wrap ((BitVec.ofInt 64 (x:Int)&&& BitVec.ofInt 64 ((4294967295:Nat):Int)).toNat:Int)=_
 rw[BitVec.toNat_and,ofInt_u64 x (by omega),ofInt_u64 4294967295 (by omega)];have:=Nat.and_two_pow_sub_one_eq_mod x 32
 rw[show(2:Nat)^32-1=4294967295 from rfl,show(2:Nat)^32=4294967296 from rfl]at this;rw[this,IntKind.wrap_i64];omega
theorem qI(ep n:Int):Gd.endB ep n=true↔0≤ep∧ep≤1073741824∧0≤n∧n≤1016∧n % 8=0:=by
 unfold Gd.endB;simp only[Bool.and_eq_true,decide_eq_true_eq];omega
theorem YQ(ep n:Int)(h1:I64 ep)(h2:I64 n)(w:World):Calls prog 178 #[.int .i64 ep,.int .i64 n] w fun e w'=>∃q,e= .returned (.tuple #[.int .i64 q,.int .i64 (if Gd.endB ep n then 0 else 1)])∧w'=w:=by
 obtain⟨g1,g2⟩:=h1.lo;obtain⟨g3,g4⟩:=h2.lo;clear h1 h2;by_cases hb:Gd.endB ep n=true
 ·rw[hb,if_pos rfl];obtain⟨k1,k2,k3,k4,k5⟩:=(qI _ _).mp hb;clear hb;go_enter func178,ntmps178;go_wp2;go_ret2
  first|exact⟨_,rfl,rfl⟩|exact⟨⟨0,rfl⟩,rfl⟩
 ·rw[if_neg hb];have hn:=fun h=>hb ((qI ep n).mpr h);clear hb;by_cases k1:0≤ep
  ·by_cases k2:ep≤1073741824
   ·by_cases k3:0≤n
    ·by_cases k4:n≤1016
     ·have k5:(n % 8 !=0)=true:=by simp;exact fun h=>hn ⟨k1,k2,k3,k4,h⟩
      clear hn;go_enter func178,ntmps178;go_wp2;go_ret2
      first|exact⟨_,rfl,rfl⟩|exact⟨⟨0,rfl⟩,rfl⟩
     ·clear hn;go_enter func178,ntmps178;go_wp2;go_ret2
      first|exact⟨_,rfl,rfl⟩|exact⟨⟨0,rfl⟩,rfl⟩
    ·clear hn;go_enter func178,ntmps178;go_wp2;go_ret2
     first|exact⟨_,rfl,rfl⟩|exact⟨⟨0,rfl⟩,rfl⟩
   ·clear hn;go_enter func178,ntmps178;go_wp2;go_ret2
    first|exact⟨_,rfl,rfl⟩|exact⟨⟨0,rfl⟩,rfl⟩
  ·clear hn;go_enter func178,ntmps178;go_wp2;go_ret2
   first|exact⟨_,rfl,rfl⟩|exact⟨⟨0,rfl⟩,rfl⟩
theorem Jy(x:Nat)(hx:x<9223372036854775808)(w:World):Calls prog 149 #[.int .i64 x] w fun e w'=>
 e= .returned (if Gd.endB (x/4294967296:Nat) (x % 4294967296:Nat)then .tuple #[.int .i64 (x/4294967296:Nat),.int .i64 (x % 4294967296:Nat),.bool true]else .tuple #[.int .i64 0,.int .i64 0,.bool false])∧w'=w:=by
 have ha:=UD x hx;obtain⟨p,hp⟩:=nm (x/4294967296);obtain⟨q,hq⟩:=nm (x % 4294967296);rw[←hq]at ha⊢;rw[←hp];have hd:(x:Int)/4294967296=(p:Int):=by omega
 have HE:=hid (YQ p q (zu (by omega)) (zu (by omega)));obtain⟨b,hb⟩:=nm (Gd.endB p q);rw[←hb]at HE⊢;clear hb hp hq
 cases b with
 |true=>
  rw[if_pos rfl]at HE⊢;go_enter func149,ntmps149;go_wp2_with(go_at_call 178;refine(HE.o _).mono ?_;rintro e w2 ⟨z,rfl,rfl⟩)
  go_ret3
  exact⟨rfl,rfl⟩
 |false=>
  rw[if_neg (by decide)]at HE⊢;go_enter func149,ntmps149;go_wp2_with(go_at_call 178;refine(HE.o _).mono ?_;rintro e w2 ⟨z,rfl,rfl⟩)
  go_ret3
  exact⟨rfl,rfl⟩
theorem QQ(t:Bool)(w:World):Calls prog 196 #[.bool t] w fun e w'=>e= .returned (.int .i64 ((Gd.trB t).toNat:Int))∧w'=w:=by
 cases t
 all_goals
  go_enter func196,ntmps196;go_wp2;go_ret
  exact⟨rfl,rfl⟩
def jn(k:Nat):List UInt8→List Nat→List UInt8
 |L,[]=>L
 |L,n::r=>jn k (L++Gd.le n k) r
theorem vS(k:Nat):∀(r:List Nat) (L:List UInt8) (n:Nat),jn k L (r++[n])=jn k L r++Gd.le n k
 |[],_,_=>rfl
 |_::r,_,n=>vS k r _ n
theorem zS(k:Nat):∀(r:List Nat) (L:List UInt8),(jn k L r).length=L.length+r.length*k
 |[],L=>by simp[jn]
 |n::r,L=>by
  rw[jn,zS k r,List.length_append,Gd.le_length,List.length_cons,Nat.add_mul];omega
def vf(w:World)(v:Value)(N:List Nat):Prop:=∃b,v= .slice (some ⟨b,0,none⟩) N.length N.length∧b<w.heap.size∧∀(j:Nat) (n:Nat),N[j]? =some n→w.cell? ⟨b,j,none⟩=some (.int .i64 n)
theorem J9(v s:Value)(L:List UInt8)(k:Nat)(hk:Gd.wid k)(N:List Nat)(hN:∀n∈N,n<256^k∧n≤9223372036854775807)(hNl:N.length≤100)(w:World)(B:Nat)(hB:B≤w.heap.size)(h:zA w B v L)(hl:L.length≤100000)(hs:vf w s N):
 Calls prog 195 #[v,.int .i64 k,s] w fun e w'=>∃u,e= .returned u∧zA w' B u (jn k L N)∧Below w.heap.size w w':=by
 obtain⟨b,rfl,hbl,hcell⟩:=hs;have HC:=hid (And.intro hbl hcell);have HN:=hid hN;have HO0:=hid h;have HBS:=hid hB;have hk8:k≤8:=by rcases hk with rfl|rfl|rfl|rfl<;>omega
 obtain⟨n,hn⟩:=nm N.length;rw[←hn]at hNl⊢;have Hn:=hid hn;have HK:=hid hk;clear hN h hbl hcell hn hk hB;go_enter func195,ntmps195;go_upto_region 2 with fail
 go_loopw[0,11] (fun u z wr=>∃i:Nat,z= .int .i64 i∧i≤n∧Hid (zA wr B u (jn k L (N.take i)))∧Hid (Below w.heap.size w wr)) (fun _ z _=>n-(intOf z).toNat)
 case atStart=>exact⟨0,rfl,by omega,HO0,hid (Below.refl _ _)⟩
 case round=>
  obtain⟨i,rfl,hin,HO,HB⟩:=hrel;by_cases hlt:i<n
  ·obtain⟨x,hx⟩:∃x,N[i]? =some x:=⟨_,List.getElem?_eq_getElem (by have:=Hn.o;omega)⟩;have hxb:=HN.o x (List.mem_of_getElem? hx);have hc:=(HB.o.cell (p:=⟨b,i,none⟩) HC.o.1).trans (HC.o.2 i x hx);have h1:(i:Int)<n:=by omega
   have h0:(0:Int)≤i:=by omega
   have HP:=hid (z8 u0 _ x k HK.o hxb.1 hxb.2 wr HO.o.at_ (by rw[zS,List.length_take];have:=Nat.mul_le_mul (show min i N.length≤100 by omega) hk8;omega));have HX:=hid hx;clear hx hlt hxb;go_wp2_with(go_at_call 130;refine HP.o.mono ?_;rintro e w4 ⟨v4,rfl,ho4,hb4⟩)
   have HO4:Hid (zA w4 B v4 (jn k L (N.take (i+1)))):=hid (by
    rw[List.take_add_one,HX.o];show zA _ _ _ (jn k L (N.take i++[x]))
    rw[vS];exact ho4.mono (Nat.le_trans HBS.o HB.o.size))
   have HB4:=HB.t hb4;clear ho4 hb4;go_wp2;go_roundw
   case rel=>exact⟨i+1,by go_num,by omega,HO4,HB4⟩
   case measure=>simp[intOf];omega
  ·have h1:¬(i:Int)<n:=by omega
   have HI:Hid (i=n):=hid (by omega);clear hlt hin;go_wp2;go_ret
   have:=HO.o
   rw[HI.o,List.take_of_length_le (by have:=Hn.o;omega)]at this;exact⟨_,rfl,this,HB.o⟩
end Go.Proofs.YtccpdkjonepoiaaGreatDoor
