/- A log's record in plain words: changes as bytes, and back. -/
import Derived.Test.YtckoobkjpndgnaaGreatDoorW00
import Derived.Maps.AppendAt
import Derived.Maps.OwnSet
import Derived.Maps.RangeWalk
import Derived.ChangeKeysEq
set_option linter.unusedVariables false
set_option linter.unusedSimpArgs false
set_option linter.unusedSectionVars false
set_option maxHeartbeats 8000000
set_option maxRecDepth 100000
namespace Go.Proofs.YtckoobkjpndgnaaGreatDoor
open Go.RowKit
open Lib(hid)
open Go.Proofs.Tryz
namespace Gd
def paB(p:Pa):List UInt8:=le p.1 4++(le p.2.length 2++p.2)
def pasB(P:List Pa):List UInt8:=P.flatMap paB
def recBody(P:List Pa):List UInt8:=le P.length 2++pasB P
def pad8(n:Nat):List UInt8:=List.replicate (up8 n-n) 0
def recB(P:List Pa):List UInt8:=recBody P++le (crc (recBody P)) 4++pad8 ((recBody P).length+4)
def wt(P:List Pa):Nat:=(pasB P).length
def PaMay(p:Pa):Prop:=p.1<4294967296∧p.2.length≤256
theorem paB_length(p:Pa):(paB p).length=6+p.2.length:=by
 unfold paB;rw[List.length_append,List.length_append,le_length,le_length];omega
theorem pasB_snoc(P:List Pa)(p:Pa):pasB (P++[p])=pasB P++paB p:=by
 unfold pasB;rw[List.flatMap_append];simp
theorem recBody_length(P:List Pa):(recBody P).length=2+wt P:=by
 unfold recBody wt;rw[List.length_append,le_length]
theorem up8_ge(n:Nat):n≤up8 n∧up8 n<n+8∧up8 n % 8=0:=by
 unfold up8;omega
theorem recB_length(P:List Pa):(recB P).length=up8 (6+wt P):=by
 have:=up8_ge (2+wt P+4)
 unfold recB pad8;rw[List.length_append,List.length_append,le_length,recBody_length,List.length_replicate,show 6+wt P=2+wt P+4 by omega];omega
def paOff(P:List Pa)(k:Nat):Nat:=2+(pasB (P.take k)).length
theorem part_mid(A B C:List UInt8):part (A++(B++C)) A.length B.length=B:=by
 unfold part;rw[List.drop_left,List.take_left]
theorem recB_split{P:List Pa}{k:Nat}{p:Pa}(h:P[k]? =some p):∃A C,recB P=A++(le p.1 4++(le p.2.length 2++(p.2++C)))∧A.length=paOff P k:=by
 have hk:k<P.length:=(List.getElem?_eq_some_iff.1 h).1;have hp:P[k]=p:=(List.getElem?_eq_some_iff.1 h).2;have e:P=P.take k++p::P.drop (k+1):=by
  rw[←hp,List.getElem_cons_drop,List.take_append_drop]
 have eb:pasB P=pasB (P.take k)++(paB p++pasB (P.drop (k+1))):=by
  conv=>lhs;rw[e]
  unfold pasB;rw[List.flatMap_append,List.flatMap_cons]
 refine⟨le P.length 2++pasB (P.take k),pasB (P.drop (k+1))++(le (crc (recBody P)) 4++pad8 ((recBody P).length+4)),?_,?_⟩
 ·unfold recB;rw[List.append_assoc];generalize le (crc (recBody P)) 4++pad8 ((recBody P).length+4)=T;have eR:recBody P=le P.length 2++(pasB (P.take k)++(paB p++pasB (P.drop (k+1)))):=by
   show le P.length 2++pasB P=_
   rw[eb]
  rw[eR];unfold paB;simp only[List.append_assoc]
 ·rw[List.length_append,le_length];rfl
theorem paOff_succ{P:List Pa}{k:Nat}{p:Pa}(h:P[k]? =some p):paOff P (k+1)=paOff P k+4+2+p.2.length:=by
 unfold paOff;rw[List.take_add_one,h];show 2+(pasB (P.take k++[p])).length=_
 rw[pasB_snoc,List.length_append,paB_length];omega
theorem paOff_end(P:List Pa):paOff P P.length=(recBody P).length:=by
 unfold paOff;rw[List.take_length,recBody_length];rfl
theorem paOff_le(P:List Pa)(k:Nat):paOff P k≤2+wt P:=by
 unfold paOff wt;have:pasB P=pasB (P.take k)++pasB (P.drop k):=by
  unfold pasB;rw[←List.flatMap_append,List.take_append_drop]
 rw[this,List.length_append];omega
theorem getN_mid(A C:List UInt8)(n w:Nat)(hn:n<256^w):getN (A++(le n w++C)) A.length w=n:=by
 unfold getN;have:=part_mid A (le n w) C
 unfold part at this;rw[le_length]at this;rw[this,unle_le w n hn]
end Gd
namespace Gd
def bitOf(n:Nat):Nat:=2^((n-1) % 8)
def byteAt(m:List UInt8)(n:Nat):Nat:=(m.getD ((n-1)/8) 0).toNat
def usedB(m:List UInt8)(n:Nat):Bool:=byteAt m n&&& bitOf n !=0
def takeB(m:List UInt8)(n:Nat):List UInt8:=m.set ((n-1)/8) (UInt8.ofNat (byteAt m n|||bitOf n))
def giveB(m:List UInt8)(n:Nat):List UInt8:=m.set ((n-1)/8) (UInt8.ofNat (byteAt m n&&& (255-bitOf n)))
def isBlk(n:Int):Bool:=decide (1≤n)&&decide (n≤128)
def takeI(m:List UInt8)(n:Int):List UInt8:=if isBlk n then takeB m n.toNat else m
def giveI(m:List UInt8)(n:Int):List UInt8:=if isBlk n then giveB m n.toNat else m
def usedI(m:List UInt8)(n:Int):Bool:=isBlk n&&usedB m n.toNat
def firstFrom(m:List UInt8):Nat→Nat→Nat
 |0,_=>0
 |f+1,n=>if usedB m n then firstFrom m f (n+1)else n
def firstB(m:List UInt8):Nat:=firstFrom m 128 1
def cntF:Nat→Nat→Nat
 |0,_=>0
 |f+1,c=>if c=0 then 0 else 1+cntF f (c&&& (c-1))
def cnt(c:Nat):Nat:=cntF 8 c
def countB(m:List UInt8):Nat:=(m.map fun c=>cnt c.toNat).sum
theorem cnt_step:∀c:Fin 256,c.val≠0→cnt c.val=1+cnt (c.val&&& (c.val-1)):=by decide+kernel
theorem cnt_le:∀c:Fin 256,cnt c.val≤8:=by decide+kernel
theorem bit_or:∀(c:Fin 256) (a b:Fin 8),((c.val|||2^b.val)&&& 2^a.val !=0)=(decide (a=b)||(c.val&&& 2^a.val !=0)):=by decide+kernel
theorem bit_and:∀(c:Fin 256) (a b:Fin 8),((c.val&&& (255-2^b.val))&&& 2^a.val !=0)=(!decide (a=b)&&(c.val&&& 2^a.val !=0)):=by decide+kernel
theorem or_lt:∀(c:Fin 256) (b:Fin 8),c.val|||2^b.val<256:=by decide+kernel
theorem and_lt:∀(c:Fin 256) (b:Fin 8),c.val&&& (255-2^b.val)<256:=by decide+kernel
theorem byteAt_lt(m:List UInt8)(n:Nat):byteAt m n<256:=(m.getD ((n-1)/8) 0).toNat_lt
theorem bit8(n:Nat):(n-1) % 8<8:=Nat.mod_lt _ (by omega)
theorem take_length(m:List UInt8)(n:Nat):(takeB m n).length=m.length:=List.length_set
theorem give_length(m:List UInt8)(n:Nat):(giveB m n).length=m.length:=List.length_set
theorem used_take{m:List UInt8}(hm:m.length=16){n k:Nat}(h1:1≤n)(h2:n≤128)(k1:1≤k)(k2:k≤128):usedB (takeB m n) k=(decide (k=n)||usedB m k):=by
 unfold usedB;by_cases hb:(k-1)/8=(n-1)/8
 ·have e:byteAt (takeB m n) k=byteAt m n|||bitOf n:=by
   show((m.set _ _).getD _ 0).toNat=_
   rw[hb,List.getD_eq_getElem?_getD,List.getElem?_set_self (by omega)];have:=or_lt ⟨byteAt m n,byteAt_lt m n⟩ ⟨_,bit8 n⟩
   simp only[Option.getD_some,UInt8.toNat_ofNat'];exact Nat.mod_eq_of_lt this
  have e2:byteAt m k=byteAt m n:=by unfold byteAt;rw[hb]
  rw[e,e2];have:=bit_or ⟨byteAt m n,byteAt_lt m n⟩ ⟨_,bit8 k⟩ ⟨_,bit8 n⟩
  simp only[Fin.mk.injEq]at this;rw[show decide (k=n)=decide ((k-1) % 8=(n-1) % 8) by congr 1;apply propext;omega];exact this
 ·have e:byteAt (takeB m n) k=byteAt m k:=by
   show((m.set _ _).getD _ 0).toNat=_
   rw[List.getD_eq_getElem?_getD,List.getElem?_set_ne (fun e=>hb e.symm),←List.getD_eq_getElem?_getD];rfl
  rw[e,decide_eq_false (by intro e;subst e;exact hb rfl),Bool.false_or]
theorem used_give{m:List UInt8}(hm:m.length=16){n k:Nat}(h1:1≤n)(h2:n≤128)(k1:1≤k)(k2:k≤128):usedB (giveB m n) k=(!decide (k=n)&&usedB m k):=by
 unfold usedB;by_cases hb:(k-1)/8=(n-1)/8
 ·have e:byteAt (giveB m n) k=byteAt m n&&& (255-bitOf n):=by
   show((m.set _ _).getD _ 0).toNat=_
   rw[hb,List.getD_eq_getElem?_getD,List.getElem?_set_self (by omega)];have:=and_lt ⟨byteAt m n,byteAt_lt m n⟩ ⟨_,bit8 n⟩
   simp only[Option.getD_some,UInt8.toNat_ofNat'];exact Nat.mod_eq_of_lt this
  have e2:byteAt m k=byteAt m n:=by unfold byteAt;rw[hb]
  rw[e,e2];have:=bit_and ⟨byteAt m n,byteAt_lt m n⟩ ⟨_,bit8 k⟩ ⟨_,bit8 n⟩
  simp only[Fin.mk.injEq]at this;rw[show decide (k=n)=decide ((k-1) % 8=(n-1) % 8) by congr 1;apply propext;omega];exact this
 ·have e:byteAt (giveB m n) k=byteAt m k:=by
   show((m.set _ _).getD _ 0).toNat=_
   rw[List.getD_eq_getElem?_getD,List.getElem?_set_ne (fun e=>hb e.symm),←List.getD_eq_getElem?_getD];rfl
  rw[e,decide_eq_false (by intro e;subst e;exact hb rfl),Bool.not_false,Bool.true_and]
theorem firstFrom_in{m:List UInt8}:∀{f n:Nat},n+f=129→1≤n→(firstFrom m f n=0∧∀k,n≤k→k≤128→usedB m k=true)∨(n≤firstFrom m f n∧firstFrom m f n≤128∧usedB m (firstFrom m f n)=false∧∀k,n≤k→k<firstFrom m f n→usedB m k=true)
 |0,n,h,_=>Or.inl ⟨rfl,fun k h1 h2=>by omega⟩
 |f+1,n,h,h1=>by
  rw[firstFrom]
  cases hu:usedB m n with
  |true=>
   rw[if_pos rfl];rcases firstFrom_in (m:=m) (f:=f) (n:=n+1) (by omega) (by omega)with⟨e,ha⟩|⟨e1,e2,e3,ha⟩
   ·refine Or.inl ⟨e,fun k k1 k2=> ?_⟩;by_cases hk:k=n
    ·rw[hk];exact hu
    ·exact ha k (by omega) k2
   ·refine Or.inr ⟨by omega,e2,e3,fun k k1 k2=> ?_⟩;by_cases hk:k=n
    ·rw[hk];exact hu
    ·exact ha k (by omega) k2
  |false=>
   rw[if_neg (by simp)];exact Or.inr ⟨Nat.le_refl _,by omega,hu,fun k k1 k2=>by omega⟩
def partAt(kind number:Int):Option (Nat×Nat):=
 if kind=1 then(if number=0 then some (0,64)else none)
 else if kind=2 then(if 1≤number∧number≤8 then some (64+64*(number.toNat-1),64)else none)
 else if kind=3 then(if number=0 then some (576,64)else none)
 else if kind=4 then(if 1≤number∧number≤32 then some (640+64*(number.toNat-1),64)else none)
 else if kind=5 then(if number=0 then some (2688,4096)else none)
 else if kind=6 then(if 1≤number∧number≤8 then some (6784+1024*(number.toNat-1),1024)else none)
 else if kind=7 then(if 1≤number∧number≤128 then some (14976+64*(number.toNat-1),64)else none)
 else none
end Gd
section
class MemNo where
 no:Nat
open Go.RowKit
structure Only(F:Nat→Prop)(w w':World):Prop where
 os:w'.os=w.os
 tape:w'.tape=w.tape
 output:w'.output=w.output
 size:w.heap.size≤w'.heap.size
 block:∀k,k<w.heap.size→¬F k→w'.heap[k]? =w.heap[k]?
theorem Only.refl(F:Nat→Prop)(w:World):Only F w w:=⟨rfl,rfl,rfl,Nat.le_refl _,fun _ _ _=>rfl⟩
theorem Only.trans{F G:Nat→Prop}{a b c:World}(h:Only F a b)(k:Only G b c)(hG:∀j,j<a.heap.size→G j→F j):Only F a c:=
 ⟨k.os.trans h.os,k.tape.trans h.tape,k.output.trans h.output,Nat.le_trans h.size k.size,fun j hj hn=>(k.block j (Nat.lt_of_lt_of_le hj h.size) (fun e=>hn (hG j hj e))).trans (h.block j hj hn)⟩
theorem Only.mono{F G:Nat→Prop}{w w':World}(h:Only F w w')(hG:∀j,j<w.heap.size→F j→G j):Only G w w':=
 ⟨h.os,h.tape,h.output,h.size,fun j hj hn=>h.block j hj fun e=>hn (hG j hj e)⟩
theorem below_only{w w':World}(h:Below w.heap.size w w')(F:Nat→Prop):Only F w w':=⟨h.os,h.tape,h.output,h.size,fun j hj _=>h.block j hj⟩
theorem grown_only{F:Nat→Prop}{w w':World}{row:Option Nat}(h:w.grownBy w' row)(hr:∀k,row=some k→F k):Only F w w':=
 ⟨h.os,h.tape,h.output,h.size,fun j hj hn=>h.block j hj fun e=>hn (hr j e.symm)⟩
theorem Only.cell{F:Nat→Prop}{w w':World}(h:Only F w w'){p:Addr}(hp:p.block<w.heap.size)(hn:¬F p.block):w'.cell? p=w.cell? p:=World.cell?_of_block (w:=w) (h.block _ hp hn)
theorem Only.frozen{F:Nat→Prop}{w w':World}(h:Only F w w'){p:Addr}(hp:p.block<w.heap.size)(hn:¬F p.block):w'.frozen? p=w.frozen? p:=World.frozen?_of_block (w:=w) (h.block _ hp hn)
theorem Only.below{F:Nat→Prop}{B:Nat}{w w':World}(h:Only F w w')(hB:B≤w.heap.size)(hn:∀k,k<B→¬F k):Below B w w':=
 ⟨h.os,h.tape,h.output,h.size,fun k hk=>h.block k (Nat.lt_of_lt_of_le hk hB) (hn k hk)⟩
theorem only_setCell(w:World)(a:Addr)(u:Value){F:Nat→Prop}(hF:F a.block):Only F w (w.setCell a u):=
 ⟨rfl,rfl,rfl,by simp[World.setCell],fun k _ hn=>Below.heap_setCell w a u k (fun e=>hn (e▸hF))⟩
def Gr(F:Nat→Prop)(w:World)(k:Nat):Prop:=F k∨w.heap.size≤k
structure Held(I:World→(Nat→Prop)→Prop):Prop where
 keep:∀{w w':World} {F:Nat→Prop},I w F→w.heap.size≤w'.heap.size→(∀k,k<w.heap.size→F k→w'.heap[k]? =w.heap[k]?)→I w' F
 mono:∀{w:World} {F G:Nat→Prop},I w F→(∀k,k<w.heap.size→F k→G k)→I w G
theorem Held.below{I:World→(Nat→Prop)→Prop}(hH:Held I){w w':World}{F:Nat→Prop}(h:I w F)(hb:Below w.heap.size w w'):I w' F:=hH.keep h hb.size fun k hk _=>hb.block k hk
theorem Held.apart{I:World→(Nat→Prop)→Prop}(hH:Held I){w w':World}{F G:Nat→Prop}(h:I w F)(ho:Only G w w')(hd:∀k,k<w.heap.size→F k→¬G k):I w' F:=
 hH.keep h ho.size fun k hk hF=>ho.block k hk (hd k hk hF)
theorem Held.back{I:World→(Nat→Prop)→Prop}(hH:Held I){w wa w':World}{F:Nat→Prop}(hb:Below w.heap.size w wa)(h:I w' (Gr F wa))(ho:Only F wa w'):I w' (Gr F w)∧Only F w w':=
 ⟨hH.mono h fun _ _ h=>h.imp id fun e=>Nat.le_trans hb.size e,(below_only hb F).trans ho fun _ _ h=>h⟩
def Ft(F:Nat→Prop)(w0:World)(n:Nat)(k:Nat):Prop:=(F k∧k<w0.heap.size)∨w0.heap.size+n≤k
structure St(I:World→(Nat→Prop)→Prop)(F:Nat→Prop)(w0:World)(n:Nat)(w:World):Prop where
 inv:I w (Ft F w0 n)
 only:Only F w0 w
 size:w0.heap.size+n≤w.heap.size
theorem St.start{I:World→(Nat→Prop)→Prop}(hH:Held I){w w':World}{F:Nat→Prop}{n:Nat}(h:I w F)(hb:Below w.heap.size w w')(hs:w.heap.size+n≤w'.heap.size):St I F w n w':=
 ⟨hH.below (hH.mono h fun _ hk hF=>Or.inl ⟨hF,hk⟩) hb,below_only hb F,hs⟩
theorem St.read{I:World→(Nat→Prop)→Prop}(hH:Held I){w0 w w':World}{F:Nat→Prop}{n:Nat}(h:St I F w0 n w)(hb:Below w.heap.size w w'):St I F w0 n w':=
 ⟨hH.below h.inv hb,h.only.trans (below_only hb F) fun _ _ e=>e,Nat.le_trans h.size hb.size⟩
theorem St.write{I J:World→(Nat→Prop)→Prop}(hJ:Held J){w0 w w':World}{F:Nat→Prop}{n:Nat}(h:St I F w0 n w)(hi:J w' (Gr (Ft F w0 n) w))(ho:Only (Ft F w0 n) w w'):St J F w0 n w':=
 ⟨hJ.mono hi fun _ _ e=>e.elim id fun e=>Or.inr (Nat.le_trans h.size e),h.only.trans ho fun j hj e=>e.elim (fun e=>e.1) fun e=>absurd e (by omega),Nat.le_trans h.size ho.size⟩
theorem St.own{I:World→(Nat→Prop)→Prop}{w0 w w':World}{F:Nat→Prop}{n:Nat}(h:St I F w0 n w)(ho:Only (Ft F w0 n) w w'){k:Nat}(h1:w0.heap.size≤k)(h2:k<w0.heap.size+n):w'.heap[k]? =w.heap[k]? :=
 ho.block k (Nat.lt_of_lt_of_le h2 h.size) fun e=>e.elim (fun e=>absurd e.2 (by omega)) fun e=>absurd e (by omega)
theorem St.fin{I:World→(Nat→Prop)→Prop}(hH:Held I){w0 w w':World}{F:Nat→Prop}{n:Nat}(h:St I F w0 n w)(ho:Only (fun k=>w0.heap.size≤k∧k<w0.heap.size+n) w w'):I w' (Gr F w0)∧Only F w0 w':=by
 refine⟨hH.mono (hH.apart h.inv ho fun k _ e he=> ?_) fun k _ e=> ?_,h.only.trans ho fun j hj e=>absurd e.1 (by omega)⟩
 ·rcases e with⟨_,e⟩|e<;>omega
 ·rcases e with⟨e,_⟩|e
  ·exact Or.inl e
  ·exact Or.inr (by omega)
end
section
open Go.Maps
theorem lt_get{w:World}{k:Nat}{o:Obj}(h:w.heap[k]? =some o):k<w.heap.size:=(Array.getElem?_eq_some_iff.1 h).1
def cellsB(S:List UInt8):Array Value:=(Lib.byteCells S).toArray
theorem cellsB_get{S:List UInt8}{j:Nat}{x:UInt8}(h:S[j]? =some x):(cellsB S)[j]? =some (.int .u8 x.toNat):=by
 unfold cellsB;rw[List.getElem?_toArray];exact byteCells_get h
def cellsT(S:List UInt8)(T:List Value):Array Value:=(Lib.byteCells S++T).toArray
theorem cellsT_get{S:List UInt8}{T:List Value}{j:Nat}{x:UInt8}(h:S[j]? =some x):(cellsT S T)[j]? =some (.int .u8 x.toNat):=by
 have h1:=byteCells_get h;unfold cellsT;rw[List.getElem?_toArray,List.getElem?_append_left (List.getElem?_eq_some_iff.1 h1).1];exact h1
theorem cellsT_nil(S:List UInt8):cellsT S []=cellsB S:=by
 unfold cellsT cellsB;rw[List.append_nil]
theorem cellsT_set{S:List UInt8}{T:List Value}{j:Nat}(x:UInt8)(hj:j<S.length):(cellsT S T).setIfInBounds j (.int .u8 x.toNat)=cellsT (S.set j x) T:=by
 unfold cellsT Lib.byteCells;rw[←Array.toList_inj];simp only[Array.toList_setIfInBounds,List.map_set];rw[List.set_append_left _ _ (by rw[List.length_map];exact hj)]
def Away(w:World)(ab n K:Nat):Prop:=∃(k:Nat) (D:DataW Unit),k≤K∧w.ownsMap prog 3 (plainElem prog 4) ab k D∧∀kl,Maps.has D kl=true→∃j:Nat,j<n∧kl= .int .i64 j
def cel(S:List UInt8)(k:Nat):List UInt8:=Gd.part S (k*8) 8
structure MemX(w:World)(m sb lb ab n:Nat)(S:List UInt8)(K:Nat)(X:Nat→Prop):Prop where
 objE:∃c:Nat,w.heap[m]? =some (.cells #[.slice (some ⟨sb,0,none⟩) n c,.slice (some ⟨lb,0,none⟩) n n,.map (some ab)] 68 (0,0))
 seenE:∃T:List Value,w.heap[sb]? =some (.cells (cellsT S T) 64 (0,0))
 rest:∃(Z:List UInt8) (q:Nat) (D:DataW Unit),(Z.length=S.length∧w.heap[lb]? =some (.cells (cellsB Z) 64 (0,0)))∧(q≤K∧w.ownsMap prog 3 (plainElem prog 4) ab q D∧∀kl,Maps.has D kl=true→∃j:Nat,j<n∧kl= .int .i64 j)∧∀j:Nat,j<n→¬X j→(cel S j=cel Z j∨Maps.has D (.int .i64 j)=true)
 len:S.length=n*8
 small:n≤131072
 lines:n % 8=0
 ne:sb≠lb
def NoX(_:Nat):Prop:=False
abbrev MemT(w:World)(m sb lb ab n:Nat)(S:List UInt8)(K:Nat):Prop:=MemX w m sb lb ab n S K NoX
structure MemAt(w:World)(m sb lb ab n:Nat)(S:List UInt8)(K:Nat):Prop extends MemX w m sb lb ab n S K (fun _=>1000000000000≤K) where
 same:K<1000000000000→w.heap[lb]? =some (.cells (cellsB S) 64 (0,0))
theorem MemX.lasts{w:World}{m sb lb ab n K:Nat}{S:List UInt8}{X:Nat→Prop}(h:MemX w m sb lb ab n S K X):∃Z:List UInt8,Z.length=S.length∧w.heap[lb]? =some (.cells (cellsB Z) 64 (0,0)):=by
 obtain⟨Z,q,D,hZ,-,-⟩:=h.rest;exact⟨Z,hZ⟩
theorem MemX.away{w:World}{m sb lb ab n K:Nat}{S:List UInt8}{X:Nat→Prop}(h:MemX w m sb lb ab n S K X):Away w ab n K:=by
 obtain⟨Z,q,D,-,hD,-⟩:=h.rest;exact⟨q,D,hD⟩
theorem MemX.wide{w:World}{m sb lb ab n K:Nat}{S:List UInt8}{X Y:Nat→Prop}(h:MemX w m sb lb ab n S K X)(hX:∀j,j<n→X j→Y j):MemX w m sb lb ab n S K Y:=by
 obtain⟨Z,q,D,hZ,hD,hT⟩:=h.rest;exact⟨h.objE,h.seenE,⟨Z,q,D,hZ,hD,fun j hj hn=>hT j hj fun e=>hn (hX j hj e)⟩,h.len,h.small,h.lines,h.ne⟩
theorem MemAt.strict{w:World}{m sb lb ab n K:Nat}{S:List UInt8}(h:MemAt w m sb lb ab n S K)(hK:K<1000000000000):MemX w m sb lb ab n S K NoX:=h.toMemX.wide fun _ _ e=>absurd e (Nat.not_le.2 hK)
theorem MemAt.of{w:World}{m sb lb ab n K:Nat}{S:List UInt8}(h:MemX w m sb lb ab n S K NoX)(hs:w.heap[lb]? =some (.cells (cellsB S) 64 (0,0))):MemAt w m sb lb ab n S K:=⟨h.wide fun _ _ e=>e.elim,fun _=>hs⟩
def MemF(m:Nat)(S:List UInt8)(K:Nat)(w:World)(F:Nat→Prop):Prop:=∃sb lb ab n,MemAt w m sb lb ab n S K∧F m∧F sb∧F lb∧F ab
theorem map_keepM{w w':World}{b n:Nat}{D:DataW Unit}{k:TypeId}{R:Value→Option (DataW Unit×List MemPlace)}(h:w.ownsMap prog k R b n D)(hb:w'.heap[b]? =w.heap[b]?):w'.ownsMap prog k R b n D:=by
 obtain⟨es,ck,h1,h2⟩:=h;exact⟨es,ck,hb.trans h1,h2⟩
theorem Away.lt{w:World}{ab n K:Nat}(h:Away w ab n K):ab<w.heap.size:=by
 obtain⟨k,D,_,h,_⟩:=h;exact h.lt
theorem Away.keep{w w':World}{ab n K:Nat}(h:Away w ab n K)(hb:w'.heap[ab]? =w.heap[ab]?):Away w' ab n K:=by
 obtain⟨k,D,h1,h2,h3⟩:=h;exact⟨k,D,h1,map_keepM h2 hb,h3⟩
theorem MemX.keep{w w':World}{m sb lb ab n:Nat}{S:List UInt8}{K:Nat}{X:Nat→Prop}(h:MemX w m sb lb ab n S K X)(hb:∀k,k=m∨k=sb∨k=lb∨k=ab→w'.heap[k]? =w.heap[k]?):MemX w' m sb lb ab n S K X:=by
 obtain⟨Z,q,D,⟨hZ,hl⟩,⟨hq,ho,hD⟩,hT⟩:=h.rest;obtain⟨c,hc⟩:=h.objE;obtain⟨T,hs⟩:=h.seenE;exact⟨⟨c,(hb m (Or.inl rfl)).trans hc⟩,⟨T,(hb sb (Or.inr (Or.inl rfl))).trans hs⟩,⟨Z,q,D,⟨hZ,(hb lb (Or.inr (Or.inr (Or.inl rfl)))).trans hl⟩,⟨hq,map_keepM ho (hb ab (Or.inr (Or.inr (Or.inr rfl)))),hD⟩,hT⟩,h.len,h.small,h.lines,h.ne⟩
theorem MemAt.keep{w w':World}{m sb lb ab n:Nat}{S:List UInt8}{K:Nat}(h:MemAt w m sb lb ab n S K)(hb:∀k,k=m∨k=sb∨k=lb∨k=ab→w'.heap[k]? =w.heap[k]?):MemAt w' m sb lb ab n S K:=
 ⟨h.toMemX.keep hb,fun hK=>(hb lb (Or.inr (Or.inr (Or.inl rfl)))).trans (h.same hK)⟩
theorem MemX.lts{w:World}{m sb lb ab n:Nat}{S:List UInt8}{K:Nat}{X:Nat→Prop}(h:MemX w m sb lb ab n S K X):∀k,k=m∨k=sb∨k=lb∨k=ab→k<w.heap.size:=by
 obtain⟨Z,hZ,hl⟩:=h.lasts;rintro k (rfl|rfl|rfl|rfl)
 ·exact lt_get h.objE.choose_spec
 ·exact lt_get h.seenE.choose_spec
 ·exact lt_get hl
 ·exact h.away.lt
theorem MemF.held(m:Nat)(S:List UInt8)(K:Nat):Held (MemF m S K) where
 keep:=by
  rintro w w' F ⟨sb,lb,ab,n,h,h1,h2,h3,h4⟩ hs hb;refine⟨sb,lb,ab,n,h.keep fun k hk=>hb k (h.lts k hk) ?_,h1,h2,h3,h4⟩;rcases hk with rfl|rfl|rfl|rfl<;>assumption
 mono:=by
  rintro w F G ⟨sb,lb,ab,n,h,h1,h2,h3,h4⟩ hG;exact⟨sb,lb,ab,n,h,hG _ (h.lts _ (Or.inl rfl)) h1,hG _ (h.lts _ (Or.inr (Or.inl rfl))) h2,hG _ (h.lts _ (Or.inr (Or.inr (Or.inl rfl)))) h3,hG _ (h.lts _ (Or.inr (Or.inr (Or.inr rfl)))) h4⟩
theorem size_any{m sb lb ab n K:Nat}{S:List UInt8}{X:Nat→Prop}(w:World)(h:MemX w m sb lb ab n S K X):Calls prog 36 #[.pointer (some ⟨m,0,none⟩)] w fun e w'=>e= .returned (.int .i64 S.length)∧w'=w:=by
 obtain⟨cp,hobj⟩:=h.objE;have c0:=cell_of_row w m 0 _ _ _ hobj;have hl:=h.len;have hs:=h.small;clear h hobj;go_enter func36,ntmps36;go_wp2;go_ret
 refine⟨ret_int ?_,rfl⟩;omega
theorem within_any{m sb lb ab n K:Nat}{S:List UInt8}{X:Nat→Prop}(at_ k:Int)(ha:I64 at_)(hk:I64 k)(w:World)(h:MemX w m sb lb ab n S K X):Calls prog 22 #[.pointer (some ⟨m,0,none⟩),.int .i64 at_,.int .i64 k] w fun e w'=>e= .returned (.bool (decide (0≤at_)&&(decide (0≤k)&&decide (at_+k≤S.length))))∧w'=w:=by
 have HS:=hid (size_any w h);have hl:=h.len;have hs:=h.small;have h1:=ha.lo;have h2:=hk.lo;obtain⟨N,hN⟩:=nm S.length;rw[←hN]at HS hl;rw[←hN];have hN2:N≤1048576:=by omega
 clear h ha hk hN hl hs;by_cases a0:0≤at_
 ·by_cases k0:0≤k
  ·by_cases aN:at_≤N
   ·go_enter func22,ntmps22;go_wp2_with(go_at_call 36;refine HS.o.mono ?_;rintro e w2 ⟨rfl,rfl⟩)
    go_ret
    refine⟨ret_bool ?_,rfl⟩;rw[Bool.eq_iff_iff];simp
    omega
   ·have aN':decide (at_≤(N:Int))=false:=decide_eq_false aN;go_enter func22,ntmps22;go_wp2_with(go_at_call 36;refine HS.o.mono ?_;rintro e w2 ⟨rfl,rfl⟩)
    go_ret
    refine⟨ret_bool ?_,rfl⟩;rw[Bool.eq_iff_iff];simp
    omega
  ·have k0':decide (0≤k)=false:=decide_eq_false k0;go_enter func22,ntmps22;go_wp2_with fail
   go_ret
   refine⟨ret_bool ?_,rfl⟩;simp[k0']
 ·have a0':decide (0≤at_)=false:=decide_eq_false a0;go_enter func22,ntmps22;go_wp2_with fail
  go_ret
  refine⟨ret_bool ?_,rfl⟩;simp[a0']
end
section
open Go.Maps
theorem part_snoc{S:List UInt8}{a i:Nat}{x:UInt8}(h:S[a+i]? =some x):Gd.part S a (i+1)=Gd.part S a i++[x]:=part_next h
theorem nat_I64{n:Nat}(h:n≤9223372036854775807):I64 (n:Int):=by
 unfold I64;simp[Lit.wf,show IntKind.i64.min= -9223372036854775808 from rfl,show IntKind.i64.max=9223372036854775807 from rfl];omega
def Loads(w:World)(L:List UInt8)(e:Ending)(w':World):Prop:=∃v,e= .returned (.tuple #[v,.int .i64 0])∧OwnB w' w.heap.size v L∧Below w.heap.size w w'
theorem bytes_any{m sb lb ab n K:Nat}{S:List UInt8}(cp a k:Nat)(w:World)(h:MemAt w m sb lb ab n S K)(hak:a+k≤S.length)(hk:k≤100000):
 Calls prog 124 #[.pointer (some ⟨m,0,none⟩),.slice (some ⟨sb,0,none⟩) n cp,.int .i64 a,.int .i64 k] w (Loads w (Gd.part S a k)):=by
 obtain⟨T,hseen⟩:=h.seenE;have hl:=h.len;have hs:=h.small;have HW:=hid (within_any (a:Int) (k:Int) (nat_I64 (by omega)) (nat_I64 (by omega)) w h.toMemX);have hwb:(decide (0≤(a:Int))&&(decide (0≤(k:Int))&&decide ((a:Int)+k≤S.length)))=true:=by simp;omega
 rw[hwb]at HW;have hsb:=lt_get hseen;have HS:=hid hseen;have hak':Hid (a+k≤S.length):=hid hak;have Hl:=hid hl;have hak2:a+k≤n*8:=by omega
 have hSs:Hid (S.length≤1048576):=hid (by omega);clear h hwb hl hak hseen;go_enter func124,ntmps124;go_upto_region 5 with(go_at_call 22;refine HW.o.mono ?_;rintro e w2 ⟨rfl,rfl⟩)
 go_loopw[10,11] (fun u z wr=>∃i:Nat,z= .int .i64 ((a+i:Nat):Int)∧i≤k∧Hid (OwnB wr w2.heap.size u (Gd.part S a i))∧Hid (Below w2.heap.size w2 wr)) (fun _ z _=>a+k-(intOf z).toNat)
 case atStart=>exact⟨0,rfl,by omega,hid (ownB_nil _ _),hid (Below.refl _ _)⟩
 case round=>
  obtain⟨i,rfl,hik,HO,HB⟩:=hrel;by_cases hlt:i<k
  ·obtain⟨x,hx⟩:∃x,S[a+i]? =some x:=⟨_,List.getElem?_eq_getElem (by have:=hak'.o;omega)⟩;have hc0:wr.cell? ⟨sb,a+i,none⟩=some (.int .u8 x.toNat):=(HB.o.cell (p:=⟨sb,a+i,none⟩) hsb).trans ((cell_of_row w2 sb (a+i) _ _ _ HS.o).trans (cellsT_get hx));have hc:wr.cell? ⟨sb,(a+i)/8*8+(a+i) % 8,none⟩=some (.int .u8 x.toNat):=by
    rw[show(a+i)/8*8+(a+i) % 8=a+i by omega];exact hc0
   have e3:((a+i:Nat):Int)<(a:Int)+k:=by omega
   have e4:((a+i:Nat):Int)/8<n:=by omega
   have e6:(0:Int)≤((a+i:Nat):Int)/8:=by omega
   have e5:((a+i:Nat):Int) % 8<8:=by omega
   have HX:=hid hx;have HL:Hid ((Gd.part S a i).length<1000000):=hid (by rw[Gd.part_length (by have:=hak'.o;omega)];omega);clear hx;go_wp2_with(at_builtin;refine app_byte rfl _ _ rfl w2.heap.size u10 (Gd.part S a i) wr rfl HO.o _ x rfl rfl HL.o HB.o.size ?_)
   intro v' w' ho' hb';have HO':Hid (OwnB w' w2.heap.size v' (Gd.part S a (i+1))):=hid (by rw[part_snoc HX.o];exact ho');have HB':=hid (HB.o.trans hb');clear ho' hb' hc hc0;go_wp2;go_roundw
   case rel=>exact⟨i+1,by go_num,by omega,HO',HB'⟩
   case measure=>simp[intOf];omega
  ·obtain rfl:i=k:=by omega
   clear hlt;go_wp2;go_ret2
   exact⟨_,rfl,HO.o,HB.o⟩
theorem cell2{w:World}{m t:Nat}{a b c:Value}(h:w.heap[m]? =some (.cells #[a,b,c] t (0,0))):w.cell? ⟨m,0,none⟩=some a∧w.cell? ⟨m,1,none⟩=some b∧w.cell? ⟨m,2,none⟩=some c:=
 ⟨cell_of_row w m 0 _ _ _ h,cell_of_row w m 1 _ _ _ h,cell_of_row w m 2 _ _ _ h⟩
theorem mload_any{m K:Nat}{S:List UInt8}{F:Nat→Prop}(a k:Nat)(w:World)(h:MemF m S K w F)(hak:a+k≤S.length)(hk:k≤100000):
 Calls prog 80 #[.pointer (some ⟨m,0,none⟩),.int .i64 a,.int .i64 k] w (Loads w (Gd.part S a k)):=by
 obtain⟨sb,lb,ab,n,h,_⟩:=h;obtain⟨cp,hobj⟩:=h.objE;have HB:=hid (bytes_any cp a k w h hak hk);obtain⟨c0,_,_⟩:=cell2 hobj;clear h hobj;go_enter func80,ntmps80;go_wp2_with fail
 refine HB.o.mono ?_;rintro e w2 ⟨v,rfl,ho,hb⟩;have HO:=hid ho;have HB2:=hid hb;clear ho hb;go_wp2;go_ret2
 exact⟨v,rfl,HO.o,HB2.o⟩
def Fails(w:World)(e:Ending)(w':World):Prop:=e= .returned (.tuple #[.slice none 0 0,.int .i64 1])∧w'=w
theorem mload_bad{m K:Nat}{S:List UInt8}{F:Nat→Prop}(a k:Int)(ha:I64 a)(hk:I64 k)(w:World)(h:MemF m S K w F)(hn:¬(0≤a∧0≤k∧a+k≤S.length)):
 Calls prog 80 #[.pointer (some ⟨m,0,none⟩),.int .i64 a,.int .i64 k] w (Fails w):=by
 obtain⟨sb,lb,ab,n,h,_⟩:=h;have HW:=hid (within_any a k ha hk w h.toMemX);have hwb:(decide (0≤a)&&(decide (0≤k)&&decide (a+k≤S.length)))=false:=by
  rw[Bool.eq_false_iff];intro e;simp only[Bool.and_eq_true,decide_eq_true_eq]at e;exact hn ⟨e.1,e.2.1,e.2.2⟩
 rw[hwb]at HW;obtain⟨cp,hobj⟩:=h.objE;obtain⟨c0,_,_⟩:=cell2 hobj;have HB:Hid (Calls prog 124 #[.pointer (some ⟨m,0,none⟩),.slice (some ⟨sb,0,none⟩) n cp,.int .i64 a,.int .i64 k] w (Fails w)):=hid (by
  clear c0 h hobj;go_enter func124,ntmps124;go_wp2_with(go_at_call 22;refine HW.o.mono ?_;rintro e w2 ⟨rfl,rfl⟩)
  go_ret2
  exact⟨rfl,rfl⟩)
 clear h HW hwb hobj;go_enter func80,ntmps80;go_wp2_with fail
 refine HB.o.mono ?_;rintro e w2 ⟨rfl,rfl⟩;go_wp2;go_ret2
 exact⟨rfl,rfl⟩
end
section
open Go.Maps
theorem intLaw:Keyed prog 3:=int_keyed underlying3
theorem only_turned{w w':World}{b:Nat}(h:w.mapTurned w' b):Only (fun k=>k=b) w w':=grown_only h.grown (fun k e=>(Option.some.inj e).symm)
theorem has_del_le{D:DataW Unit}{kl z:Lit}(h:has (D.del kl) z=true):has D z=true:=by
 by_cases e:z=kl
 ·rw[e,has_del_same]at h
  cases h
 ·rwa [has_del_other e]at h
theorem splice_take{S b:List UInt8}{a i:Nat}{x:UInt8}(hx:b[i]? =some x)(h:a+b.length≤S.length):(Gd.splice S a (b.take i)).set (a+i) x=Gd.splice S a (b.take (i+1)):=by
 have hi:=(List.getElem?_eq_some_iff.1 hx).1;have h1:(b.take i).length=i:=by rw[List.length_take];omega
 have h2:(b.take (i+1)).length=i+1:=by rw[List.length_take];omega
 apply List.ext_getElem?
 intro j;rw[Gd.splice_get (by rw[h2];omega),h2];by_cases hj:j=a+i
 ·subst hj;rw[List.getElem?_set_self (by rw[Gd.splice_length (by rw[h1];omega)];omega),if_pos (by omega),show a+i-a=i by omega,List.getElem?_take_of_lt (by omega),hx]
 ·rw[List.getElem?_set_ne (fun e=>hj e.symm),Gd.splice_get (by rw[h1];omega),h1];by_cases hk:a≤j∧j<a+i
  ·rw[if_pos hk,if_pos (by omega),List.getElem?_take_of_lt (by omega),List.getElem?_take_of_lt (by omega)]
  ·rw[if_neg hk,if_neg (by omega)]
theorem cellsB_set{S:List UInt8}{j:Nat}(x:UInt8):(cellsB S).setIfInBounds j (.int .u8 x.toNat)=cellsB (S.set j x):=by
 unfold cellsB Lib.byteCells;rw[←Array.toList_inj];simp[List.map_set]
theorem cel_set{S:List UInt8}{j:Nat}(x:UInt8){k:Nat}(h:k≠j/8):cel (S.set j x) k=cel S k:=by
 unfold cel Gd.part;apply List.ext_getElem?
 intro i;rw[List.getElem?_take,List.getElem?_take,List.getElem?_drop,List.getElem?_drop];by_cases hi:i<8
 ·rw[if_pos hi,if_pos hi,List.getElem?_set_ne (by omega)]
 ·rw[if_neg hi,if_neg hi]
theorem MemX.write{w:World}{m sb lb ab n K:Nat}{S:List UInt8}{X:Nat→Prop}(h:MemX w m sb lb ab n S K X)(j:Nat)(x:UInt8)(hj:j<S.length)(hm:m≠sb∧m≠ab∧sb≠ab):MemX (w.setCell ⟨sb,j,none⟩ (.int .u8 x.toNat)) m sb lb ab n (S.set j x) K (fun q=>X q∨j/8=q):=by
 have ho:∀k,k≠sb→(w.setCell ⟨sb,j,none⟩ (.int .u8 x.toNat)).heap[k]? =w.heap[k]? :=fun k hk=>Go.heap_setCell_other w ⟨sb,j,none⟩ k _ (fun e=>hk e);obtain⟨Z,q,D,⟨hZ,hl⟩,⟨hq,hown,hD⟩,hT⟩:=h.rest;obtain⟨c,hc⟩:=h.objE;obtain⟨T,hs⟩:=h.seenE;refine⟨⟨c,(ho m hm.1).trans hc⟩,⟨T,?_⟩,⟨Z,q,D,⟨by rw[List.length_set];exact hZ,(ho lb h.ne.symm).trans hl⟩,⟨hq,map_keepM hown (ho ab hm.2.2.symm),hD⟩,fun i hi hn=> ?_⟩,by rw[List.length_set];exact h.len,h.small,h.lines,h.ne⟩
 ·rw[←cellsT_set x hj];exact Go.heap_setCell_same w sb j _ _ _ hs
 ·rw[cel_set x (fun e=>hn (Or.inr e.symm))];exact hT i hi fun e=>hn (Or.inl e)
theorem MemX.turn{w w':World}{m sb lb ab n K k:Nat}{S Z:List UInt8}{D:DataW Unit}{X Y:Nat→Prop}(h:MemX w m sb lb ab n S K X)(hm:m≠sb∧m≠ab∧sb≠ab)(hlb:lb≠ab)(ht:w.mapTurned w' ab)(hZ:Z.length=S.length∧w.heap[lb]? =some (.cells (cellsB Z) 64 (0,0)))(hk:k≤K)(ho:w'.ownsMap prog 3 (plainElem prog 4) ab k D)(hD:∀kl,has D kl=true→∃j:Nat,j<n∧kl= .int .i64 j)
 (hT:∀j:Nat,j<n→¬Y j→(cel S j=cel Z j∨has D (.int .i64 j)=true)):MemX w' m sb lb ab n S K Y:=by
 have hb:∀q,q<w.heap.size→q≠ab→w'.heap[q]? =w.heap[q]? :=fun q hq hn=>(only_turned ht).block q hq hn;obtain⟨c,hc⟩:=h.objE;obtain⟨T,hs⟩:=h.seenE;exact⟨⟨c,(hb m (lt_get hc) hm.2.1).trans hc⟩,⟨T,(hb sb (lt_get hs) hm.2.2).trans hs⟩,⟨Z,k,D,⟨hZ.1,(hb lb (lt_get hZ.2) hlb).trans hZ.2⟩,⟨hk,ho,hD⟩,hT⟩,h.len,h.small,h.lines,h.ne⟩
def touched(a k:Nat)(q:Nat):Prop:=∃i,i<k∧(a+i)/8=q
theorem MemX.apart{w:World}{m sb lb ab n K:Nat}{S:List UInt8}{X:Nat→Prop}(h:MemX w m sb lb ab n S K X):(m≠sb∧m≠ab∧sb≠ab)∧lb≠ab∧m≠lb:=by
 obtain⟨k,D,_,⟨es,ck,hm,_⟩,_⟩:=h.away;obtain⟨Z,hZ,hl⟩:=h.lasts;obtain⟨c1,h1⟩:=h.objE;obtain⟨T2,h2⟩:=h.seenE;refine⟨⟨fun e=> ?_,fun e=> ?_,fun e=> ?_⟩,fun e=> ?_,fun e=> ?_⟩
 ·rw[e,h2]at h1;exact absurd (Obj.cells.inj (Option.some.inj h1)).2.1 (by decide)
 ·rw[e,hm]at h1;cases h1
 ·rw[e,hm]at h2;cases h2
 ·rw[e,hm]at hl;cases hl
 ·rw[e,hl]at h1;exact absurd (Obj.cells.inj (Option.some.inj h1)).2.1 (by decide)
theorem mstore_at{m sb lb ab n K:Nat}{S:List UInt8}{X:Nat→Prop}(a:Nat)(v:Value)(b:List UInt8)(w:World)(h:MemX w m sb lb ab n S K X)(hb:BytesAt w v b)(hap:∀q,v.ownBlock=some q→q≠sb∧q≠ab)(hak:a+b.length≤S.length)(hk:b.length≤100000):
 Calls prog 6 #[.pointer (some ⟨m,0,none⟩),.int .i64 a,v] w fun e w'=>e= .returned (.int .i64 0)∧MemX w' m sb lb ab n (Gd.splice S a b) K (fun q=>X q∨touched a b.length q)∧Only (fun k=>k=sb∨k=ab) w w':=by
 obtain⟨A,c,rfl,hA⟩:=hb;have hl:=h.len;have hs:=h.small;have HW:=hid (within_any (a:Int) (b.length:Int) (nat_I64 (by omega)) (nat_I64 (by omega)) w h);have hwb:(decide (0≤(a:Int))&&(decide (0≤(b.length:Int))&&decide ((a:Int)+(b.length:Nat)≤S.length)))=true:=by simp;omega
 rw[hwb]at HW;obtain⟨N,hN⟩:=nm b.length;rw[←hN]at HW hak hk;rw[←hN];have HN:=hid hN;have HA:=hid hA;have HAp:=hid hap;have Hm:=hid h.apart;have HM0:=hid h;have hak2:a+N≤n*8:=by omega
 have Hl:=hid hl;clear h hwb hl hak hN hA hap;go_enter func6,ntmps6;go_upto_region 4 with(go_at_call 22;refine HW.o.mono ?_;rintro e w2 ⟨rfl,rfl⟩)
 go_loopw[18] (fun z wr=>∃i:Nat,z= .int .i64 i∧i≤N∧Hid (MemX wr m sb lb ab n (Gd.splice S a (b.take i)) K (fun q=>X q∨touched a i q))∧Hid (Only (fun k=>k=sb∨k=ab) w2 wr)) (fun z _=>N-(intOf z).toNat)
 case atStart=>exact⟨0,rfl,by omega,hid (by rw[List.take_zero,Gd.splice_nil];exact HM0.o.wide fun _ _ e=>Or.inl e),hid (Only.refl _ _)⟩
 case round=>
  obtain⟨i,rfl,hin,HM,HO⟩:=hrel;by_cases hlt:i<N
  ·obtain⟨x,hx⟩:∃x,b[i]? =some x:=⟨_,List.getElem?_eq_getElem (by have:=HN.o;omega)⟩;rcases HA.o with⟨_,h0,_⟩|⟨bb,o,rfl,hbl,hcell⟩
   ·rw[h0]at hx;simp at hx
   have hbg:=HAp.o bb rfl;have hc:=(HO.o.cell (p:=⟨bb,o+i,none⟩) hbl (fun e=>e.elim hbg.1 hbg.2)).trans (hcell i x hx);have h1:(i:Int)<N:=by omega
   have h0:(0:Int)≤i:=by omega
   obtain⟨cp,hobj⟩:=HM.o.objE;obtain⟨T,hseen⟩:=HM.o.seenE;obtain⟨c0,_,c2⟩:=cell2 hobj;have hlen:(Gd.splice S a (b.take i)).length=n*8:=HM.o.len;obtain⟨y,hy⟩:∃y,(Gd.splice S a (b.take i))[a+i]? =some y:=⟨_,List.getElem?_eq_getElem (by omega)⟩;have hat:(a+i)/8*8+(a+i) % 8=a+i:=by omega
   have hs0:wr.cell? ⟨sb,(a+i)/8*8+(a+i) % 8,none⟩=some (.int .u8 y.toNat):=by
    rw[hat];exact(cell_of_row wr sb (a+i) _ _ _ hseen).trans (cellsT_get hy)
   have hf0:wr.frozen? ⟨sb,(a+i)/8*8+(a+i) % 8,none⟩=false:=by
    rw[hat];exact frozen_of_row wr sb (a+i) _ _ hseen
   have e4:((a:Int)+i)/8<n:=by omega
   have e6:(0:Int)≤((a:Int)+i)/8:=by omega
   have e5:((a:Int)+i) % 8<8:=by omega
   have e7:(0:Int)≤((a:Int)+i) % 8:=by omega
   have e8:(a:Int)+i<1048576:=by omega
   have HX:=hid hx;have Hat:=hid hat;have HYl:Hid (a+i<(Gd.splice S a (b.take i)).length):=hid (List.getElem?_eq_some_iff.1 hy).1;clear hx hcell hbg hlt hy hlen hat hobj hseen;go_upto_region 8 with fail
   rw[Hat.o];obtain⟨wz,hwz⟩:=nm (wr.setCell ⟨sb,a+i,none⟩ (.int .u8 x.toNat));rw[←hwz];have HMz:Hid (MemX wz m sb lb ab n (Gd.splice S a (b.take (i+1))) K (fun q=>X q∨touched a (i+1) q)):=hid (by
    rw[hwz,←splice_take HX.o (by have:=HN.o;have:=Hl.o;omega)];refine(HM.o.write _ _ HYl.o Hm.o.1).wide fun q _ e=> ?_
    rcases e with(e|⟨i',h1,h2⟩)|e
    ·exact Or.inl e
    ·exact Or.inr ⟨i',by omega,h2⟩
    ·exact Or.inr ⟨i,by omega,e⟩)
   have HOz:Hid (Only (fun k=>k=sb∨k=ab) w2 wz):=hid (by
    rw[hwz];exact HO.o.trans (only_setCell wr ⟨sb,a+i,none⟩ _ (F:=fun k=>k=sb∨k=ab) (Or.inl rfl)) fun _ _ e=>e)
   have hsz:wr.heap.size=wz.heap.size:=by rw[hwz];simp[World.setCell]
   obtain⟨cpz,hobjz⟩:=HMz.o.objE;obtain⟨d0,_,d2⟩:=cell2 hobjz;obtain⟨Z,k,D,hZ,⟨hkK,hown,hD⟩,hT⟩:=HMz.o.rest;have HD:=hid (And.intro hkK hD);have HZ:=hid (And.intro hZ hT);have HKey:=hid (keyOf_int_mk (P:=prog) underlying3 (q:= .i64) (a:=((a:Int)+i)/8) (show(Lit.int .i64 (((a:Int)+i)/8)).wf=true from by
    have:=nat_I64 (n:=(a+i)/8) (by omega)
    unfold I64 at this;rw[show(((a+i)/8:Nat):Int)=((a:Int)+i)/8 by omega]at this;exact this))
   clear hwz hc c0 c2 hs0 hf0 hkK hD hsz hZ hT hobjz;go_wp2_with(at_delete;refine wpList_delete_own _ rfl _ _ 66 3 rfl 4 intLaw underlying66 _ ab k D rfl hown _ _ rfl HKey.o ?_)
   intro w1 hown1 hturn;have HM1:Hid (MemX w1 m sb lb ab n (Gd.splice S a (b.take (i+1))) K (fun q=>X q∨touched a (i+1) q)):=hid (HMz.o.turn Hm.o.1 Hm.o.2.1 hturn HZ.o.1 HD.o.1 hown1 (fun kl hkl=>HD.o.2 kl (has_del_le hkl)) fun j hj hn=>by
    refine(HZ.o.2 j hj hn).imp id fun e=> ?_
    rw[has_del_other]
    ·exact e
    ·intro e2;have e3:(j:Int)=((a:Int)+i)/8:=by cases e2;rfl
     exact hn (Or.inr ⟨i,by omega,by omega⟩))
   have HO1:Hid (Only (fun k=>k=sb∨k=ab) w2 w1):=hid (HOz.o.trans (only_turned hturn) fun j _ e=>Or.inr e);clear hown hown1 hturn d0 d2;go_wp2;go_roundw
   case rel=>exact⟨i+1,by go_num,by omega,HM1,HO1⟩
   case measure=>simp[intOf];omega
  ·obtain rfl:i=N:=by omega
   clear hlt;go_wp2;go_ret
   have:=HM.o
   rw[List.take_of_length_le (by have:=HN.o;omega)]at this;exact⟨rfl,this,HO.o⟩
end
theorem mapM_all{α β:Type}(f:α→Option β)(g:α→β):∀(l:List α),(∀a∈l,f a=some (g a))→l.mapM f=some (l.map g)
 |[],_=>rfl
 |a::r,h=>by
  rw[List.mapM_cons,h a (List.mem_cons_self ..),mapM_all f g r fun b hb=>h b (List.mem_cons_of_mem _ hb)];rfl
theorem flatten_one{α β:Type}(f:α→β):∀(l:List α),(l.map fun a=>[f a]).flatten=l.map f
 |[]=>rfl
 |a::r=>by rw[List.map_cons,List.flatten_cons,flatten_one f r];rfl
theorem range_getD{β:Type}(h:UInt8→β)(L:List UInt8):(List.range L.length).map (fun i=>h (L.getD i 0))=L.map h:=by
 apply List.ext_getElem?
 intro i;rw[List.getElem?_map,List.getElem?_map];by_cases hi:i<L.length
 ·rw[List.getElem?_range hi,List.getElem?_eq_getElem hi];simp[List.getD_eq_getElem?_getD,List.getElem?_eq_getElem hi]
 ·rw[List.getElem?_eq_none (by simpa using hi),List.getElem?_eq_none (by omega)];rfl
theorem u8_wf(x:UInt8):(Lit.int .u8 x.toNat).wf=true:=by
 have:=x.toNat_lt
 simp[Lit.wf,show IntKind.u8.min=0 from rfl,show IntKind.u8.max=255 from rfl];omega
theorem u8_key(x:UInt8):prog.keyLits 1 5 [.int .u8 x.toNat]=some [.int .u8 x.toNat]:=by
 unfold Program.keyLits;simp[underlying5,u8_wf x]
theorem u8_cells:prog.cellsOf 5=1:=by kernel_rfl
theorem u8_items(L:List UInt8):(List.range L.length).mapM (fun i=>prog.keyLits 1 5 (((Lib.byteCells L).toArray.toList.drop (i*prog.cellsOf 5)).take (prog.cellsOf 5)))=some ((List.range L.length).map fun i=>[Lit.int .u8 (L.getD i 0).toNat]):=by
 refine mapM_all _ _ _ fun i hi=> ?_;have hi':i<L.length:=by simpa using hi
 rw[u8_cells,Nat.mul_one];have e:((Lib.byteCells L).toArray.toList.drop i).take 1=[Value.int .u8 (L.getD i 0).toNat]:=by
  rw[List.getD_eq_getElem?_getD,List.getElem?_eq_getElem hi'];have hb:(Lib.byteCells L)[i]? =some (.int .u8 L[i].toNat):=byteCells_get (List.getElem?_eq_getElem hi');have hl:i<(Lib.byteCells L).length:=(List.getElem?_eq_some_iff.1 hb).1;rw[List.drop_eq_getElem_cons hl,List.take_succ_cons,List.take_zero];have:=(List.getElem?_eq_some_iff.1 hb).2
  rw[this];rfl
 rw[e];exact u8_key _
theorem arr_eq{t:TypeId}(L M:List UInt8)(hl:M.length=L.length)(hu:prog.underlying t=some (.array L.length 5))(w:World):(Op.equal t (.agg (Lib.byteCells L).toArray) (.agg (Lib.byteCells M).toArray)).run prog w= .ok (decide (L=M)) w:=by
 obtain⟨i0,hi,_⟩:=info_parts infoU8;refine(run_equalIn_array w 9999 _ _ hu hi).trans ?_
 obtain⟨r,hr,hiff⟩:=run_eqItems_plain w 9998 (P:=prog) (e:=5) (by kernel_rfl) (Lib.byteCells L).toArray (Lib.byteCells M).toArray (D:=1) (D':=1) (List.range L.length) _ _ (u8_items L) (by rw[←hl];exact u8_items M);refine hr.trans ?_;congr 1
 rw[flatten_one,flatten_one,range_getD (fun x=>Lit.int .u8 x.toNat) L,range_getD (fun x=>Lit.int .u8 x.toNat) M]at hiff;rw[Bool.eq_iff_iff,hiff,decide_eq_true_iff];constructor
 ·intro h;refine List.map_inj_right (fun x y e=> ?_) |>.1 h;have:=(Lit.int.inj e).2
  exact UInt8.toNat_inj.1 (by omega)
 ·intro h;rw[h]
theorem arr_neq{t:TypeId}(L M:List UInt8)(hl:M.length=L.length)(hu:prog.underlying t=some (.array L.length 5))(w:World):(binOp .neq t (.agg (Lib.byteCells L).toArray) (.agg (Lib.byteCells M).toArray)).run prog w= .ok (.bool (!decide (L=M))) w:=by
 simp[binOp,arr_eq L M hl hu w]
section
open Go.Maps
theorem eight{S:List UInt8}{k n:Nat}(h:S.length=n*8)(hk:k<n):∃x0 x1 x2 x3 x4 x5 x6 x7,S[k*8]? =some x0∧S[k*8+1]? =some x1∧S[k*8+2]? =some x2∧S[k*8+3]? =some x3∧S[k*8+4]? =some x4∧S[k*8+5]? =some x5∧S[k*8+6]? =some x6∧S[k*8+7]? =some x7:=
 ⟨_,_,_,_,_,_,_,_,List.getElem?_eq_getElem (by omega),List.getElem?_eq_getElem (by omega),List.getElem?_eq_getElem (by omega),List.getElem?_eq_getElem (by omega),List.getElem?_eq_getElem (by omega),List.getElem?_eq_getElem (by omega),List.getElem?_eq_getElem (by omega),List.getElem?_eq_getElem (by omega)⟩
theorem cellBT{w:World}{g t j:Nat}{S:List UInt8}{T:List Value}{x:UInt8}(h:w.heap[g]? =some (.cells (cellsT S T) t (0,0)))(hx:S[j]? =some x):w.cell? ⟨g,j,none⟩=some (.int .u8 x.toNat):=(cell_of_row w g j _ _ _ h).trans (cellsT_get hx)
theorem cellB{w:World}{g t j:Nat}{S:List UInt8}{x:UInt8}(h:w.heap[g]? =some (.cells (cellsB S) t (0,0)))(hx:S[j]? =some x):w.cell? ⟨g,j,none⟩=some (.int .u8 x.toNat):=(cell_of_row w g j _ _ _ h).trans (cellsB_get hx)
theorem MemX.more{w:World}{m sb lb ab n K K':Nat}{S:List UInt8}{X:Nat→Prop}(h:MemX w m sb lb ab n S K X)(hK:K≤K'):MemX w m sb lb ab n S K' X:=by
 obtain⟨Z,q,D,hZ,⟨hq,ho,hD⟩,hT⟩:=h.rest;exact⟨h.objE,h.seenE,⟨Z,q,D,hZ,⟨Nat.le_trans hq hK,ho,hD⟩,hT⟩,h.len,h.small,h.lines,h.ne⟩
theorem MemAt.more{w:World}{m sb lb ab n K K':Nat}{S:List UInt8}(h:MemAt w m sb lb ab n S K)(hK:K≤K'):MemAt w m sb lb ab n S K':=⟨(h.toMemX.more hK).wide fun _ _ e=>Nat.le_trans e hK,fun h2=>h.same (Nat.lt_of_le_of_lt hK h2)⟩
theorem cel_eight{S:List UInt8}{k:Nat}{x0 x1 x2 x3 x4 x5 x6 x7:UInt8}(s0:S[k*8]? =some x0)(s1:S[k*8+1]? =some x1)(s2:S[k*8+2]? =some x2)(s3:S[k*8+3]? =some x3)(s4:S[k*8+4]? =some x4)(s5:S[k*8+5]? =some x5)(s6:S[k*8+6]? =some x6)(s7:S[k*8+7]? =some x7):cel S k=[x0,x1,x2,x3,x4,x5,x6,x7]:=by
 unfold cel Gd.part;apply List.ext_getElem?
 intro i;rw[List.getElem?_take];by_cases hi:i<8
 ·rw[if_pos hi,List.getElem?_drop];match i,hi with
  |0,_=>rw[Nat.add_zero,s0];rfl
  |1,_=>rw[s1];rfl
  |2,_=>rw[s2];rfl
  |3,_=>rw[s3];rfl
  |4,_=>rw[s4];rfl
  |5,_=>rw[s5];rfl
  |6,_=>rw[s6];rfl
  |7,_=>rw[s7];rfl
 ·rw[if_neg hi,List.getElem?_eq_none (by simp;omega)]
theorem flushk_any{m sb lb ab n K bx:Nat}{S:List UInt8}{X:Nat→Prop}(k:Nat)(hkn:k<n)(w:World)(h:MemX w m sb lb ab n S K X)(hbx:w.cell? ⟨bx,0,none⟩=some (.pointer (some ⟨m,0,none⟩)))(hK:K<1000000000000):
 Calls prog 133 #[.int .i64 k,.pointer (some ⟨bx,0,none⟩)] w fun e w'=>e= .returned (.tuple #[])∧MemX w' m sb lb ab n S (K+1) (fun q=>X q∧q≠k)∧Only (fun k=>k=ab) w w':=by
 obtain⟨Z,q,D,⟨hZ,hl⟩,⟨hq,hown,hD⟩,hT⟩:=h.rest;obtain⟨x0,x1,x2,x3,x4,x5,x6,x7,s0,s1,s2,s3,s4,s5,s6,s7⟩:=eight h.len hkn;obtain⟨y0,y1,y2,y3,y4,y5,y6,y7,t0,t1,t2,t3,t4,t5,t6,t7⟩:=eight (hZ.trans h.len) hkn;obtain⟨T,hseen⟩:=h.seenE;have a0:=cellBT hseen s0;have a1:=cellBT hseen s1;have a2:=cellBT hseen s2;have a3:=cellBT hseen s3;have a4:=cellBT hseen s4;have a5:=cellBT hseen s5;have a6:=cellBT hseen s6;have a7:=cellBT hseen s7;have b0:=cellB hl t0;have b1:=cellB hl t1;have b2:=cellB hl t2;have b3:=cellB hl t3;have b4:=cellB hl t4;have b5:=cellB hl t5;have b6:=cellB hl t6;have b7:=cellB hl t7;obtain⟨cp,hobj⟩:=h.objE;obtain⟨c0,c1,c2⟩:=cell2 hobj;have HM:=hid h;have HCe:=hid (And.intro (cel_eight s0 s1 s2 s3 s4 s5 s6 s7) (cel_eight t0 t1 t2 t3 t4 t5 t6 t7));have HRe:=hid (And.intro (And.intro hZ hl) (And.intro hT (And.intro hq (And.intro hown hD))));clear hq hown hD hT
 have e1:(k:Int)<n:=by omega
 have hq:=arr_neq (t:=64) [x0,x1,x2,x3,x4,x5,x6,x7] [y0,y1,y2,y3,y4,y5,y6,y7] rfl underlying64;obtain⟨nb,hnb⟩:∃nb:Bool,nb= !decide ([x0,x1,x2,x3,x4,x5,x6,x7]=[y0,y1,y2,y3,y4,y5,y6,y7]):=⟨_,rfl⟩;have HNb:=hid hnb;rw[←hnb]at hq;simp only[Lib.byteCells,List.map_cons,List.map_nil]at hq;clear hnb s0 s1 s2 s3 s4 s5 s6 s7 t0 t1 t2 t3 t4 t5 t6 t7 hZ hl h hobj hseen;go_enter func133,ntmps133;go_wp2;go_quiet (fail)
 obtain⟨wd,hwd⟩:=nm (w.drewN nq);rw[←hwd];have hbd:Below w.heap.size w wd:=by rw[hwd];exact below_drewN (Below.refl _ _) _
 have HMd:Hid (MemX wd m sb lb ab n S K X):=hid (HM.o.keep fun k hk=>hbd.block k (HM.o.lts k hk));have HZd:Hid (Z.length=S.length∧wd.heap[lb]? =some (.cells (cellsB Z) 64 (0,0))):=hid ⟨HRe.o.1.1,(hbd.block lb (HM.o.lts lb (by simp))).trans HRe.o.1.2⟩;have HDd:Hid (wd.ownsMap prog 3 (plainElem prog 4) ab q D):=hid (map_keepM HRe.o.2.2.2.1 (hbd.block ab (HM.o.lts ab (by simp))));have HOd:Hid (Only (fun k=>k=ab) w wd):=hid (below_only hbd _);have cb:wd.cell? ⟨bx,0,none⟩=some (.pointer (some ⟨m,0,none⟩)):=by rw[hwd];exact hbx
 clear hwd a0 a1 a2 a3 a4 a5 a6 a7 b0 b1 b2 b3 b4 b5 b6 b7 c0 c1 c2 hq hbd hbx;obtain⟨cpd,hobjd⟩:=HMd.o.objE;obtain⟨c0,c1,c2⟩:=cell2 hobjd;clear hobjd
 cases nb with
 |false=>
  go_wp2;go_end0
  refine⟨rfl,⟨HMd.o.objE,HMd.o.seenE,⟨Z,q,D,HZd.o,⟨Nat.le_succ_of_le HRe.o.2.2.1,HDd.o,HRe.o.2.2.2.2⟩,fun j hj hn=> ?_⟩,HMd.o.len,HMd.o.small,HMd.o.lines,HMd.o.ne⟩,HOd.o⟩;by_cases e:j=k
  ·subst e;left
   rw[HCe.o.1,HCe.o.2];have:=HNb.o
   simpa using this
  ·exact HRe.o.2.1 j hj fun hx=>hn ⟨hx,e⟩
 |true=>
  have hown:=HDd.o;have HKey:=hid (keyOf_int_mk (P:=prog) underlying3 (q:= .i64) (a:=(k:Int)) (nat_I64 (by have:=HM.o.small;omega)));have HCnt:Hid (q<maxLen):=hid (by have:=HRe.o.2.2.1;unfold maxLen;omega);have HIs:=hid hown.isMap;go_wp2_with(at_mapUpdate;refine wpList_mapUpdate_in _ rfl _ _ _ 66 rfl 3 4 intLaw underlying66 _ ab q D rfl hown HCnt.o _ _ _ rfl rfl HKey.o (.lit (.bool true)) [] (plainElem_bool underlying4 true) ?_)
  intro w1 hown1 hturn;have HM1:Hid (MemX w1 m sb lb ab n S (K+1) (fun q=>X q∧q≠k)):=hid ((HMd.o.more (Nat.le_succ K)).turn HM.o.apart.1 HM.o.apart.2.1 hturn HZd.o (by have:=HRe.o.2.2.1;omega) hown1 (fun kl hkl=>by
   by_cases e:kl= .int .i64 k
   ·exact⟨k,hkn,e⟩
   ·rw[has_put_other e]at hkl;exact HRe.o.2.2.2.2 kl hkl) fun j hj hn=>by
   by_cases e:j=k
   ·subst e;exact Or.inr (has_put_same HIs.o (show WideAt.IsKeyLit (.int .i64 (j:Int)) from trivial) _)
   ·refine(HRe.o.2.1 j hj fun hx=>hn ⟨hx,e⟩).imp id fun e2=> ?_
    rw[has_put_other]
    ·exact e2
    ·intro e3;have e4:(j:Int)=k:=by cases e3;rfl
     omega)
  have HO1:Hid (Only (fun k=>k=ab) w w1):=hid (HOd.o.trans (only_turned hturn) fun j _ e=>e);clear hown hown1 hturn;go_wp2;go_end0
  exact⟨rfl,HM1.o,HO1.o⟩
theorem line_any{m sb lb ab n K bx:Nat}{S:List UInt8}{X:Nat→Prop}(l:Nat)(hl:l*8+8≤n)(w:World)(h:MemX w m sb lb ab n S K X)(hbx:w.cell? ⟨bx,0,none⟩=some (.pointer (some ⟨m,0,none⟩)))(hbl:bx<w.heap.size∧bx≠ab)(hK:K+8<1000000000000):
 Calls prog 132 #[.pointer (some ⟨m,0,none⟩),.int .i64 l,.func (.func 133) #[] #[.pointer (some ⟨bx,0,none⟩)]] w fun e w'=>e= .returned (.tuple #[])∧MemX w' m sb lb ab n S (K+8) (fun q=>X q∧¬(l*8≤q∧q<l*8+8))∧Only (fun k=>k=ab) w w':=by
 have HM0:=hid h;have Hbx:=hid hbx;have Hbl:=hid hbl;have hs:=h.small;obtain⟨B,hB⟩:=nm (l*8);have eB:(l:Int)*8=B:=by omega
 have eT:((l:Int)+1)*8=(B:Int)+8:=by omega
 have hB8:B+8≤n:=by omega
 have hl1:l≤131072:=by omega
 have Hl:=hid hl;have HBl:=hid hB;clear h hbx hbl hl hB;go_enter func132,ntmps132;go_wp2;go_loopw[6] (fun z wr=>∃i:Nat,z= .int .i64 ((B:Int)+(i:Int))∧i≤8∧Hid (MemX wr m sb lb ab n S (K+i) (fun q=>X q∧¬(B≤q∧q<B+i)))∧Hid (Only (fun k=>k=ab) w wr)) (fun z _=>B+8-(intOf z).toNat)
 case atStart=>exact⟨0,by go_num,by omega,hid (HM0.o.wide fun q _ hq=>⟨hq,by omega⟩),hid (Only.refl _ _)⟩
 case round=>
  obtain⟨i,rfl,hi,HM,HO⟩:=hrel;by_cases hlt:i<8
  ·have HF:=hid (flushk_any (B+i) (by omega) wr HM.o ((HO.o.cell (p:=⟨bx,0,none⟩) Hbl.o.1 Hbl.o.2).trans Hbx.o) (by omega));have e1:(i:Int)<8:=by omega
   have e2:(B:Int)+8≤1048576:=by omega
   go_wp2_with fail
   refine HF.o.mono ?_;rintro e w2 ⟨rfl,hM2,hO2⟩;have HM2:Hid (MemX w2 m sb lb ab n S (K+(i+1)) (fun q=>X q∧¬(B≤q∧q<B+(i+1)))):=hid (hM2.wide fun q _ hq=>⟨hq.1.1,by have:=hq.1.2;have:=hq.2;omega⟩);have HO2:=hid (HO.o.trans hO2 fun _ _ e=>e);clear hM2 hO2 HF;go_wp2;go_roundw
   case rel=>exact⟨i+1,by go_num,by omega,HM2,HO2⟩
   case measure=>simp[intOf];omega
  ·obtain rfl:i=8:=by omega
   clear hlt;go_wp2;go_end0
   exact⟨rfl,by rw[←HBl.o];exact HM.o,HO.o⟩
end
section
open Go.Maps
theorem touched_line{a k q:Nat}(h:touched a k q):0<k∧a/64*8≤q∧q<((a+k-1)/64+1)*8:=by
 obtain⟨i,hi,rfl⟩:=h;omega
theorem flush_at{m sb lb ab n K:Nat}{S:List UInt8}{X:Nat→Prop}(a k:Nat)(w:World)(h:MemX w m sb lb ab n S K X)(hX:∀q,X q→0<k∧a/64*8≤q∧q<((a+k-1)/64+1)*8)(hak:a+k≤S.length)(hk:k≤100000)(hK:K<900000000000):
 Calls prog 96 #[.pointer (some ⟨m,0,none⟩),.int .i64 a,.int .i64 k] w fun e w'=>e= .returned (.int .i64 0)∧MemT w' m sb lb ab n S (K+20000)∧Only (fun k=>k=ab) w w':=by
 have hlen:=h.len;have hsm:=h.small;have hli:=h.lines;obtain⟨wb,hwb⟩:=nm (w.alloc (.cells #[.pointer (some ⟨m,0,none⟩)] 32));have hbb:Below w.heap.size w wb:=by rw[hwb];exact(Below.refl _ _).alloc (Nat.le_refl _) _
 have hbox:wb.heap[w.heap.size]? =some (.cells #[.pointer (some ⟨m,0,none⟩)] 32 (0,0)):=by rw[hwb];exact heap_alloc_new _ _
 obtain⟨bx,hbx⟩:=nm w.heap.size;have HMb:=hid (h.keep fun q hq=>hbb.block q (h.lts q hq));have hbc:wb.cell? ⟨bx,0,none⟩=some (.pointer (some ⟨m,0,none⟩)):=by rw[hbx];exact cell_of_row wb _ 0 _ _ _ hbox
 have Hbl:Hid (bx<wb.heap.size∧bx≠ab):=hid ⟨by rw[hbx];exact lt_get hbox,by rw[hbx];exact fun e=>by have:=h.away.lt;omega⟩;have HW:=hid (within_any (a:Int) (k:Int) (nat_I64 (by omega)) (nat_I64 (by omega)) wb HMb.o);have hwi:(decide (0≤(a:Int))&&(decide (0≤(k:Int))&&decide ((a:Int)+k≤S.length)))=true:=by simp;omega
 rw[hwi]at HW;have HWb:=hid hwb;have HBb:=hid hbb;have Hbc:=hid hbc;have Hbx:=hid hbx.symm;have hN:a+k≤n*8:=by omega
 have HN:=hid (And.intro hN (And.intro hsm hli));have HXX:=hid hX;have ha1:(a:Int)≤1048576:=by omega
 have hk1:(k:Int)≤100000:=by omega
 clear h hX hwb hbb hbox hbx hwi hak hlen hsm hli hN;go_enter func96,ntmps96;go_upto_region 1 with fail
 rw[←HWb.o];rw[Hbx.o];go_upto_region 3 with(go_at_call 22;refine HW.o.mono ?_;rintro e w2 ⟨rfl,rfl⟩)
 obtain⟨l0,hl0⟩:=nm (a/64);have el0:(a:Int)/64=l0:=by omega
 have Hl0:=hid hl0;clear hl0 hbc;have HMx:=hid HMb.o;go_wp2;go_loopw[7] (fun z wr=>∃j:Nat,z= .int .i64 ((l0:Int)+(j:Int))∧j≤2000∧j≤k/64+2∧Hid (MemX wr m sb lb ab n S (K+8*j) (fun q=>X q∧¬(l0*8≤q∧q<(l0+j)*8)))∧Hid (Only (fun k=>k=ab) w2 wr)) (fun z _=>l0+3000-(intOf z).toNat)
 case atStart=>exact⟨0,by go_num,by omega,by omega,hid (HMb.o.wide fun q _ hq=>⟨hq,by omega⟩),hid (Only.refl _ _)⟩
 case round=>
  obtain⟨j,rfl,hj,hj2,HM,HO⟩:=hrel;by_cases hc:0<k∧l0+j≤(a+k-1)/64
  ·obtain⟨hk0,hlj⟩:=hc;have e1:(0:Int)<k:=by omega
   have e2:((a:Int)+k-1)/64=(((a+k-1)/64:Nat):Int):=by omega
   have e3:(l0:Int)+j≤(((a+k-1)/64:Nat):Int):=by omega
   have e4:(l0:Int)+j≤1000000:=by omega
   have e0:wr.cell? ⟨bx,0,none⟩=some (.pointer (some ⟨m,0,none⟩)):=(HO.o.cell (p:=⟨bx,0,none⟩) Hbl.o.1 Hbl.o.2).trans Hbc.o;have HL:=hid (line_any (l0+j) (by have:=HN.o;have:=Hl0.o;omega) wr HM.o e0 ⟨Nat.lt_of_lt_of_le Hbl.o.1 HO.o.size,Hbl.o.2⟩ (by omega));have hj3:j+1≤k/64+2:=by have:=Hl0.o;omega
   clear hlj hk0;go_wp2_with fail
   refine HL.o.mono ?_;rintro e w3 ⟨rfl,hM3,hO3⟩;have HM3:Hid (MemX w3 m sb lb ab n S (K+8*(j+1)) (fun q=>X q∧¬(l0*8≤q∧q<(l0+(j+1))*8))):=hid (hM3.wide fun q _ hq=>⟨hq.1.1,by have:=hq.1.2;have:=hq.2;omega⟩);have HO3:=hid (HO.o.trans hO3 fun _ _ e=>e);clear hM3 hO3 HL e0;go_wp2;go_roundw
   case rel=>exact⟨j+1,by go_num,by omega,hj3,HM3,HO3⟩
   case measure=>simp[intOf];omega
  ·by_cases hk0:0<k
   ·have e1:(0:Int)<k:=by omega
    have e2:((a:Int)+k-1)/64=(((a+k-1)/64:Nat):Int):=by omega
    have e3:(((a+k-1)/64:Nat):Int)<(l0:Int)+j:=by omega
    have hlt:(a+k-1)/64<l0+j:=by omega
    have HLt:=hid hlt;clear hc hlt;go_wp2;go_ret
    refine⟨rfl,(HM.o.more (by omega)).wide fun q _ hq=> ?_,(below_only HBb.o _).trans HO.o fun _ _ e=>e⟩;have h1:=HXX.o q hq.1;have h2:=hq.2;have h3:=HLt.o;have h4:=Hl0.o;omega
   ·have e1:(k:Int)≤0:=by omega
    clear hc;go_wp2;go_ret
    exact⟨rfl,(HM.o.more (by omega)).wide fun q _ hq=>absurd (HXX.o q hq.1).1 hk0,(below_only HBb.o _).trans HO.o fun _ _ e=>e⟩
end
end Go.Proofs.YtckoobkjpndgnaaGreatDoor
