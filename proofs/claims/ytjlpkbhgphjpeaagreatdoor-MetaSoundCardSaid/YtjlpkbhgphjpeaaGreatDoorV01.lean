/- Walks: the memory that lasts: its size, its bytes. -/
import Derived.Test.YtjlpkbhgphjpeaaGreatDoorV00
import Derived.Maps.OwnSet
import Derived.Maps.RangeWalk
import Derived.ChangeKeysEq
import Derived.Deep.MidRow
import Derived.Defers
import Derived.Lib.BufferWrite
import Derived.Laws.CopyOwn
set_option linter.unusedVariables false
set_option linter.unusedSimpArgs false
set_option linter.unusedSectionVars false
set_option maxHeartbeats 8000000
set_option maxRecDepth 100000
namespace Go.Proofs.YtjlpkbhgphjpeaaGreatDoor
open Go.RowKit
open Lib(hid)
open Go.Proofs.Tryz
section
open Go.Maps
theorem za{w:World}{k:Nat}{o:Obj}(h:w.heap[k]? =some o):k<w.heap.size:=(Array.getElem?_eq_some_iff.1 h).1
def ze(S:List UInt8):Array Value:=(Lib.byteCells S).toArray
theorem jG{S:List UInt8}{j:Nat}{x:UInt8}(h:S[j]? =some x):(ze S)[j]? =some (.int .u8 x.toNat):=by
 unfold ze;rw[List.getElem?_toArray];exact qI h
def Yk(w:World)(ab n K:Nat):Prop:=∃(k:Nat) (D:DataW Unit),k≤K∧w.ownsMap prog 3 (plainElem prog 4) ab k D∧∀kl,Maps.has D kl=true→∃j:Nat,j<n∧kl= .int .i64 j
structure zB(w:World)(m sb lb ab n:Nat)(S:List UInt8)(K:Nat):Prop where
 obj:w.heap[m]? =some (.cells #[.slice (some ⟨sb,0,none⟩) n n,.slice (some ⟨lb,0,none⟩) n n,.map (some ab)] 112 (0,0))
 seen:w.heap[sb]? =some (.cells (ze S) 119 (0,0))
 lasts:∃Z:List UInt8,Z.length=S.length∧w.heap[lb]? =some (.cells (ze Z) 119 (0,0))
 away:Yk w ab n K
 len:S.length=n*8
 small:n≤131072
 lines:n % 8=0
 ne:sb≠lb
def yx(m:Nat)(S:List UInt8)(K:Nat)(w:World)(F:Nat→Prop):Prop:=∃sb lb ab n,zB w m sb lb ab n S K∧F m∧F sb∧F lb∧F ab
theorem XN{w w':World}{b n:Nat}{D:DataW Unit}{k:TypeId}{R:Value→Option (DataW Unit×List MemPlace)}(h:w.ownsMap prog k R b n D)(hb:w'.heap[b]? =w.heap[b]?):w'.ownsMap prog k R b n D:=by
 obtain⟨es,ck,h1,h2⟩:=h;exact⟨es,ck,hb.trans h1,h2⟩
theorem Yk.lt{w:World}{ab n K:Nat}(h:Yk w ab n K):ab<w.heap.size:=by
 obtain⟨k,D,_,h,_⟩:=h;exact h.lt
theorem Yk.keep{w w':World}{ab n K:Nat}(h:Yk w ab n K)(hb:w'.heap[ab]? =w.heap[ab]?):Yk w' ab n K:=by
 obtain⟨k,D,h1,h2,h3⟩:=h;exact⟨k,D,h1,XN h2 hb,h3⟩
theorem zB.keep{w w':World}{m sb lb ab n:Nat}{S:List UInt8}{K:Nat}(h:zB w m sb lb ab n S K)(hb:∀k,k=m∨k=sb∨k=lb∨k=ab→w'.heap[k]? =w.heap[k]?):zB w' m sb lb ab n S K:=by
 obtain⟨Z,hZ,hl⟩:=h.lasts;exact⟨(hb m (Or.inl rfl)).trans h.obj,(hb sb (Or.inr (Or.inl rfl))).trans h.seen,⟨Z,hZ,(hb lb (Or.inr (Or.inr (Or.inl rfl)))).trans hl⟩,h.away.keep (hb ab (Or.inr (Or.inr (Or.inr rfl)))),h.len,h.small,h.lines,h.ne⟩
theorem zB.lts{w:World}{m sb lb ab n:Nat}{S:List UInt8}{K:Nat}(h:zB w m sb lb ab n S K):∀k,k=m∨k=sb∨k=lb∨k=ab→k<w.heap.size:=by
 obtain⟨Z,hZ,hl⟩:=h.lasts;rintro k (rfl|rfl|rfl|rfl)
 ·exact za h.obj
 ·exact za h.seen
 ·exact za hl
 ·exact h.away.lt
theorem yx.held(m:Nat)(S:List UInt8)(K:Nat):xh (yx m S K) where
 keep:=by
  rintro w w' F ⟨sb,lb,ab,n,h,h1,h2,h3,h4⟩ hs hb;refine⟨sb,lb,ab,n,h.keep fun k hk=>hb k (h.lts k hk) ?_,h1,h2,h3,h4⟩;rcases hk with rfl|rfl|rfl|rfl<;>assumption
 mono:=by
  rintro w F G ⟨sb,lb,ab,n,h,h1,h2,h3,h4⟩ hG;exact⟨sb,lb,ab,n,h,hG _ (h.lts _ (Or.inl rfl)) h1,hG _ (h.lts _ (Or.inr (Or.inl rfl))) h2,hG _ (h.lts _ (Or.inr (Or.inr (Or.inl rfl)))) h3,hG _ (h.lts _ (Or.inr (Or.inr (Or.inr rfl)))) h4⟩
theorem ZH{m sb lb ab n K:Nat}{S:List UInt8}(w:World)(h:zB w m sb lb ab n S K):Calls prog 66 #[.pointer (some ⟨m,0,none⟩)] w fun e w'=>e= .returned (.int .i64 S.length)∧w'=w:=by
 have c0:=cell_of_row w m 0 _ _ _ h.obj;have hl:=h.len;have hs:=h.small;clear h;go_enter func66,ntmps66;go_wp2;go_ret
 refine⟨qa ?_,rfl⟩;omega
theorem qU{m sb lb ab n K:Nat}{S:List UInt8}(at_ k:Int)(ha:I64 at_)(hk:I64 k)(w:World)(h:zB w m sb lb ab n S K):Calls prog 58 #[.pointer (some ⟨m,0,none⟩),.int .i64 at_,.int .i64 k] w fun e w'=>e= .returned (.bool (decide (0≤at_)&&(decide (0≤k)&&decide (at_+k≤S.length))))∧w'=w:=by
 have HS:=hid (ZH w h);have hl:=h.len;have hs:=h.small;have h1:=ha.lo;have h2:=hk.lo;obtain⟨N,hN⟩:=nm S.length;rw[←hN]at HS hl;rw[←hN];have hN2:N≤1048576:=by omega
 clear h ha hk hN hl hs;by_cases a0:0≤at_
 ·by_cases k0:0≤k
  ·by_cases aN:at_≤N
   ·go_enter func58,ntmps58;go_wp2_with(go_at_call 66;refine HS.o.mono ?_;rintro e w2 ⟨rfl,rfl⟩)
    go_ret
    refine⟨zq ?_,rfl⟩;rw[Bool.eq_iff_iff];simp
    omega
   ·have aN':decide (at_≤(N:Int))=false:=decide_eq_false aN;go_enter func58,ntmps58;go_wp2_with(go_at_call 66;refine HS.o.mono ?_;rintro e w2 ⟨rfl,rfl⟩)
    go_ret
    refine⟨zq ?_,rfl⟩;rw[Bool.eq_iff_iff];simp
    omega
  ·have k0':decide (0≤k)=false:=decide_eq_false k0;go_enter func58,ntmps58;go_wp2_with fail
   go_ret
   refine⟨zq ?_,rfl⟩;simp[k0']
 ·have a0':decide (0≤at_)=false:=decide_eq_false a0;go_enter func58,ntmps58;go_wp2_with fail
  go_ret
  refine⟨zq ?_,rfl⟩;simp[a0']
end
section
open Go.Maps
theorem Xn{S:List UInt8}{a i:Nat}{x:UInt8}(h:S[a+i]? =some x):Gd.part S a (i+1)=Gd.part S a i++[x]:=uD h
theorem jt{n:Nat}(h:n≤9223372036854775807):I64 (n:Int):=by
 unfold I64;simp[Lit.wf,show IntKind.i64.min= -9223372036854775808 from rfl,show IntKind.i64.max=9223372036854775807 from rfl];omega
def xF(w:World)(L:List UInt8)(e:Ending)(w':World):Prop:=∃v,e= .returned (.tuple #[v,.int .i64 0])∧zV w' w.heap.size v L∧Below w.heap.size w w'
theorem Yc{m sb lb ab n K:Nat}{S:List UInt8}(a k:Nat)(w:World)(h:zB w m sb lb ab n S K)(hak:a+k≤S.length)(hk:k≤100000):
 Calls prog 55 #[.pointer (some ⟨m,0,none⟩),.slice (some ⟨sb,0,none⟩) n n,.int .i64 a,.int .i64 k] w (xF w (Gd.part S a k)):=by
 have hl:=h.len;have hs:=h.small;have HW:=hid (qU (a:Int) (k:Int) (jt (by omega)) (jt (by omega)) w h);have hwb:(decide (0≤(a:Int))&&(decide (0≤(k:Int))&&decide ((a:Int)+k≤S.length)))=true:=by simp;omega
 rw[hwb]at HW;have hsb:=za h.seen;have HS:=hid h.seen;have hak':Hid (a+k≤S.length):=hid hak;have Hl:=hid hl;have hak2:a+k≤n*8:=by omega
 have hSs:Hid (S.length≤1048576):=hid (by omega);clear h hwb hl hak;go_enter func55,ntmps55;go_upto_region 5 with(go_at_call 58;refine HW.o.mono ?_;rintro e w2 ⟨rfl,rfl⟩)
 go_loopw[10,11] (fun u z wr=>∃i:Nat,z= .int .i64 ((a+i:Nat):Int)∧i≤k∧Hid (zV wr w2.heap.size u (Gd.part S a i))∧Hid (Below w2.heap.size w2 wr)) (fun _ z _=>a+k-(intOf z).toNat)
 case atStart=>exact⟨0,rfl,by omega,hid (vF _ _),hid (Below.refl _ _)⟩
 case round=>
  obtain⟨i,rfl,hik,HO,HB⟩:=hrel;by_cases hlt:i<k
  ·obtain⟨x,hx⟩:∃x,S[a+i]? =some x:=⟨_,List.getElem?_eq_getElem (by have:=hak'.o;omega)⟩;have hc0:wr.cell? ⟨sb,a+i,none⟩=some (.int .u8 x.toNat):=(HB.o.cell (p:=⟨sb,a+i,none⟩) hsb).trans ((cell_of_row w2 sb (a+i) _ _ _ HS.o).trans (jG hx));have hc:wr.cell? ⟨sb,(a+i)/8*8+(a+i) % 8,none⟩=some (.int .u8 x.toNat):=by
    rw[show(a+i)/8*8+(a+i) % 8=a+i by omega];exact hc0
   have e3:((a+i:Nat):Int)<(a:Int)+k:=by omega
   have e4:((a+i:Nat):Int)/8<n:=by omega
   have e6:(0:Int)≤((a+i:Nat):Int)/8:=by omega
   have e5:((a+i:Nat):Int) % 8<8:=by omega
   have HX:=hid hx;have HL:Hid ((Gd.part S a i).length<1000000):=hid (by rw[Gd.part_length (by have:=hak'.o;omega)];omega);clear hx;go_wp2_with(at_builtin;refine JC rfl _ _ rfl w2.heap.size u10 (Gd.part S a i) wr rfl HO.o _ x rfl rfl HL.o HB.o.size ?_)
   intro v' w' ho' hb';have HO':Hid (zV w' w2.heap.size v' (Gd.part S a (i+1))):=hid (by rw[Xn HX.o];exact ho');have HB':=hid (HB.o.trans hb');clear ho' hb' hc hc0;go_wp2;go_roundw
   case rel=>exact⟨i+1,by go_num,by omega,HO',HB'⟩
   case measure=>simp[intOf];omega
  ·obtain rfl:i=k:=by omega
   clear hlt;go_wp2;go_ret2
   exact⟨_,rfl,HO.o,HB.o⟩
theorem ja{w:World}{m t:Nat}{a b c:Value}(h:w.heap[m]? =some (.cells #[a,b,c] t (0,0))):w.cell? ⟨m,0,none⟩=some a∧w.cell? ⟨m,1,none⟩=some b∧w.cell? ⟨m,2,none⟩=some c:=
 ⟨cell_of_row w m 0 _ _ _ h,cell_of_row w m 1 _ _ _ h,cell_of_row w m 2 _ _ _ h⟩
theorem qO{m K:Nat}{S:List UInt8}{F:Nat→Prop}(a k:Nat)(w:World)(h:yx m S K w F)(hak:a+k≤S.length)(hk:k≤100000):
 Calls prog 19 #[.pointer (some ⟨m,0,none⟩),.int .i64 a,.int .i64 k] w (xF w (Gd.part S a k)):=by
 obtain⟨sb,lb,ab,n,h,_⟩:=h;have HB:=hid (Yc a k w h hak hk);obtain⟨c0,_,_⟩:=ja h.obj;clear h;go_enter func19,ntmps19;go_wp2_with fail
 refine HB.o.mono ?_;rintro e w2 ⟨v,rfl,ho,hb⟩;have HO:=hid ho;have HB2:=hid hb;clear ho hb;go_wp2;go_ret2
 exact⟨v,rfl,HO.o,HB2.o⟩
def VI(w:World)(e:Ending)(w':World):Prop:=e= .returned (.tuple #[.slice none 0 0,.int .i64 1])∧w'=w
theorem XD{m K:Nat}{S:List UInt8}{F:Nat→Prop}(a k:Int)(ha:I64 a)(hk:I64 k)(w:World)(h:yx m S K w F)(hn:¬(0≤a∧0≤k∧a+k≤S.length)):
 Calls prog 19 #[.pointer (some ⟨m,0,none⟩),.int .i64 a,.int .i64 k] w (VI w):=by
 obtain⟨sb,lb,ab,n,h,_⟩:=h;have HW:=hid (qU a k ha hk w h);have hwb:(decide (0≤a)&&(decide (0≤k)&&decide (a+k≤S.length)))=false:=by
  rw[Bool.eq_false_iff];intro e;simp only[Bool.and_eq_true,decide_eq_true_eq]at e;exact hn ⟨e.1,e.2.1,e.2.2⟩
 rw[hwb]at HW;obtain⟨c0,_,_⟩:=ja h.obj;have HB:Hid (Calls prog 55 #[.pointer (some ⟨m,0,none⟩),.slice (some ⟨sb,0,none⟩) n n,.int .i64 a,.int .i64 k] w (VI w)):=hid (by
  clear c0 h;go_enter func55,ntmps55;go_wp2_with(go_at_call 58;refine HW.o.mono ?_;rintro e w2 ⟨rfl,rfl⟩)
  go_ret2
  exact⟨rfl,rfl⟩)
 clear h HW hwb;go_enter func19,ntmps19;go_wp2_with fail
 refine HB.o.mono ?_;rintro e w2 ⟨rfl,rfl⟩;go_wp2;go_ret2
 exact⟨rfl,rfl⟩
end
section
open Go.Maps
theorem intLaw:Keyed prog 3:=int_keyed underlying3
theorem qD{w w':World}{b:Nat}(h:w.mapTurned w' b):zu (fun k=>k=b) w w':=zw h.grown (fun k e=>(Option.some.inj e).symm)
theorem xV{D:DataW Unit}{kl z:Lit}(h:has (D.del kl) z=true):has D z=true:=by
 by_cases e:z=kl
 ·rw[e,has_del_same]at h
  cases h
 ·rwa [has_del_other e]at h
theorem ZG{S b:List UInt8}{a i:Nat}{x:UInt8}(hx:b[i]? =some x)(h:a+b.length≤S.length):(Gd.splice S a (b.take i)).set (a+i) x=Gd.splice S a (b.take (i+1)):=by
 have hi:=(List.getElem?_eq_some_iff.1 hx).1;have h1:(b.take i).length=i:=by rw[List.length_take];omega
 have h2:(b.take (i+1)).length=i+1:=by rw[List.length_take];omega
 apply List.ext_getElem?
 intro j;rw[Gd.splice_get (by rw[h2];omega),h2];by_cases hj:j=a+i
 ·subst hj;rw[List.getElem?_set_self (by rw[Gd.splice_length (by rw[h1];omega)];omega),if_pos (by omega),show a+i-a=i by omega,List.getElem?_take_of_lt (by omega),hx]
 ·rw[List.getElem?_set_ne (fun e=>hj e.symm),Gd.splice_get (by rw[h1];omega),h1];by_cases hk:a≤j∧j<a+i
  ·rw[if_pos hk,if_pos (by omega),List.getElem?_take_of_lt (by omega),List.getElem?_take_of_lt (by omega)]
  ·rw[if_neg hk,if_neg (by omega)]
theorem q8{S:List UInt8}{j:Nat}(x:UInt8):(ze S).setIfInBounds j (.int .u8 x.toNat)=ze (S.set j x):=by
 unfold ze Lib.byteCells;rw[←Array.toList_inj];simp[List.map_set]
theorem zB.write{w:World}{m sb lb ab n K:Nat}{S:List UInt8}(h:zB w m sb lb ab n S K)(j:Nat)(x:UInt8)(hm:m≠sb∧m≠ab∧sb≠ab):zB (w.setCell ⟨sb,j,none⟩ (.int .u8 x.toNat)) m sb lb ab n (S.set j x) K:=by
 have ho:∀k,k≠sb→(w.setCell ⟨sb,j,none⟩ (.int .u8 x.toNat)).heap[k]? =w.heap[k]? :=fun k hk=>Go.heap_setCell_other w ⟨sb,j,none⟩ k _ (fun e=>hk e);obtain⟨Z,hZ,hl⟩:=h.lasts;refine⟨(ho m hm.1).trans h.obj,?_,⟨Z,by rw[List.length_set];exact hZ,(ho lb h.ne.symm).trans hl⟩,h.away.keep (ho ab hm.2.2.symm),by rw[List.length_set];exact h.len,h.small,h.lines,h.ne⟩;rw[←q8];exact Go.heap_setCell_same w sb j _ _ _ h.seen
theorem zB.turn{w w':World}{m sb lb ab n K k:Nat}{S:List UInt8}{D:DataW Unit}(h:zB w m sb lb ab n S K)(hm:m≠sb∧m≠ab∧sb≠ab)(hlb:lb≠ab)(ht:w.mapTurned w' ab)(hk:k≤K)(ho:w'.ownsMap prog 3 (plainElem prog 4) ab k D)(hD:∀kl,has D kl=true→∃j:Nat,j<n∧kl= .int .i64 j):zB w' m sb lb ab n S K:=by
 have hb:∀q,q<w.heap.size→q≠ab→w'.heap[q]? =w.heap[q]? :=fun q hq hn=>(qD ht).block q hq hn;obtain⟨Z,hZ,hl⟩:=h.lasts;exact⟨(hb m (za h.obj) hm.2.1).trans h.obj,(hb sb (za h.seen) hm.2.2).trans h.seen,⟨Z,hZ,(hb lb (za hl) hlb).trans hl⟩,⟨k,D,hk,ho,hD⟩,h.len,h.small,h.lines,h.ne⟩
theorem zB.apart{w:World}{m sb lb ab n K:Nat}{S:List UInt8}(h:zB w m sb lb ab n S K):(m≠sb∧m≠ab∧sb≠ab)∧lb≠ab∧m≠lb:=by
 obtain⟨k,D,_,⟨es,ck,hm,_⟩,_⟩:=h.away;obtain⟨Z,hZ,hl⟩:=h.lasts;have h1:=h.obj;have h2:=h.seen;refine⟨⟨fun e=> ?_,fun e=> ?_,fun e=> ?_⟩,fun e=> ?_,fun e=> ?_⟩
 ·rw[e,h2]at h1;exact absurd (Obj.cells.inj (Option.some.inj h1)).2.1 (by decide)
 ·rw[e,hm]at h1;cases h1
 ·rw[e,hm]at h2;cases h2
 ·rw[e,hm]at hl;cases hl
 ·rw[e,hl]at h1;exact absurd (Obj.cells.inj (Option.some.inj h1)).2.1 (by decide)
theorem uI{m sb lb ab n K:Nat}{S:List UInt8}(a:Nat)(v:Value)(b:List UInt8)(w:World)(h:zB w m sb lb ab n S K)(hb:zH w v b)(hap:∀q,v.ownBlock=some q→q≠sb∧q≠ab)(hak:a+b.length≤S.length)(hk:b.length≤100000):
 Calls prog 23 #[.pointer (some ⟨m,0,none⟩),.int .i64 a,v] w fun e w'=>e= .returned (.int .i64 0)∧zB w' m sb lb ab n (Gd.splice S a b) K∧zu (fun k=>k=sb∨k=ab) w w':=by
 obtain⟨A,c,rfl,hA⟩:=hb;have hl:=h.len;have hs:=h.small;have HW:=hid (qU (a:Int) (b.length:Int) (jt (by omega)) (jt (by omega)) w h);have hwb:(decide (0≤(a:Int))&&(decide (0≤(b.length:Int))&&decide ((a:Int)+(b.length:Nat)≤S.length)))=true:=by simp;omega
 rw[hwb]at HW;obtain⟨N,hN⟩:=nm b.length;rw[←hN]at HW hak hk;rw[←hN];have HN:=hid hN;have HA:=hid hA;have HAp:=hid hap;have Hm:=hid h.apart;have HM0:=hid h;have hak2:a+N≤n*8:=by omega
 have Hl:=hid hl;clear h hwb hl hak hN hA hap;go_enter func23,ntmps23;go_upto_region 4 with(go_at_call 58;refine HW.o.mono ?_;rintro e w2 ⟨rfl,rfl⟩)
 go_loopw[18] (fun z wr=>∃i:Nat,z= .int .i64 i∧i≤N∧Hid (zB wr m sb lb ab n (Gd.splice S a (b.take i)) K)∧Hid (zu (fun k=>k=sb∨k=ab) w2 wr)) (fun z _=>N-(intOf z).toNat)
 case atStart=>exact⟨0,rfl,by omega,hid (by rw[List.take_zero,Gd.splice_nil];exact HM0.o),hid (zu.refl _ _)⟩
 case round=>
  obtain⟨i,rfl,hin,HM,HO⟩:=hrel;by_cases hlt:i<N
  ·obtain⟨x,hx⟩:∃x,b[i]? =some x:=⟨_,List.getElem?_eq_getElem (by have:=HN.o;omega)⟩;rcases HA.o with⟨_,h0,_⟩|⟨bb,o,rfl,hbl,hcell⟩
   ·rw[h0]at hx;simp at hx
   have hbg:=HAp.o bb rfl;have hc:=(HO.o.cell (p:=⟨bb,o+i,none⟩) hbl (fun e=>e.elim hbg.1 hbg.2)).trans (hcell i x hx);have h1:(i:Int)<N:=by omega
   have h0:(0:Int)≤i:=by omega
   obtain⟨c0,_,c2⟩:=ja HM.o.obj;have hlen:(Gd.splice S a (b.take i)).length=n*8:=HM.o.len;obtain⟨y,hy⟩:∃y,(Gd.splice S a (b.take i))[a+i]? =some y:=⟨_,List.getElem?_eq_getElem (by omega)⟩;have hat:(a+i)/8*8+(a+i) % 8=a+i:=by omega
   have hs0:wr.cell? ⟨sb,(a+i)/8*8+(a+i) % 8,none⟩=some (.int .u8 y.toNat):=by
    rw[hat];exact(cell_of_row wr sb (a+i) _ _ _ HM.o.seen).trans (jG hy)
   have hf0:wr.frozen? ⟨sb,(a+i)/8*8+(a+i) % 8,none⟩=false:=by
    rw[hat];exact frozen_of_row wr sb (a+i) _ _ HM.o.seen
   have e4:((a:Int)+i)/8<n:=by omega
   have e6:(0:Int)≤((a:Int)+i)/8:=by omega
   have e5:((a:Int)+i) % 8<8:=by omega
   have e7:(0:Int)≤((a:Int)+i) % 8:=by omega
   have e8:(a:Int)+i<1048576:=by omega
   have HX:=hid hx;have Hat:=hid hat;clear hx hcell hbg hlt hy hlen hat;go_upto_region 8 with fail
   rw[Hat.o];obtain⟨wz,hwz⟩:=nm (wr.setCell ⟨sb,a+i,none⟩ (.int .u8 x.toNat));rw[←hwz];have HMz:Hid (zB wz m sb lb ab n (Gd.splice S a (b.take (i+1))) K):=hid (by
    rw[hwz,←ZG HX.o (by have:=HN.o;have:=Hl.o;omega)];exact HM.o.write _ _ Hm.o.1)
   have HOz:Hid (zu (fun k=>k=sb∨k=ab) w2 wz):=hid (by
    rw[hwz];exact HO.o.trans (zz wr ⟨sb,a+i,none⟩ _ (F:=fun k=>k=sb∨k=ab) (Or.inl rfl)) fun _ _ e=>e)
   have hsz:wr.heap.size=wz.heap.size:=by rw[hwz];simp[World.setCell]
   obtain⟨d0,_,d2⟩:=ja HMz.o.obj;obtain⟨k,D,hkK,hown,hD⟩:=HMz.o.away;have HD:=hid (And.intro hkK hD);have HKey:=hid (keyOf_int_mk (P:=prog) underlying3 (q:= .i64) (a:=((a:Int)+i)/8) (show(Lit.int .i64 (((a:Int)+i)/8)).wf=true from by
    have:=jt (n:=(a+i)/8) (by omega)
    unfold I64 at this;rw[show(((a+i)/8:Nat):Int)=((a:Int)+i)/8 by omega]at this;exact this))
   clear hwz hc c0 c2 hs0 hf0 hkK hD hsz;go_wp2_with(at_delete;refine wpList_delete_own _ rfl _ _ 110 3 rfl 4 intLaw underlying110 _ ab k D rfl hown _ _ rfl HKey.o ?_)
   intro w1 hown1 hturn;have HM1:Hid (zB w1 m sb lb ab n (Gd.splice S a (b.take (i+1))) K):=hid (HMz.o.turn Hm.o.1 Hm.o.2.1 hturn HD.o.1 hown1 fun kl hkl=>HD.o.2 kl (xV hkl));have HO1:Hid (zu (fun k=>k=sb∨k=ab) w2 w1):=hid (HOz.o.trans (qD hturn) fun j _ e=>Or.inr e);clear hown hown1 hturn d0 d2;go_wp2;go_roundw
   case rel=>exact⟨i+1,by go_num,by omega,HM1,HO1⟩
   case measure=>simp[intOf];omega
  ·obtain rfl:i=N:=by omega
   clear hlt;go_wp2;go_ret
   have:=HM.o
   rw[List.take_of_length_le (by have:=HN.o;omega)]at this;exact⟨rfl,this,HO.o⟩
end
theorem vH{α β:Type}(f:α→Option β)(g:α→β):∀(l:List α),(∀a∈l,f a=some (g a))→l.mapM f=some (l.map g)
 |[],_=>rfl
 |a::r,h=>by
  rw[List.mapM_cons,h a (List.mem_cons_self ..),vH f g r fun b hb=>h b (List.mem_cons_of_mem _ hb)];rfl
theorem qE{α β:Type}(f:α→β):∀(l:List α),(l.map fun a=>[f a]).flatten=l.map f
 |[]=>rfl
 |a::r=>by rw[List.map_cons,List.flatten_cons,qE f r];rfl
theorem vy{β:Type}(h:UInt8→β)(L:List UInt8):(List.range L.length).map (fun i=>h (L.getD i 0))=L.map h:=by
 apply List.ext_getElem?
 intro i;rw[List.getElem?_map,List.getElem?_map];by_cases hi:i<L.length
 ·rw[List.getElem?_range hi,List.getElem?_eq_getElem hi];simp[List.getD_eq_getElem?_getD,List.getElem?_eq_getElem hi]
 ·rw[List.getElem?_eq_none (by simpa using hi),List.getElem?_eq_none (by omega)];rfl
theorem UK(x:UInt8):(Lit.int .u8 x.toNat).wf=true:=by
 have:=x.toNat_lt
 simp[Lit.wf,show IntKind.u8.min=0 from rfl,show IntKind.u8.max=255 from rfl];omega
theorem Ui(x:UInt8):prog.keyLits 1 5 [.int .u8 x.toNat]=some [.int .u8 x.toNat]:=by
 unfold Program.keyLits;simp[underlying5,UK x]
theorem Yq:prog.cellsOf 5=1:=by kernel_rfl
theorem Zz(L:List UInt8):(List.range L.length).mapM (fun i=>prog.keyLits 1 5 (((Lib.byteCells L).toArray.toList.drop (i*prog.cellsOf 5)).take (prog.cellsOf 5)))=some ((List.range L.length).map fun i=>[Lit.int .u8 (L.getD i 0).toNat]):=by
 refine vH _ _ _ fun i hi=> ?_;have hi':i<L.length:=by simpa using hi
 rw[Yq,Nat.mul_one];have e:((Lib.byteCells L).toArray.toList.drop i).take 1=[Value.int .u8 (L.getD i 0).toNat]:=by
  rw[List.getD_eq_getElem?_getD,List.getElem?_eq_getElem hi'];have hb:(Lib.byteCells L)[i]? =some (.int .u8 L[i].toNat):=qI (List.getElem?_eq_getElem hi');have hl:i<(Lib.byteCells L).length:=(List.getElem?_eq_some_iff.1 hb).1;rw[List.drop_eq_getElem_cons hl,List.take_succ_cons,List.take_zero];have:=(List.getElem?_eq_some_iff.1 hb).2
  rw[this];rfl
 rw[e];exact Ui _
theorem VB{t:TypeId}(L M:List UInt8)(hl:M.length=L.length)(hu:prog.underlying t=some (.array L.length 5))(w:World):(Op.equal t (.agg (Lib.byteCells L).toArray) (.agg (Lib.byteCells M).toArray)).run prog w= .ok (decide (L=M)) w:=by
 obtain⟨i0,hi,_⟩:=info_parts infoU8;refine(run_equalIn_array w 9999 _ _ hu hi).trans ?_
 obtain⟨r,hr,hiff⟩:=run_eqItems_plain w 9998 (P:=prog) (e:=5) (by kernel_rfl) (Lib.byteCells L).toArray (Lib.byteCells M).toArray (D:=1) (D':=1) (List.range L.length) _ _ (Zz L) (by rw[←hl];exact Zz M);refine hr.trans ?_;congr 1
 rw[qE,qE,vy (fun x=>Lit.int .u8 x.toNat) L,vy (fun x=>Lit.int .u8 x.toNat) M]at hiff;rw[Bool.eq_iff_iff,hiff,decide_eq_true_iff];constructor
 ·intro h;refine List.map_inj_right (fun x y e=> ?_) |>.1 h;have:=(Lit.int.inj e).2
  exact UInt8.toNat_inj.1 (by omega)
 ·intro h;rw[h]
theorem V5{t:TypeId}(L M:List UInt8)(hl:M.length=L.length)(hu:prog.underlying t=some (.array L.length 5))(w:World):(binOp .neq t (.agg (Lib.byteCells L).toArray) (.agg (Lib.byteCells M).toArray)).run prog w= .ok (.bool (!decide (L=M))) w:=by
 simp[binOp,VB L M hl hu w]
theorem V6{t:TypeId}(L M:List UInt8)(hl:M.length=L.length)(hu:prog.underlying t=some (.array L.length 5))(w:World):(binOp .eql t (.agg (Lib.byteCells L).toArray) (.agg (Lib.byteCells M).toArray)).run prog w= .ok (.bool (decide (L=M))) w:=by
 simp[binOp,VB L M hl hu w]
section
open Go.Maps
theorem Vq{S:List UInt8}{k n:Nat}(h:S.length=n*8)(hk:k<n):∃x0 x1 x2 x3 x4 x5 x6 x7,S[k*8]? =some x0∧S[k*8+1]? =some x1∧S[k*8+2]? =some x2∧S[k*8+3]? =some x3∧S[k*8+4]? =some x4∧S[k*8+5]? =some x5∧S[k*8+6]? =some x6∧S[k*8+7]? =some x7:=
 ⟨_,_,_,_,_,_,_,_,List.getElem?_eq_getElem (by omega),List.getElem?_eq_getElem (by omega),List.getElem?_eq_getElem (by omega),List.getElem?_eq_getElem (by omega),List.getElem?_eq_getElem (by omega),List.getElem?_eq_getElem (by omega),List.getElem?_eq_getElem (by omega),List.getElem?_eq_getElem (by omega)⟩
theorem jM{w:World}{g t j:Nat}{S:List UInt8}{x:UInt8}(h:w.heap[g]? =some (.cells (ze S) t (0,0)))(hx:S[j]? =some x):w.cell? ⟨g,j,none⟩=some (.int .u8 x.toNat):=(cell_of_row w g j _ _ _ h).trans (jG hx)
theorem zB.more{w:World}{m sb lb ab n K K':Nat}{S:List UInt8}(h:zB w m sb lb ab n S K)(hK:K≤K'):zB w m sb lb ab n S K':=by
 obtain⟨q,D,hq,ho,hD⟩:=h.away;exact⟨h.obj,h.seen,h.lasts,⟨q,D,Nat.le_trans hq hK,ho,hD⟩,h.len,h.small,h.lines,h.ne⟩
theorem Qd{m sb lb ab n K bx:Nat}{S:List UInt8}(k:Nat)(hkn:k<n)(w:World)(h:zB w m sb lb ab n S K)(hbx:w.cell? ⟨bx,0,none⟩=some (.pointer (some ⟨m,0,none⟩)))(hK:K<1000000000000):
 Calls prog 158 #[.int .i64 k,.pointer (some ⟨bx,0,none⟩)] w fun e w'=>e= .returned (.tuple #[])∧zB w' m sb lb ab n S (K+1)∧zu (fun k=>k=ab) w w':=by
 obtain⟨Z,hZ,hl⟩:=h.lasts;obtain⟨x0,x1,x2,x3,x4,x5,x6,x7,s0,s1,s2,s3,s4,s5,s6,s7⟩:=Vq h.len hkn;obtain⟨y0,y1,y2,y3,y4,y5,y6,y7,t0,t1,t2,t3,t4,t5,t6,t7⟩:=Vq (hZ.trans h.len) hkn;have a0:=jM h.seen s0;have a1:=jM h.seen s1;have a2:=jM h.seen s2;have a3:=jM h.seen s3;have a4:=jM h.seen s4;have a5:=jM h.seen s5;have a6:=jM h.seen s6;have a7:=jM h.seen s7;have b0:=jM hl t0;have b1:=jM hl t1;have b2:=jM hl t2;have b3:=jM hl t3;have b4:=jM hl t4;have b5:=jM hl t5;have b6:=jM hl t6;have b7:=jM hl t7;obtain⟨c0,c1,c2⟩:=ja h.obj;have HM:=hid h;have e1:(k:Int)<n:=by omega
 have hq:=V5 (t:=119) [x0,x1,x2,x3,x4,x5,x6,x7] [y0,y1,y2,y3,y4,y5,y6,y7] rfl underlying119;obtain⟨nb,hnb⟩:∃nb:Bool,nb= !decide ([x0,x1,x2,x3,x4,x5,x6,x7]=[y0,y1,y2,y3,y4,y5,y6,y7]):=⟨_,rfl⟩;rw[←hnb]at hq;simp only[Lib.byteCells,List.map_cons,List.map_nil]at hq;clear hnb s0 s1 s2 s3 s4 s5 s6 s7 t0 t1 t2 t3 t4 t5 t6 t7 hZ hl h;go_enter func158,ntmps158;go_wp2;go_quiet (fail)
 obtain⟨wd,hwd⟩:=nm (w.drewN nq);rw[←hwd];have hbd:Below w.heap.size w wd:=by rw[hwd];exact below_drewN (Below.refl _ _) _
 have HMd:Hid (zB wd m sb lb ab n S K):=hid (HM.o.keep fun k hk=>hbd.block k (HM.o.lts k hk));have HOd:Hid (zu (fun k=>k=ab) w wd):=hid (zx hbd _);have cb:wd.cell? ⟨bx,0,none⟩=some (.pointer (some ⟨m,0,none⟩)):=by rw[hwd];exact hbx
 clear hwd a0 a1 a2 a3 a4 a5 a6 a7 b0 b1 b2 b3 b4 b5 b6 b7 c0 c1 c2 hq hbd hbx;obtain⟨c0,c1,c2⟩:=ja HMd.o.obj
 cases nb with
 |false=>
  go_wp2;go_end0
  exact⟨rfl,HMd.o.more (Nat.le_succ K),HOd.o⟩
 |true=>
  obtain⟨q,D,hq,hown,hD⟩:=HMd.o.away;have HD:=hid (And.intro hq hD);have HKey:=hid (keyOf_int_mk (P:=prog) underlying3 (q:= .i64) (a:=(k:Int)) (jt (by have:=HM.o.small;omega)));have HCnt:Hid (q<maxLen):=hid (by unfold maxLen;omega);clear hq hD;go_wp2_with(at_mapUpdate;refine wpList_mapUpdate_in _ rfl _ _ _ 110 rfl 3 4 intLaw underlying110 _ ab q D rfl hown HCnt.o _ _ _ rfl rfl HKey.o (.lit (.bool true)) [] (plainElem_bool underlying4 true) ?_)
  intro w1 hown1 hturn;have HM1:Hid (zB w1 m sb lb ab n S (K+1)):=hid ((HMd.o.more (Nat.le_succ K)).turn HM.o.apart.1 HM.o.apart.2.1 hturn (by have:=HD.o.1;omega) hown1 fun kl hkl=>by
   by_cases e:kl= .int .i64 k
   ·exact⟨k,hkn,e⟩
   ·rw[has_put_other e]at hkl;exact HD.o.2 kl hkl)
  have HO1:Hid (zu (fun k=>k=ab) w w1):=hid (HOd.o.trans (qD hturn) fun j _ e=>e);clear hown hown1 hturn;go_wp2;go_end0
  exact⟨rfl,HM1.o,HO1.o⟩
theorem Va{m sb lb ab n K bx:Nat}{S:List UInt8}(l:Nat)(hl:l*8+8≤n)(w:World)(h:zB w m sb lb ab n S K)(hbx:w.cell? ⟨bx,0,none⟩=some (.pointer (some ⟨m,0,none⟩)))(hbl:bx<w.heap.size∧bx≠ab)(hK:K+8<1000000000000):
 Calls prog 157 #[.pointer (some ⟨m,0,none⟩),.int .i64 l,.func (.func 158) #[] #[.pointer (some ⟨bx,0,none⟩)]] w fun e w'=>e= .returned (.tuple #[])∧zB w' m sb lb ab n S (K+8)∧zu (fun k=>k=ab) w w':=by
 have HM0:=hid h;have Hbx:=hid hbx;have Hbl:=hid hbl;have hs:=h.small;obtain⟨B,hB⟩:=nm (l*8);have eB:(l:Int)*8=B:=by omega
 have eT:((l:Int)+1)*8=(B:Int)+8:=by omega
 have hB8:B+8≤n:=by omega
 have hl1:l≤131072:=by omega
 have Hl:=hid hl;clear h hbx hbl hl hB;go_enter func157,ntmps157;go_wp2;go_loopw[6] (fun z wr=>∃i:Nat,z= .int .i64 ((B:Int)+(i:Int))∧i≤8∧Hid (zB wr m sb lb ab n S (K+i))∧Hid (zu (fun k=>k=ab) w wr)) (fun z _=>B+8-(intOf z).toNat)
 case atStart=>exact⟨0,by go_num,by omega,HM0,hid (zu.refl _ _)⟩
 case round=>
  obtain⟨i,rfl,hi,HM,HO⟩:=hrel;by_cases hlt:i<8
  ·have HF:=hid (Qd (B+i) (by omega) wr HM.o ((HO.o.cell (p:=⟨bx,0,none⟩) Hbl.o.1 Hbl.o.2).trans Hbx.o) (by omega));have e1:(i:Int)<8:=by omega
   have e2:(B:Int)+8≤1048576:=by omega
   go_wp2_with fail
   refine HF.o.mono ?_;rintro e w2 ⟨rfl,hM2,hO2⟩;have HM2:Hid (zB w2 m sb lb ab n S (K+(i+1))):=hid hM2;have HO2:=hid (HO.o.trans hO2 fun _ _ e=>e);clear hM2 hO2 HF;go_wp2;go_roundw
   case rel=>exact⟨i+1,by go_num,by omega,HM2,HO2⟩
   case measure=>simp[intOf];omega
  ·obtain rfl:i=8:=by omega
   clear hlt;go_wp2;go_end0
   exact⟨rfl,HM.o,HO.o⟩
end
section
open Go.Maps
theorem Jk{m sb lb ab n K:Nat}{S:List UInt8}(a k:Nat)(w:World)(h:zB w m sb lb ab n S K)(hak:a+k≤S.length)(hk:k≤100000)(hK:K<900000000000):
 Calls prog 114 #[.pointer (some ⟨m,0,none⟩),.int .i64 a,.int .i64 k] w fun e w'=>e= .returned (.int .i64 0)∧zB w' m sb lb ab n S (K+20000)∧zu (fun k=>k=ab) w w':=by
 have hlen:=h.len;have hsm:=h.small;have hli:=h.lines;obtain⟨wb,hwb⟩:=nm (w.alloc (.cells #[.pointer (some ⟨m,0,none⟩)] 36));have hbb:Below w.heap.size w wb:=by rw[hwb];exact(Below.refl _ _).alloc (Nat.le_refl _) _
 have hbox:wb.heap[w.heap.size]? =some (.cells #[.pointer (some ⟨m,0,none⟩)] 36 (0,0)):=by rw[hwb];exact heap_alloc_new _ _
 obtain⟨bx,hbx⟩:=nm w.heap.size;have HMb:=hid (h.keep fun q hq=>hbb.block q (h.lts q hq));have hbc:wb.cell? ⟨bx,0,none⟩=some (.pointer (some ⟨m,0,none⟩)):=by rw[hbx];exact cell_of_row wb _ 0 _ _ _ hbox
 have Hbl:Hid (bx<wb.heap.size∧bx≠ab):=hid ⟨by rw[hbx];exact za hbox,by rw[hbx];exact fun e=>by have:=h.away.lt;omega⟩;have HW:=hid (qU (a:Int) (k:Int) (jt (by omega)) (jt (by omega)) wb HMb.o);have hwi:(decide (0≤(a:Int))&&(decide (0≤(k:Int))&&decide ((a:Int)+k≤S.length)))=true:=by simp;omega
 rw[hwi]at HW;have HWb:=hid hwb;have HBb:=hid hbb;have Hbc:=hid hbc;have Hbx:=hid hbx.symm;have hN:a+k≤n*8:=by omega
 have HN:=hid (And.intro hN (And.intro hsm hli));have ha1:(a:Int)≤1048576:=by omega
 have hk1:(k:Int)≤100000:=by omega
 clear h hwb hbb hbox hbx hwi hak hlen hsm hli hN;go_enter func114,ntmps114;go_upto_region 1 with fail
 rw[←HWb.o];rw[Hbx.o];go_upto_region 3 with(go_at_call 58;refine HW.o.mono ?_;rintro e w2 ⟨rfl,rfl⟩)
 obtain⟨l0,hl0⟩:=nm (a/64);have el0:(a:Int)/64=l0:=by omega
 have Hl0:=hid hl0;clear hl0 hbc;have HMx:=hid HMb.o;go_wp2;go_loopw[7] (fun z wr=>∃j:Nat,z= .int .i64 ((l0:Int)+(j:Int))∧j≤2000∧j≤k/64+2∧Hid (zB wr m sb lb ab n S (K+8*j))∧Hid (zu (fun k=>k=ab) w2 wr)) (fun z _=>l0+3000-(intOf z).toNat)
 case atStart=>exact⟨0,by go_num,by omega,by omega,HMb,hid (zu.refl _ _)⟩
 case round=>
  obtain⟨j,rfl,hj,hj2,HM,HO⟩:=hrel;by_cases hc:0<k∧l0+j≤(a+k-1)/64
  ·obtain⟨hk0,hlj⟩:=hc;have e1:(0:Int)<k:=by omega
   have e2:((a:Int)+k-1)/64=(((a+k-1)/64:Nat):Int):=by omega
   have e3:(l0:Int)+j≤(((a+k-1)/64:Nat):Int):=by omega
   have e4:(l0:Int)+j≤1000000:=by omega
   have e0:wr.cell? ⟨bx,0,none⟩=some (.pointer (some ⟨m,0,none⟩)):=(HO.o.cell (p:=⟨bx,0,none⟩) Hbl.o.1 Hbl.o.2).trans Hbc.o;have HL:=hid (Va (l0+j) (by have:=HN.o;have:=Hl0.o;omega) wr HM.o e0 ⟨Nat.lt_of_lt_of_le Hbl.o.1 HO.o.size,Hbl.o.2⟩ (by omega));have hj3:j+1≤k/64+2:=by have:=Hl0.o;omega
   clear hlj hk0;go_wp2_with fail
   refine HL.o.mono ?_;rintro e w3 ⟨rfl,hM3,hO3⟩;have HM3:Hid (zB w3 m sb lb ab n S (K+8*(j+1))):=hid hM3;have HO3:=hid (HO.o.trans hO3 fun _ _ e=>e);clear hM3 hO3 HL e0;go_wp2;go_roundw
   case rel=>exact⟨j+1,by go_num,by omega,hj3,HM3,HO3⟩
   case measure=>simp[intOf];omega
  ·by_cases hk0:0<k
   ·have e1:(0:Int)<k:=by omega
    have e2:((a:Int)+k-1)/64=(((a+k-1)/64:Nat):Int):=by omega
    have e3:(((a+k-1)/64:Nat):Int)<(l0:Int)+j:=by omega
    clear hc;go_wp2;go_ret
    exact⟨rfl,HM.o.more (by omega),(zx HBb.o _).trans HO.o fun _ _ e=>e⟩
   ·have e1:(k:Int)≤0:=by omega
    clear hc;go_wp2;go_ret
    exact⟨rfl,HM.o.more (by omega),(zx HBb.o _).trans HO.o fun _ _ e=>e⟩
end
section
open Go.Maps
theorem xl(b:Nat)(t:TypeId):∀(X:List UInt8) (o:Nat) (w:World) (Z:List UInt8),w.heap[b]? =some (.cells (ze Z) t (0,0))→∃Z':List UInt8,Z'.length=Z.length∧(w.setCells b o (Lib.byteCells X)).heap[b]? =some (.cells (ze Z') t (0,0))
 |[],_,_,Z,h=>⟨Z,rfl,h⟩
 |x::r,o,w,Z,h=>by
  have h1:=Go.heap_setCell_same w b o _ t (.int .u8 x.toNat) h;rw[q8]at h1;obtain⟨Z',hl,h2⟩:=xl b t r (o+1) _ (Z.set o x) h1;exact⟨Z',by rw[hl,List.length_set],h2⟩
theorem zo(g:Nat):∀(vs:List Value) (o:Nat) (w:World),w.grownBy (w.setCells g o vs) (some g)
 |[],_,w=>⟨rfl,rfl,rfl,Nat.le_refl _,fun _ _ _=>rfl⟩
 |v::r,o,w=>by
  have h:=zo g r (o+1) (w.setCell ⟨g,o,none⟩ v);rw[World.setCells];exact jW (z4 g o w v) h
theorem jC{w:World}{g t:Nat}{C:Array Value}(h:w.heap[g]? =some (.cells C t (0,0))){o n:Nat}(ho:o+n≤C.size):w.there g o n:=fun j hj=>by
 refine⟨?_,frozen_of_row _ _ _ _ t h⟩;have:C[o+j]? =some C[o+j]:=Array.getElem?_eq_getElem (by omega)
 rw[cell_of_row _ _ (o+j) C t _ h,this];rfl
theorem sizeCell:(prog.info? 119).map (fun i=>i.size)=some 8:=by kernel_rfl
theorem Js(S:List UInt8):(ze S).size=S.length:=by
 unfold ze;rw[List.size_toArray,zK]
structure UU where
 b:Bool
def UB(x:UU):Value:= .bool x.b
theorem X6{v:Value}{y:DataW Unit×List MemPlace}(h:plainElem prog 4 v=some y):∃c:UU,v=UB c:=by
 unfold plainElem at h;rw[underlying4]at h
 cases v with
 |bool c=>exact⟨⟨c⟩,rfl⟩
 |_=>cases h
theorem XW{w w':World}{m sb lb ab n K r q cnt o:Nat}{S Z:List UInt8}{X:List UInt8}{D:DataW Unit}{left:Lit→Bool}(h:zB w m sb lb ab n S K)(hr:w.ranges prog 3 (plainElem prog 4) ab r q D left cnt)(hZ:Z.length=S.length)(hl:w.heap[lb]? =some (.cells (ze Z) 119 (0,0)))(hw:w'=w.setCells lb o (Lib.byteCells X)):
 zB w' m sb lb ab n S K∧w'.ranges prog 3 (plainElem prog 4) ab r q D left cnt∧zu (fun k=>k=lb) w w':=by
 have hg:w.grownBy w' (some lb):=by rw[hw];exact zo _ _ _ _
 have hb:∀k,k<w.heap.size→k≠lb→w'.heap[k]? =w.heap[k]? :=fun k hk hn=>hg.block k hk (fun e=>hn (Option.some.inj e));obtain⟨Z',hZ',hl'⟩:=xl lb _ X o w Z hl;rw[←hw]at hl';have ha:=h.apart;refine⟨⟨(hb m (za h.obj) ha.2.2).trans h.obj,(hb sb (za h.seen) h.ne).trans h.seen,⟨Z',hZ'.trans hZ,hl'⟩,h.away.keep (hb ab h.away.lt ha.2.1.symm),h.len,h.small,h.lines,h.ne⟩,hr.kept hg (fun e=>ha.2.1 (Option.some.inj e).symm) (fun e=> ?_),zw hg fun k e=>(Option.some.inj e).symm⟩;obtain⟨es,clock,since,seen,c0,_,_,_,_,hri,_⟩:=hr;have hrl:=Option.some.inj e;rw[hrl,hl]at hri
 cases hri
theorem Vc{m sb lb ab n K r q cnt:Nat}{S:List UInt8}{D:DataW Unit}{left:Lit→Bool}(k:Nat)(hkn:k<n)(w:World)(h:zB w m sb lb ab n S K)(hr:w.ranges prog 3 (plainElem prog 4) ab r q D left cnt)(hq:q≤K)(hD:∀kl,has D kl=true→∃j:Nat,j<n∧kl= .int .i64 j):
 Calls prog 159 #[.pointer (some ⟨m,0,none⟩),.int .i64 k] w fun e w'=>e= .returned (.tuple #[])∧zB w' m sb lb ab n S K∧zu (fun k=>k=lb∨k=ab) w w'∧∃cnt',w'.ranges prog 3 (plainElem prog 4) ab r q (D.del (.int .i64 k)) (fun z=>left z&& !z.sameKey (.int .i64 k)) cnt'∧cnt'≤cnt:=by
 obtain⟨Z,hZ,hl⟩:=h.lasts;obtain⟨x0,x1,x2,x3,x4,x5,x6,x7,s0,s1,s2,s3,s4,s5,s6,s7⟩:=Vq h.len hkn;have a0:=jM h.seen s0;have a1:=jM h.seen s1;have a2:=jM h.seen s2;have a3:=jM h.seen s3;have a4:=jM h.seen s4;have a5:=jM h.seen s5;have a6:=jM h.seen s6;have a7:=jM h.seen s7;obtain⟨c0,c1,c2⟩:=ja h.obj;have HM:=hid h;have HR:=hid hr;have HZ:=hid (And.intro hZ hl);have HD:=hid (And.intro hq hD);have e1:(k:Int)<n:=by omega
 clear s0 s1 s2 s3 s4 s5 s6 s7 hZ hl h hr hq hD;have hbd:=(Below.refl w.heap.size w).drew;have HMd:Hid (zB w.drew m sb lb ab n S K):=hid (HM.o.keep fun k hk=>hbd.block k (HM.o.lts k hk));have HRd:Hid (w.drew.ranges prog 3 (plainElem prog 4) ab r q D left cnt):=hid (HR.o.kept (row:=none) ⟨hbd.os,hbd.tape,hbd.output,hbd.size,fun k hk _=>hbd.block k hk⟩ (by simp) (by simp));have HZd:Hid (w.drew.heap[lb]? =some (.cells (ze Z) 119 (0,0))):=hid ((hbd.block lb (HM.o.lts lb (by simp))).trans HZ.o.2);have HOd:Hid (zu (fun k=>k=lb∨k=ab) w w.drew):=hid (zx hbd _);clear hbd;go_enter func159,ntmps159;go_wp2;go_still_tail 13,(by kernel_rfl)
 change wpList _ _ _ _ _ w.drew;clear a0 a1 a2 a3 a4 a5 a6 a7 c0 c1 c2;generalize w.drew=wd at HMd HRd HZd HOd⊢;have HCe:=hid fun w' (e:w'=wd.setCells lb (k*8) (Lib.byteCells [x0,x1,x2,x3,x4,x5,x6,x7]))=>XW HMd.o HRd.o HZ.o.1 HZd.o e;have HTh:Hid (wd.there lb (k*8) 8):=hid (jC HZd.o (by rw[Js,HZ.o.1,HM.o.len];omega));have HKey:=hid (keyOf_int_mk (P:=prog) underlying3 (q:= .i64) (a:=(k:Int)) (jt (by have:=HM.o.small;omega)))
 go_wp2_with(first|(refine wpList_store_mid rfl 119 _ _ rfl lb (k*8) #[.int .u8 x0.toNat,.int .u8 x1.toNat,.int .u8 x2.toNat,.int .u8 x3.toNat,.int .u8 x4.toNat,.int .u8 x5.toNat,.int .u8 x6.toNat,.int .u8 x7.toNat] rfl rfl HTh.o sizeCell (by simp[Value.oneCell']) ?_;generalize hwe:(World.setCells _ _ _ _)=we;have HE:=hid (HCe.o we (by rw[←hwe];rfl));clear hwe;obtain⟨d0,d1,d2⟩:=ja HE.o.1.obj)|(at_delete;refine wpList_delete_ranges _ rfl _ _ 110 3 rfl 4 intLaw underlying110 (plainElem prog 4) ab r q D _ cnt rfl HE.o.2.1 (.int .i64 k) (.int .i64 k) rfl HKey.o ?_;intro w5 cnt5 hrg5 hle5 hturn5))
 have HR5:=hid (And.intro hrg5 hle5);have HM5:Hid (zB w5 m sb lb ab n S K):=hid (HE.o.1.turn HM.o.apart.1 HM.o.apart.2.1 hturn5 HD.o.1 hrg5.owns fun kl hkl=>HD.o.2 kl (xV hkl));have HO5:Hid (zu (fun k=>k=lb∨k=ab) w w5):=hid ((HOd.o.trans HE.o.2.2 fun _ _ e=>Or.inl e).trans (qD hturn5) fun _ _ e=>Or.inr e);clear hrg5 hle5 hturn5 d0 d1 d2;go_wp2;go_end0
 exact⟨rfl,HM5.o,HO5.o,cnt5,HR5.o.1,HR5.o.2⟩
theorem Jn{m sb lb ab n K:Nat}{S:List UInt8}(w:World)(h:zB w m sb lb ab n S K)(c:Code)(hb:f115.body=some c):
 c.wp prog (bodyPost prog f115 fun e w'=>e= .returned (.tuple #[])∧zB w' m sb lb ab n S K∧zu (fun k=>k=lb∨k=ab) w w') {tmps:=#[.pointer (some ⟨m,0,none⟩)]++Array.replicate (f115.ntmps-1) undef,defers:=[]} w:=by
 cases hb
 obtain⟨c0,c1,c2⟩:=ja h.obj;obtain⟨q,D,hq,hown,hD⟩:=h.away;have HM:=hid h;have HD:=hid (And.intro hq hD);have HOwn:=hid hown;clear h hq hown hD;simp only[ntmps115,List.size_toArray,List.length_cons,List.length_nil,Nat.reduceAdd,Nat.reduceSub,Array.replicate_succ,Array.replicate_zero,List.push_toArray,List.append_toArray,List.nil_append,List.cons_append];go_wp2_with(at_range;refine wpList_range_own _ rfl _ 110 rfl 3 4 intLaw underlying110 _ _ _ D rfl HOwn.o ?_;intro w0 hrg0 hg0 hs0)
 have HG0:=hid hg0;clear c0 c1 c2 hs0 hg0;go_frame
 go_loopw[] (fun wr=>∃(D':DataW Unit) (left:Lit→Bool) (cnt:Nat),wr.ranges prog 3 (plainElem prog 4) ab w.heap.size q D' left cnt∧Hid (∀kl,has D' kl=true→∃j:Nat,j<n∧kl= .int .i64 j)∧Hid (∀kl,left kl=true→∃j:Nat,j<n∧kl= .int .i64 j)∧Hid (zB wr m sb lb ab n S K)∧Hid (zu (fun k=>k=lb∨k=ab) w wr))
  (fun wr=>wr.rangeLeft ab w.heap.size)
 case atStart=>
  have hO:zu (fun k=>k=lb∨k=ab) w w0:=zw HG0.o fun k e=>by cases e
  exact⟨D,_,_,hrg0,hid HD.o.2,hid HD.o.2,hid (HM.o.keep fun k hk=>HG0.o.block k (HM.o.lts k hk) (by simp)),hid hO⟩
 case round=>
  obtain⟨D',left,cnt,hrg,HD',HL,HMr,HO⟩:=hrel;go_wp2_with(at_next;refine wpList_next_ranges _ rfl _ rfl 3 intLaw (plainElem prog 4) (Value.int .i64) UB (fun key kl hk=>by obtain⟨x,hx,_⟩:=keyOf_int_inv underlying3 hk;exact⟨x,hx⟩) (fun v y hv=>X6 hv) ab w.heap.size q _ _ _ rfl hrg ?_ ?_)
  ·intro hc0 hl0;clear hrg;go_wp2;go_end0
   exact⟨rfl,HMr.o,HO.o⟩
  ·intro x c kl yd yp w2 cnt2 hkey hlk hv hat hrg2 hlt hg2 hs2 hen;skip
   obtain⟨x',ex,rfl,hwx⟩:=keyOf_int_inv underlying3 hkey
   cases ex
   obtain⟨j,hj,ej⟩:=HL.o _ hlk;obtain rfl:x=(j:Int):=by cases ej;rfl
   have hir:∀p,p=m∨p=sb∨p=lb∨p=ab→p≠w.heap.size:=fun p hp e=>by
    have:=HM.o.lts p hp
    omega
   have HM2:Hid (zB w2 m sb lb ab n S K):=hid (HMr.o.keep fun p hp=>hg2.block p (HMr.o.lts p hp) (fun e=>hir p hp (Option.some.inj e)));have hen2:(Instr.entry (.pointer (some ⟨w.heap.size,0,none⟩))).run prog w2= .ok (.tuple #[.int .i64 j,UB c]) w2:=hen;have HLeft:Hid (wr.rangeLeft ab w.heap.size=cnt):=hrg.left_eq;have HLt:=hid hlt;have HKp:=hid (Vc j hj w2 HM2.o hrg2 HD.o.1 HD'.o);have HO2:Hid (zu (fun k=>k=lb∨k=ab) w w2):=hid ⟨hg2.os.trans HO.o.os,hg2.tape.trans HO.o.tape,hg2.output.trans HO.o.output,Nat.le_trans HO.o.size hg2.size,fun k hk hn=>(hg2.block k (Nat.lt_of_lt_of_le hk HO.o.size) (by simp;omega)).trans (HO.o.block k hk hn)⟩;clear hkey hlk hv hat hrg2 hlt hg2 hs2 hen hrg hir ej hwx;go_wp2_with fail
   refine HKp.o.mono ?_;rintro e w3 ⟨rfl,hM3,hO3,cnt3,hr3,hc3⟩;rw[strike_twice]at hr3;have HM3:=hid hM3;have HO3:=hid (HO2.o.trans hO3 fun _ _ e=>e);have HD3:Hid (∀kl,has (D'.del (.int .i64 j)) kl=true→∃j:Nat,j<n∧kl= .int .i64 j):=hid fun kl hkl=>HD'.o kl (xV hkl);have HL3:Hid (∀kl,(left kl&& !kl.sameKey (.int .i64 j))=true→∃j:Nat,j<n∧kl= .int .i64 j):=hid fun kl hkl=>HL.o kl (by simp only[Bool.and_eq_true]at hkl;exact hkl.1);have HMs:Hid (w3.rangeLeft ab w.heap.size<wr.rangeLeft ab w.heap.size):=hid (by rw[hr3.left_eq,HLeft.o];exact Nat.lt_of_le_of_lt hc3 HLt.o);clear hM3 hO3 HKp hen2 hc3;go_wp2;go_roundw
   case rel=>exact⟨_,_,cnt3,hr3,HD3,HL3,HM3,HO3⟩
   case measure=>exact HMs.o
theorem Vk{m sb lb ab n K:Nat}{S:List UInt8}(w:World)(h:zB w m sb lb ab n S K):
 Calls prog 115 #[.pointer (some ⟨m,0,none⟩)] w fun e w'=>e= .returned (.tuple #[])∧zB w' m sb lb ab n S K∧zu (fun k=>k=lb∨k=ab) w w':=
 calls_of_wp func115 rfl (Jn w h _ rfl)
theorem X3{m sb lb ab n K:Nat}{S:List UInt8}(u:FrameMode)(w:World)(h:zB w m sb lb ab n S K):
 CallsD prog 115 #[.pointer (some ⟨m,0,none⟩)] u w fun e u' w'=>u'=u∧e= .returned (.tuple #[])∧zB w' m sb lb ab n S K∧zu (fun k=>k=lb∨k=ab) w w':=
 callsD_of_wp func115 rfl (Jn w h _ rfl)
end
def paV(p:Gd.Pa):Value:= .agg #[.int .i64 p.1,.string ⟨p.2.toArray⟩]
theorem uW{P:Program}(w:World)(dT sT ty elem:TypeId)(g o dLen dCap:Nat)(s:ByteArray)(cur:Array Value)(t:TypeId)
 (hu:P.underlying dT=some (.slice elem))(hs:(P.info? elem).map (·.size)=some 1)(hg:w.heap[g]? =some (.cells cur t (0,0)))(hle:dLen≤s.size)(hfit:o+dLen≤cur.size):
 (Builtin.copy_ #[dT,sT] ty #[.slice (some ⟨g,o,none⟩) dLen dCap,.string s]).run P w=
   .ok (goInt dLen) (w.setRow g (cur.toList.take o++Lib.byteCells (s.data.toList.take dLen)++cur.toList.drop (o+dLen)).toArray):=by
 have hss:s.size=s.data.toList.length:=Lib.size_eq s;have hlen:(Lib.byteCells (s.data.toList.take dLen)).length=dLen:=by rw[Lib.byteCells_length,List.length_take];omega
 have hst:=run_storeCells_at P g o t (Lib.byteCells (s.data.toList.take dLen)) 0 cur w hg (by rw[hlen];simpa using hfit) (Lib.byteCells_one _);have hmin:Nat.min s.size dLen=dLen:=Nat.min_eq_right hle;have htk:List.take dLen (List.map (fun b:UInt8=>Value.int IntKind.u8 (b.toNat:Int)) s.data.toList)=Lib.byteCells (s.data.toList.take dLen):=by
  rw[←List.map_take];rfl
 rw[hlen]at hst;simp only[Nat.add_zero]at hst
 cases hq:P.info? elem with
 |none=>simp[hq]at hs
 |some i=>
  simp[Builtin.copy_,run_underlying hu,Builtin.lenOf,Builtin.firstCells,sizeOf,typeInfo,hq,hmin];rw[htk,hst];simp[Result.andThen]
theorem yZ{P:Program}(w:World){ops:Array Oper}{rest:List Oper}{o:Oper}{a:Act}{Q:Exit→Act→World→Prop}(hgd:o.guard=none)(d s:Operand)(dT sT:TypeId)(ho:o.op= .call {callee:= .builtin .copy,args:=#[d,s],argTypes:=#[dT,sT]})
 (elem:TypeId)(g k dLen dCap:Nat)(str:ByteArray)(cur:Array Value)(t:TypeId)(hu:P.underlying dT=some (.slice elem))(hs:(P.info? elem).map (·.size)=some 1)(hg:w.heap[g]? =some (.cells cur t (0,0)))(hle:dLen≤str.size)(hfit:k+dLen≤cur.size)
 (hd:a.eval d= .slice (some ⟨g,k,none⟩) dLen dCap)(hx:a.eval s= .string str)
 (h:wpList P ops Q rest (a.put o.dst (goInt dLen)) (w.setRow g (cur.toList.take k++Lib.byteCells (str.data.toList.take dLen)++cur.toList.drop (k+dLen)).toArray)):wpList P ops Q (o::rest) a w:=by
 refine wpList_plain hgd fun K hK=> ?_;have hr:=uW (P:=P) w dT sT o.type elem g k dLen dCap str cur t hu hs hg hle hfit;unfold Oper.wp execOp;simp only[ho,resolve,invoke,builtin,Sem.run_bind,Sem.run_pure,Result.andThen_ok,List.map_toArray,List.map_cons,List.map_nil,hd,hx,hr];exact hK _ _ h
theorem vX(L:List UInt8)(k:Nat):Lib.byteCells (L.take k)=(Lib.byteCells L).take k:=List.map_take
theorem vY(L:List UInt8)(k:Nat):Lib.byteCells (L.drop k)=(Lib.byteCells L).drop k:=List.map_drop
theorem JW{w w':World}{B g n c k:Nat}{cur:Array Value}{L X:List UInt8}(hB:B≤g)(hn:n=L.length)(hnc:n≤c)(hcm:c≤maxLen)(hcs:cur.size=c*1)(hcur:cur.toList.take (n*1)=Lib.byteCells L)(hk:k+X.length≤n)
 (hg:w.heap[g]? =some (.cells cur 5 (0,0)))(hw:w'=w.setRow g (cur.toList.take k++Lib.byteCells X++cur.toList.drop (k+X.length)).toArray):zV w' B (.slice (some ⟨g,0,none⟩) n c) (Gd.splice L k X):=by
 have hl:(Gd.splice L k X).length=n:=by rw[Gd.splice_length (S:=L) (k:=k) (b:=X) (by omega)];exact hn.symm
 rw[Nat.mul_one]at hcur hcs;have hkc:k+X.length≤cur.toList.length:=by rw[Array.length_toList (xs:=cur)];omega
 refine⟨by rw[zK,Nat.mul_one],Or.inr ⟨g,c,_,by rw[hl],hB,by rw[hw];exact setRow_heap w g cur _ _ _ hg,by omega,hcm,?_,?_⟩⟩
 ·rw[List.size_toArray,List.length_append,List.length_append,List.length_take,List.length_drop,zK,Array.length_toList];rw[Array.length_toList]at hkc;omega
 ·rw[hl,Nat.mul_one];unfold Gd.splice;rw[←jJ,←jJ,vX,vY,←hcur];have e1:(cur.toList.take n).take k=cur.toList.take k:=by rw[List.take_take,Nat.min_eq_left (by omega)]
  have hk1:(cur.toList.take k).length=k:=by rw[List.length_take];omega
  rw[e1,List.drop_take,List.append_assoc,List.take_append,hk1,List.take_of_length_le (l:=cur.toList.take k) (by omega),List.take_append,zK,List.take_of_length_le (l:=Lib.byteCells X) (by rw[zK];omega),show n-k-X.length=n-(k+X.length) by omega]
theorem infoU8s:(prog.info? 5).map (·.size)=some 1:=by kernel_rfl
theorem YM(v:Value)(L:List UInt8)(a:Nat)(p:Gd.Pa)(B:Nat)(w:World)(hB:B≤w.heap.size)(hown:zV w B v L)(hl:L.length≤100000)(ha:a≤2000000)(hp:p.1≤2000000)(hp2:p.2.length≤256):
 Calls prog 126 #[v,.int .i64 a,paV p] w fun e w'=>e= .returned (.tuple #[])∧zV w' B v (Gd.over L a p)∧Below B w w':=by
 obtain⟨A,c,hv,_⟩:=hown.at_;obtain⟨wb,hwb⟩:=nm (w.alloc (.cells #[.int .i64 p.1,.string ⟨p.2.toArray⟩] 185));have hbb:Below w.heap.size w wb:=by rw[hwb];exact(Below.refl _ _).alloc (Nat.le_refl _) _
 have hbx:wb.heap[w.heap.size]? =some (.cells #[.int .i64 p.1,.string ⟨p.2.toArray⟩] 185 (0,0)):=by rw[hwb];exact heap_alloc_new _ _
 obtain⟨bx,hbxe⟩:=nm w.heap.size;rw[←hbxe]at hbx;have c0:=cell_of_row wb bx 0 _ _ _ hbx;have c1:=cell_of_row wb bx 1 _ _ _ hbx;have HO:=hid (hown.keep hbb);have HBb:=hid hbb;have HWb:=hid hwb;have Hbx:=hid hbxe.symm;obtain⟨s,hs⟩:∃s:ByteArray,s=⟨p.2.toArray⟩:=⟨_,rfl⟩;rw[←hs]at HWb c1;have hsz:s.size=p.2.length:=by rw[hs];simp[ByteArray.size]
 have Hs:=hid hs;obtain⟨n,hn⟩:=nm L.length;rw[←hn]at hv hl;have Hn:=hid hn;obtain⟨p1,hp1⟩:=nm p.1;rw[←hp1]at HWb c0 hp;have Hp1:=hid hp1;have Hsz:=hid hsz;have hss:s.size≤256:=by omega
 unfold paV;rw[←hs,←hp1];subst hv;clear hown hwb hbb hbx hbxe hs hn hp1 hsz hp2;go_enter func126,ntmps126;go_upto_region 1 with fail
 rw[←HWb.o];rw[Hbx.o];go_upto_region 3 with fail
 obtain⟨F,hF⟩:=nm (Gd.overFrom a p);obtain⟨T,hT⟩:=nm (Gd.overTo a L.length p);have HF:=hid hF;have HT:=hid hT;have ef:(if a<p1 then(p1:Int)else a)=F:=by
  rw[hF,Hp1.o];unfold Gd.overFrom;split<;>omega
 have et:(if(p1:Int)+s.size<(a:Int)+n then(p1:Int)+s.size else(a:Int)+n)=T:=by
  rw[hT,Hp1.o,Hsz.o,Hn.o];unfold Gd.overTo;split<;>omega
 rw[ef,et];clear ef et hF hT;by_cases hlt:F<T
 ·have hov:Gd.over L a p=Gd.splice L (F-a) (Gd.part p.2 (F-p1) (T-F)):=by
   unfold Gd.over;rw[←HF.o,←HT.o,if_pos hlt,Hp1.o]
  have h1:a≤F:=by rw[HF.o];unfold Gd.overFrom;omega
  have h2:p1≤F:=by rw[HF.o,Hp1.o];unfold Gd.overFrom;omega
  have h3:T≤a+n:=by rw[HT.o,Hn.o];unfold Gd.overTo;omega
  have h4:T≤p1+s.size:=by rw[HT.o,Hp1.o,Hsz.o];unfold Gd.overTo;omega
  obtain⟨g,cap,cur,hvv,hBg,hg,hnc,hcm,hcs,hcur⟩:∃g cap cur,Value.slice A n c= .slice (some ⟨g,0,none⟩) n cap∧B≤g∧wb.heap[g]? =some (.cells cur 5 (0,0))∧n≤cap∧cap≤maxLen∧cur.size=cap*1∧cur.toList.take (n*1)=Lib.byteCells L:=by
   have h:=HO.o.2;rw[←Hn.o]at h;rcases h with⟨_,h0⟩|⟨g,cap,cur,h⟩
   ·omega
   ·exact⟨g,cap,cur,h⟩
  cases hvv
  have HOv:=hid hov;have HG:=hid (And.intro hBg (And.intro hg (And.intro hcs hcur)));have HH:=hid (And.intro h1 (And.intro h2 (And.intro h3 (And.intro h4 hlt))));have i1:(a:Int)≤F:=by omega
  have i2:(p1:Int)≤F:=by omega
  have i3:(T:Int)≤(a:Int)+n:=by omega
  have i4:(T:Int)≤(p1:Int)+s.size:=by omega
  have i5:(F:Int)<T:=by omega
  obtain⟨FA,hFA⟩:∃FA:Nat,FA=F-a:=⟨_,rfl⟩;obtain⟨TA,hTA⟩:∃TA:Nat,TA=T-a:=⟨_,rfl⟩;obtain⟨FP,hFP⟩:∃FP:Nat,FP=F-p1:=⟨_,rfl⟩;have HFA:=hid (And.intro hFA (And.intro hTA hFP));have u1:IntKind.i64.wrap ((F:Int)-a)=(FA:Nat):=by rw[IntWalk.i64_in _ (by omega)];omega
  have u2:IntKind.i64.wrap ((T:Int)-a)=(TA:Nat):=by rw[IntWalk.i64_in _ (by omega)];omega
  have u3:IntKind.i64.wrap ((F:Int)-p1)=(FP:Nat):=by rw[IntWalk.i64_in _ (by omega)];omega
  have i6:(FA:Int)≤TA:=by omega
  have i9:Hid (FA<TA):=hid (by omega);have i7:(TA:Int)≤c:=by omega
  have i8:(FP:Int)≤s.size:=by omega
  clear hFA hTA hFP i1 i2 i3 i4;clear hov hBg hg hcs hcur h1 h2 h3 h4 hlt;go_wp2;go_still_tail 15,(by kernel_rfl)
  change wpList _ _ _ _ _ wb.drew;rw[if_neg (show ¬c=FA by have:=i9.o;omega)];have hX:((s.extract FP s.size).data.toList.take (TA-FA))=Gd.part p.2 FP (TA-FA):=by
   rw[V4];unfold Gd.part;rw[Hs.o]
  have hXl:(Gd.part p.2 FP (TA-FA)).length=TA-FA:=Gd.part_length (by have:=HFA.o;have:=HH.o;have:=Hsz.o;omega);have hdr:Below wb.heap.size wb wb.drew:=(Below.refl _ wb).drew;refine yZ wb.drew rfl _ _ 60 9 rfl 5 g FA (TA-FA) (c-FA) (s.extract FP s.size) cur 5 underlying60 infoU8s ((hdr.block g (za HG.o.2.1)).trans HG.o.2.1) (by have h0:=HH.o;have h1:=HFA.o;rw[ByteArray.size_extract];omega) (by have h0:=HH.o;have h1:=HFA.o;have h2:=HG.o.2.2.1;omega) rfl rfl ?_;rw[hX];generalize hwz:(World.setRow _ _ _)=wz;have HB5:Hid (Below B w wz):=hid (by rw[←hwz];exact below_setRow ((HBb.o.mono hB).trans (hdr.mono (Nat.le_trans hB HBb.o.size))) HG.o.1 _);have HO5:Hid (zV wz B (.slice (some ⟨g,0,none⟩) n c) (Gd.over L a p)):=hid (by
   rw[HOv.o];have e1:F-a=FA:=HFA.o.1.symm;have e2:F-p1=FP:=HFA.o.2.2.symm;have e3:T-F=TA-FA:=by have:=HH.o;have:=HFA.o;omega
   rw[e1,e2,e3];exact JW HG.o.1 Hn.o hnc hcm HG.o.2.2.1 HG.o.2.2.2 (by rw[hXl];have:=HH.o;have:=HFA.o;omega) ((hdr.block g (za HG.o.2.1)).trans HG.o.2.1) (by rw[←hwz,hXl]))
  clear hX hXl hdr hwz;go_wp2;go_end0
  exact⟨rfl,HO5.o,HB5.o⟩
 ·have hov:Gd.over L a p=L:=by
   unfold Gd.over;rw[←HF.o,←HT.o,if_neg hlt]
  have HOv:=hid hov;have h5:(T:Int)≤F:=by omega
  clear hov hlt;go_wp2;go_end0
  rw[HOv.o];exact⟨rfl,HO.o,HBb.o.mono hB⟩
namespace Gd
theorem over_length(b:List UInt8)(k:Nat)(p:Pa):(over b k p).length=b.length:=by
 unfold over;split
 ·rename_i h
  have h1:overTo k b.length p≤k+b.length:=by unfold overTo;omega
  have h2:overTo k b.length p≤p.1+p.2.length:=by unfold overTo;omega
  have h3:k≤overFrom k p:=by unfold overFrom;omega
  have h4:p.1≤overFrom k p:=by unfold overFrom;omega
  rw[splice_length];rw[part_length (by omega)];omega
 ·rfl
theorem overs_length:∀(P:List Pa) (b:List UInt8) (k:Nat),(overs b k P).length=b.length
 |[],_,_=>rfl
 |p::r,b,k=>by
  show(overs (over b k p) k r).length=_
  rw[overs_length r,over_length]
theorem overs_snoc(b:List UInt8)(k:Nat)(P:List Pa)(p:Pa):overs b k (P++[p])=over (overs b k P) k p:=by
 unfold overs;rw[List.foldl_append];rfl
theorem take_next{α:Type}{P:List α}{i:Nat}{p:α}(h:P[i]? =some p):P.take (i+1)=P.take i++[p]:=by
 rw[List.take_add_one,h];rfl
end Gd
def paC(p:Gd.Pa):List Value:=[.int .i64 p.1,.string ⟨p.2.toArray⟩]
def jP(P:List Gd.Pa):List Value:=P.flatMap paC
theorem xW(P:List Gd.Pa)(p:Gd.Pa):jP P++paC p=jP (P++[p]):=by
 unfold jP;rw[List.flatMap_append];simp
theorem yL:∀{P:List Gd.Pa} {k:Nat} {p:Gd.Pa} (i:Nat),P[k]? =some p→i<2→(jP P)[k*2+i]? =(paC p)[i]?
 |[],k,p,i,hx,_=>by simp at hx
 |a::r,0,p,i,hx,hi=>by
  simp at hx
  subst hx;unfold jP;rw[List.flatMap_cons,List.getElem?_append_left (by show 0*2+i<2;omega),Nat.zero_mul,Nat.zero_add]
 |a::r,k+1,p,i,hx,hi=>by
  unfold jP;rw[List.flatMap_cons,List.getElem?_append_right (by show 2≤_;omega)];have:=yL (P:=r) (k:=k) (p:=p) i (by simpa using hx) hi
  unfold jP at this;rw[←this];congr 1
  show(k+1)*2+i-2=_
  omega
theorem vq{w:World}{B e:Nat}{v:Value}{P:List Gd.Pa}(h:w.ownsRow B e 2 v P.length (jP P)):∃A c,v= .slice A P.length c∧((A=none∧P=[])∨∃b,A=some ⟨b,0,none⟩∧b<w.heap.size∧∀(k:Nat) (p:Gd.Pa),P[k]? =some p→w.cell? ⟨b,k*2,none⟩=some (.int .i64 p.1)∧w.cell? ⟨b,k*2+1,none⟩=some (.string ⟨p.2.toArray⟩)):=by
 have hr:=h;rcases h.2 with⟨rfl,h0⟩|⟨b,cap,cur,rfl,hb,hg,hc,_,_,_⟩
 ·exact⟨none,0,by rw[h0],Or.inl ⟨rfl,List.eq_nil_of_length_eq_zero h0⟩⟩
 ·refine⟨_,cap,rfl,Or.inr ⟨b,rfl,za hg,fun k p hp=> ?_⟩⟩;have hk:=(List.getElem?_eq_some_iff.1 hp).1;exact⟨(hr.cellAt (k*2) (by omega)).trans (yL 0 hp (by omega)),(hr.cellAt (k*2+1) (by omega)).trans (yL 1 hp (by omega))⟩
def jm(w:World)(g m:Nat)(la ls:Nat):Prop:=w.heap[g]? =some (.cells #[.pointer (some ⟨m,0,none⟩),.int .i64 la,.int .i64 ls] 127 (0,0))
structure Ug(w:World)(t m g:Nat)(pv:Value)(P:List Gd.Pa):Prop where
 obj:w.heap[t]? =some (.cells #[.pointer (some ⟨m,0,none⟩),.pointer (some ⟨g,0,none⟩),pv] 115 (0,0))
 row:w.ownsRow 0 185 2 pv P.length (jP P)
structure UT(n:Nat)(P:List Gd.Pa):Prop where
 fit:Gd.Fit n P
 len:∀p∈P,p.2.length≤256
 many:P.length≤64
def j5[zg](t:Nat)(S:List UInt8)(P:List Gd.Pa)(K:Nat)(w:World)(F:Nat→Prop):Prop:=
 ∃m g pv,yx m S K w F∧Ug w t m g pv P∧jm w g m 2688 4096∧F t∧F g∧(∀q,pv.ownBlock=some q→F q)∧UT S.length P∧m=zg.no
theorem j5.held[zg](t:Nat)(S:List UInt8)(P:List Gd.Pa)(K:Nat):xh (j5 t S P K) where
 keep:=by
  rintro w w' F ⟨m,g,pv,hM,hT,hL,ft,fg,fq,hP,hmn⟩ hs hb;refine⟨m,g,pv,(yx.held m S K).keep hM hs hb,⟨(hb t (za hT.obj) ft).trans hT.obj,?_⟩,(hb g (za hL) fg).trans hL,ft,fg,fq,hP,hmn⟩;exact⟨hT.row.1,hT.row.2.imp id fun⟨q,cap,cur,hv,hB,hg,hr⟩=>⟨q,cap,cur,hv,hB,(hb q (za hg) (fq q (by rw[hv];rfl))).trans hg,hr⟩⟩
 mono:=by
  rintro w F G ⟨m,g,pv,hM,hT,hL,ft,fg,fq,hP,hmn⟩ hG;refine⟨m,g,pv,(yx.held m S K).mono hM hG,hT,hL,hG t (za hT.obj) ft,hG g (za hL) fg,fun q hq=>hG q (zX hT.row q hq).2 (fq q hq),hP,hmn⟩
theorem uo[zg]{t K:Nat}{S:List UInt8}{P:List Gd.Pa}{F:Nat→Prop}(a k:Nat)(w:World)(h:j5 t S P K w F)(hS:S.length≤1000000)(hak:a+k≤S.length)(hk:k≤100000):
 Calls prog 67 #[.pointer (some ⟨t,0,none⟩),.int .i64 a,.int .i64 k] w (xF w (Gd.part (Gd.view S P) a k)):=by
 obtain⟨m,g,pv,hM,hT,hL,ft,fg,fq,hP,-⟩:=h;have HLd:=hid (qO a k w hM hak hk);obtain⟨c0,_,_⟩:=ja hT.obj;obtain⟨A,c,rfl,hrow⟩:=vq hT.row;have HT:=hid hT.obj;have HR:=hid hrow;have HP:=hid hP;have Hv:Hid (Gd.overs (Gd.part S a k) a P=Gd.part (Gd.view S P) a k):=hid (Gd.overs_part hak hP.fit);rw[←Hv.o];have HS:=hid (And.intro hS hak);obtain⟨n,hn⟩:=nm P.length;rw[←hn]at HT;have Hn:=hid hn;have hn64:n≤64:=by rw[hn];exact hP.many
 have ha:a≤1000000:=by omega
 clear hM hL ft fg fq hT hrow hP hS hak hn;go_enter func67,ntmps67;go_wp2_with fail
 refine HLd.o.mono ?_;rintro e w1 ⟨v,rfl,ho1,hb1⟩;have HO1:=hid ho1;have HB1:=hid hb1;obtain⟨_,_,d2⟩:=ja ((hb1.block t (za HT.o)).trans HT.o);clear ho1 hb1 HLd c0;go_upto_region 5 with fail
 go_loopw[30] (fun z wr=>∃i:Nat,z= .int .i64 i∧i≤n∧Hid (zV wr w.heap.size v (Gd.overs (Gd.part S a k) a (P.take i)))∧Hid (Below w.heap.size w wr)) (fun z _=>n-(intOf z).toNat)
 case atStart=>exact⟨0,rfl,by omega,HO1,HB1⟩
 case round=>
  obtain⟨i,rfl,hin,HO,HB⟩:=hrel;by_cases hlt:i<n
  ·obtain⟨p,hp⟩:∃p,P[i]? =some p:=⟨_,List.getElem?_eq_getElem (by have:=Hn.o;omega)⟩;rcases HR.o with⟨_,h0⟩|⟨b,rfl,hbl,hcell⟩
   ·rw[h0]at hp;simp at hp
   obtain⟨q0,q1⟩:=hcell i p hp;have r0:=(HB.o.cell (p:=⟨b,i*2,none⟩) hbl).trans q0;have r1:=(HB.o.cell (p:=⟨b,i*2+1,none⟩) hbl).trans q1;have h1:(i:Int)<n:=by omega
   have h0:(0:Int)≤i:=by omega
   have HX:=hid hp;have Hpm:=hid (List.mem_of_getElem? hp);clear hp hcell q0 q1 hlt;go_upto_region 7 with fail
   obtain⟨wz,hwz⟩:=nm (wr.alloc (.cells #[.int .i64 p.1,.string ⟨p.2.toArray⟩] 185));rw[←hwz];have hbz:Below wr.heap.size wr wz:=by rw[hwz];exact(Below.refl _ _).alloc (Nat.le_refl _) _
   have hz:wz.heap[wr.heap.size]? =some (.cells #[.int .i64 p.1,.string ⟨p.2.toArray⟩] 185 (0,0)):=by rw[hwz];exact heap_alloc_new _ _
   have z0:=cell_of_row wz wr.heap.size 0 _ _ _ hz;have z1:=cell_of_row wz wr.heap.size 1 _ _ _ hz;have HBz:Hid (Below w.heap.size w wz):=HB.t hbz;have hpf:=HP.o.fit p Hpm.o;have HOv:=hid (YM v (Gd.overs (Gd.part S a k) a (P.take i)) a p w.heap.size wz HBz.o.size (HO.o.keep hbz) (by rw[Gd.overs_length,Gd.part_length HS.o.2];exact hk) (by omega) (by have:=HS.o.1;omega) (HP.o.len p Hpm.o));unfold paV at HOv;clear hwz hbz hz r0 r1 hpf;go_wp2_with fail
   refine HOv.o.mono ?_;rintro e w3 ⟨rfl,hO3,hB3⟩;have HO3:Hid (zV w3 w.heap.size v (Gd.overs (Gd.part S a k) a (P.take (i+1)))):=hid (by rw[Gd.take_next HX.o,Gd.overs_snoc];exact hO3);have HB3:=hid (HBz.o.trans hB3);clear hO3 hB3 HOv z0 z1;go_wp2;go_roundw
   case rel=>exact⟨i+1,by go_num,by omega,HO3,HB3⟩
   case measure=>simp[intOf];omega
  ·obtain rfl:i=n:=by omega
   clear hlt;go_wp2;go_ret2
   have:=HO.o
   rw[List.take_of_length_le (by have:=Hn.o;omega)]at this;exact⟨v,rfl,this,HB.o⟩
theorem Q0[zg]{t K:Nat}{S:List UInt8}{P:List Gd.Pa}{F:Nat→Prop}(a k:Int)(ha:I64 a)(hk:I64 k)(w:World)(h:j5 t S P K w F)(hn:¬(0≤a∧0≤k∧a+k≤S.length)):
 Calls prog 67 #[.pointer (some ⟨t,0,none⟩),.int .i64 a,.int .i64 k] w (VI w):=by
 obtain⟨m,g,pv,hM,hT,-⟩:=h;have HLd:=hid (XD a k ha hk w hM hn);obtain⟨c0,_,_⟩:=ja hT.obj;clear hM hT;go_enter func67,ntmps67;go_wp2_with fail
 refine HLd.o.mono ?_;rintro e w1 ⟨rfl,rfl⟩;go_wp2;go_ret2
 exact⟨rfl,rfl⟩
theorem up[zg]{t K:Nat}{S:List UInt8}{P:List Gd.Pa}{F:Nat→Prop}(w:World)(h:j5 t S P K w F):
 Calls prog 20 #[.pointer (some ⟨t,0,none⟩)] w fun e w'=>e= .returned (.tuple #[])∧j5 t S [] K w' F∧zu F w w':=by
 obtain⟨m,g,pv,hM,hT,hL,ft,fg,fq,hP,hmn⟩:=h;have Hmn:=hid hmn;clear hmn;have HM:=hid hM;have HT:=hid hT;have HL:=hid hL;have HF:=hid (And.intro ft fg);obtain⟨_,_,c2⟩:=ja hT.obj;have f2:=frozen_of_row w t 2 _ _ hT.obj;clear hM hT hL ft fg fq hP;go_enter func20,ntmps20;go_wp2;go_end0
 have hg:=z4 t 2 w (.slice none 0 0);have hO:zu (fun k=>k=t) w (w.setCell ⟨t,2,none⟩ (.slice none 0 0)):=zw hg fun k e=>(Option.some.inj e).symm;refine⟨rfl,⟨m,g,.slice none 0 0,?_,⟨Go.heap_setCell_same w t 2 _ _ _ HT.o.obj,World.ownsRow_nil _ _ _ _⟩,?_,HF.o.1,HF.o.2,(fun q hq=>by cases hq),⟨(fun p hp=>by cases hp),(fun p hp=>by cases hp),by simp⟩,Hmn.o⟩,hO.mono fun j _ e=>e▸HF.o.1⟩
 ·obtain⟨sb,lb,ab,n,h,r⟩:=HM.o;refine⟨sb,lb,ab,n,h.keep fun k hk=>hO.block k (h.lts k hk) fun e=> ?_,r⟩;have ho:=HT.o.obj;rw[←e]at ho;rcases hk with rfl|rfl|rfl|rfl
  ·exact absurd (Obj.cells.inj (Option.some.inj (ho.symm.trans h.obj))).2.1 (by decide)
  ·exact absurd (Obj.cells.inj (Option.some.inj (ho.symm.trans h.seen))).2.1 (by decide)
  ·obtain⟨Z,_,hl⟩:=h.lasts;exact absurd (Obj.cells.inj (Option.some.inj (ho.symm.trans hl))).2.1 (by decide)
  ·obtain⟨_,_,_,⟨es,ck,hm,_⟩,_⟩:=h.away;have:=ho.symm.trans hm
   cases this
 ·refine(hO.block g (za HL.o) fun e=> ?_).trans HL.o
  have ho:=HT.o.obj;rw[←e]at ho;exact absurd (Obj.cells.inj (Option.some.inj (ho.symm.trans HL.o))).2.1 (by decide)
end Go.Proofs.YtjlpkbhgphjpeaaGreatDoor
