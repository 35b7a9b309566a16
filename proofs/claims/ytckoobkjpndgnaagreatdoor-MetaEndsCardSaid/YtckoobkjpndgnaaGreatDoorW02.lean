/- Walks: the memory that lasts: a cell lasts; all that is on its way. -/
import Derived.Test.YtckoobkjpndgnaaGreatDoorW01
import Derived.Deep.MidRow
import Derived.Defers
import Derived.Lib.BufferWrite
import Derived.Laws.CopyOwn
import Derived.Laws.BytesString
import Derived.Deep.AppendLies
set_option linter.unusedVariables false
set_option linter.unusedSimpArgs false
set_option linter.unusedSectionVars false
set_option maxHeartbeats 8000000
set_option maxRecDepth 100000
namespace Go.Proofs.YtckoobkjpndgnaaGreatDoor
open Go.RowKit
open Lib(hid)
open Go.Proofs.Tryz
section
open Go.Maps
theorem setCells_grownM(g:Nat):∀(vs:List Value) (o:Nat) (w:World),w.grownBy (w.setCells g o vs) (some g)
 |[],_,w=>⟨rfl,rfl,rfl,Nat.le_refl _,fun _ _ _=>rfl⟩
 |v::r,o,w=>by
  have h:=setCells_grownM g r (o+1) (w.setCell ⟨g,o,none⟩ v);rw[World.setCells];exact grown_trans (setCell_grown g o w v) h
theorem there_cells{w:World}{g t:Nat}{C:Array Value}(h:w.heap[g]? =some (.cells C t (0,0))){o n:Nat}(ho:o+n≤C.size):w.there g o n:=fun j hj=>by
 refine⟨?_,frozen_of_row _ _ _ _ t h⟩;have:C[o+j]? =some C[o+j]:=Array.getElem?_eq_getElem (by omega)
 rw[cell_of_row _ _ (o+j) C t _ h,this];rfl
theorem sizeCell:(prog.info? 64).map (fun i=>i.size)=some 8:=by kernel_rfl
theorem cellsB_size(S:List UInt8):(cellsB S).size=S.length:=by
 unfold cellsB;rw[List.size_toArray,byteCells_len]
structure BoxB where
 b:Bool
def boxV(x:BoxB):Value:= .bool x.b
theorem elem_bool{v:Value}{y:DataW Unit×List MemPlace}(h:plainElem prog 4 v=some y):∃c:BoxB,v=boxV c:=by
 unfold plainElem at h;rw[underlying4]at h
 cases v with
 |bool c=>exact⟨⟨c⟩,rfl⟩
 |_=>cases h
theorem setCells_splice(b:Nat)(t:TypeId):∀(X:List UInt8) (o:Nat) (w:World) (Z:List UInt8),o+X.length≤Z.length→w.heap[b]? =some (.cells (cellsB Z) t (0,0))→(w.setCells b o (Lib.byteCells X)).heap[b]? =some (.cells (cellsB (Gd.splice Z o X)) t (0,0))
 |[],o,w,Z,_,h=>by rw[Gd.splice_nil];exact h
 |x::X,o,w,Z,hl,h=>by
  have hl':o+(X.length+1)≤Z.length:=hl;have h1:(w.setCell ⟨b,o,none⟩ (.int .u8 x.toNat)).heap[b]? =some (.cells (cellsB (Z.set o x)) t (0,0)):=by
   rw[←cellsB_set];exact Go.heap_setCell_same w b o _ _ _ h
  have h2:=setCells_splice b t X (o+1) (w.setCell ⟨b,o,none⟩ (.int .u8 x.toNat)) (Z.set o x) (by rw[List.length_set];omega) h1;rw[show Gd.splice Z o (x::X)=Gd.splice (Z.set o x) (o+1) X from ?_]
  ·exact h2
  ·apply List.ext_getElem?
   intro i;rw[Gd.splice_get (by show o+(X.length+1)≤_;omega),Gd.splice_get (by rw[List.length_set];omega),List.getElem?_set,List.length_cons];by_cases e:i=o
   ·subst e;rw[if_pos ⟨Nat.le_refl _,by omega⟩,if_neg (by omega),if_pos rfl,if_pos (by omega),Nat.sub_self];rfl
   ·by_cases h3:o≤i∧i<o+(X.length+1)
    ·rw[if_pos h3,if_pos (by omega),show i-o=(i-(o+1))+1 by omega];rfl
    ·rw[if_neg h3,if_neg (by omega),if_neg (fun h=>e h.symm)]
structure MemZ(w:World)(m sb lb ab n:Nat)(S Z:List UInt8):Prop where
 objE:∃c:Nat,w.heap[m]? =some (.cells #[.slice (some ⟨sb,0,none⟩) n c,.slice (some ⟨lb,0,none⟩) n n,.map (some ab)] 68 (0,0))
 seenE:∃T:List Value,w.heap[sb]? =some (.cells (cellsT S T) 64 (0,0))
 last:w.heap[lb]? =some (.cells (cellsB Z) 64 (0,0))
 zlen:Z.length=S.length
 len:S.length=n*8
 small:n≤131072
 lines:n % 8=0
 ne:sb≠lb
theorem MemZ.keep{w w':World}{m sb lb ab n:Nat}{S Z:List UInt8}(h:MemZ w m sb lb ab n S Z)(hb:∀k,k=m∨k=sb∨k=lb→w'.heap[k]? =w.heap[k]?):MemZ w' m sb lb ab n S Z:=
 ⟨⟨_,(hb m (Or.inl rfl)).trans h.objE.choose_spec⟩,⟨_,(hb sb (Or.inr (Or.inl rfl))).trans h.seenE.choose_spec⟩,(hb lb (Or.inr (Or.inr rfl))).trans h.last,h.zlen,h.len,h.small,h.lines,h.ne⟩
theorem MemZ.lts{w:World}{m sb lb ab n:Nat}{S Z:List UInt8}(h:MemZ w m sb lb ab n S Z):∀k,k=m∨k=sb∨k=lb→k<w.heap.size:=by
 rintro k (rfl|rfl|rfl)
 ·exact lt_get h.objE.choose_spec
 ·exact lt_get h.seenE.choose_spec
 ·exact lt_get h.last
theorem MemZ.toX{w:World}{m sb lb ab n q K:Nat}{S Z:List UInt8}{D:DataW Unit}{X:Nat→Prop}(h:MemZ w m sb lb ab n S Z)(hq:q≤K)(ho:w.ownsMap prog 3 (plainElem prog 4) ab q D)(hD:∀kl,has D kl=true→∃j:Nat,j<n∧kl= .int .i64 j)(hT:∀j:Nat,j<n→¬X j→(cel S j=cel Z j∨has D (.int .i64 j)=true)):MemX w m sb lb ab n S K X:=
 ⟨h.objE,h.seenE,⟨Z,q,D,⟨h.zlen,h.last⟩,⟨hq,ho,hD⟩,hT⟩,h.len,h.small,h.lines,h.ne⟩
theorem MemZ.apart{w:World}{m sb lb ab n q:Nat}{S Z:List UInt8}{D:DataW Unit}(h:MemZ w m sb lb ab n S Z)(ho:w.ownsMap prog 3 (plainElem prog 4) ab q D)(hD:∀kl,has D kl=true→∃j:Nat,j<n∧kl= .int .i64 j):(m≠sb∧m≠ab∧sb≠ab)∧lb≠ab∧m≠lb:=
 (h.toX (X:=fun _=>True) (Nat.le_refl q) ho hD fun _ _ hn=>absurd trivial hn).apart
theorem cel_splice{S Z:List UInt8}{k j:Nat}{C:List UInt8}(hC:C.length=8)(hk:k*8+8≤Z.length)(hj:j*8+8≤Z.length):cel (Gd.splice Z (k*8) C) j=if j=k then C else cel Z j:=by
 unfold cel;by_cases e:j=k
 ·subst e;rw[if_pos rfl];have:=Gd.part_splice_same (S:=Z) (k:=j*8) (b:=C) (by omega)
  rw[hC]at this;exact this
 ·rw[if_neg e];exact Gd.part_splice_apart hj (by omega) (by omega)
theorem cels_eq{S Z:List UInt8}{n:Nat}(hS:S.length=n*8)(hZ:Z.length=S.length)(h:∀j,j<n→cel S j=cel Z j):Z=S:=by
 apply List.ext_getElem?
 intro i;by_cases hi:i<n*8
 ·have h1:=h (i/8) (by omega);have h2:=congrArg (fun l=>l[i % 8]?) h1;simp only[cel]at h2;rw[Gd.part_get (by omega),Gd.part_get (by omega),show i/8*8+i % 8=i by omega]at h2;exact h2.symm
 ·rw[List.getElem?_eq_none (by omega),List.getElem?_eq_none (by omega)]
theorem keep_cell{w w':World}{m sb lb ab n r q cnt k:Nat}{S Z:List UInt8}{C:List UInt8}{D:DataW Unit}{left:Lit→Bool}(h:MemZ w m sb lb ab n S Z)(hD:∀kl,has D kl=true→∃j:Nat,j<n∧kl= .int .i64 j)(hr:w.ranges prog 3 (plainElem prog 4) ab r q D left cnt)(hC:C.length=8)(hk:k<n)(hw:w'=w.setCells lb (k*8) (Lib.byteCells C)):
 MemZ w' m sb lb ab n S (Gd.splice Z (k*8) C)∧w'.ranges prog 3 (plainElem prog 4) ab r q D left cnt∧Only (fun k=>k=lb) w w':=by
 have hg:w.grownBy w' (some lb):=by rw[hw];exact setCells_grownM _ _ _ _
 have hb:∀k,k<w.heap.size→k≠lb→w'.heap[k]? =w.heap[k]? :=fun k hk hn=>hg.block k hk (fun e=>hn (Option.some.inj e));have hf:k*8+C.length≤Z.length:=by have:=h.zlen;have:=h.len;omega
 have hl':=setCells_splice lb _ C (k*8) w Z hf h.last;rw[←hw]at hl';have ha:=h.apart hr.owns hD;refine⟨⟨⟨_,(hb m (lt_get h.objE.choose_spec) ha.2.2).trans h.objE.choose_spec⟩,⟨_,(hb sb (lt_get h.seenE.choose_spec) h.ne).trans h.seenE.choose_spec⟩,hl',(Gd.splice_length hf).trans h.zlen,h.len,h.small,h.lines,h.ne⟩,hr.kept hg (fun e=>ha.2.1 (Option.some.inj e).symm) (fun e=> ?_),grown_only hg fun k e=>(Option.some.inj e).symm⟩;obtain⟨es,clock,since,seen,c0,_,_,_,_,hri,_⟩:=hr;have hrl:=Option.some.inj e;rw[hrl,h.last]at hri
 cases hri
theorem keep_any{m sb lb ab n r q cnt:Nat}{S Z:List UInt8}{D:DataW Unit}{left:Lit→Bool}(k:Nat)(hkn:k<n)(w:World)(h:MemZ w m sb lb ab n S Z)(hr:w.ranges prog 3 (plainElem prog 4) ab r q D left cnt)(hD:∀kl,has D kl=true→∃j:Nat,j<n∧kl= .int .i64 j):
 Calls prog 134 #[.pointer (some ⟨m,0,none⟩),.int .i64 k] w fun e w'=>e= .returned (.tuple #[])∧MemZ w' m sb lb ab n S (Gd.splice Z (k*8) (cel S k))∧Only (fun k=>k=lb∨k=ab) w w'∧∃cnt',w'.ranges prog 3 (plainElem prog 4) ab r q (D.del (.int .i64 k)) (fun z=>left z&& !z.sameKey (.int .i64 k)) cnt'∧cnt'≤cnt:=by
 obtain⟨x0,x1,x2,x3,x4,x5,x6,x7,s0,s1,s2,s3,s4,s5,s6,s7⟩:=eight h.len hkn;obtain⟨T,hseen⟩:=h.seenE;have a0:=cellBT hseen s0;have a1:=cellBT hseen s1;have a2:=cellBT hseen s2;have a3:=cellBT hseen s3;have a4:=cellBT hseen s4;have a5:=cellBT hseen s5;have a6:=cellBT hseen s6;have a7:=cellBT hseen s7;obtain⟨cp,hobj⟩:=h.objE;obtain⟨c0,c1,c2⟩:=cell2 hobj;have HM:=hid h;have HR:=hid hr;have HAp:=hid (h.apart hr.owns hD);have HD:=hid hD;have HCel:=hid (cel_eight s0 s1 s2 s3 s4 s5 s6 s7);have Hkn:=hid hkn;have e1:(k:Int)<n:=by omega
 clear s0 s1 s2 s3 s4 s5 s6 s7 h hr hD hobj hseen;have hbd:=(Below.refl w.heap.size w).drew;have HMd:Hid (MemZ w.drew m sb lb ab n S Z):=hid (HM.o.keep fun k hk=>hbd.block k (HM.o.lts k hk));have HRd:Hid (w.drew.ranges prog 3 (plainElem prog 4) ab r q D left cnt):=hid (HR.o.kept (row:=none) ⟨hbd.os,hbd.tape,hbd.output,hbd.size,fun k hk _=>hbd.block k hk⟩ (by simp) (by simp));have HOd:Hid (Only (fun k=>k=lb∨k=ab) w w.drew):=hid (below_only hbd _);clear hbd;go_enter func134,ntmps134;go_wp2;go_still_tail 13,(by kernel_rfl)
 change wpList _ _ _ _ _ w.drew;clear a0 a1 a2 a3 a4 a5 a6 a7 c0 c1 c2;generalize w.drew=wd at HMd HRd HOd⊢;have HCe:=hid fun w' (e:w'=wd.setCells lb (k*8) (Lib.byteCells [x0,x1,x2,x3,x4,x5,x6,x7]))=>keep_cell (k:=k) (C:=[x0,x1,x2,x3,x4,x5,x6,x7]) HMd.o HD.o HRd.o rfl Hkn.o e;have HTh:Hid (wd.there lb (k*8) 8):=hid (there_cells HMd.o.last (by rw[cellsB_size,HM.o.zlen,HM.o.len];omega));have HKey:=hid (keyOf_int_mk (P:=prog) underlying3 (q:= .i64) (a:=(k:Int)) (nat_I64 (by have:=HM.o.small;omega)))
 go_wp2_with(first|(refine wpList_store_mid rfl 64 _ _ rfl lb (k*8) #[.int .u8 x0.toNat,.int .u8 x1.toNat,.int .u8 x2.toNat,.int .u8 x3.toNat,.int .u8 x4.toNat,.int .u8 x5.toNat,.int .u8 x6.toNat,.int .u8 x7.toNat] rfl rfl HTh.o sizeCell (by simp[Value.oneCell']) ?_;generalize hwe:(World.setCells _ _ _ _)=we;have HE:=hid (HCe.o we (by rw[←hwe];rfl));clear hwe;obtain⟨cpe,hobje⟩:=HE.o.1.objE;obtain⟨d0,d1,d2⟩:=cell2 hobje;clear hobje)|(at_delete;refine wpList_delete_ranges _ rfl _ _ 66 3 rfl 4 intLaw underlying66 (plainElem prog 4) ab r q D _ cnt rfl HE.o.2.1 (.int .i64 k) (.int .i64 k) rfl HKey.o ?_;intro w5 cnt5 hrg5 hle5 hturn5))
 have HR5:=hid (And.intro hrg5 hle5);have HM5:Hid (MemZ w5 m sb lb ab n S (Gd.splice Z (k*8) (cel S k))):=hid (by
  rw[HCel.o];refine HE.o.1.keep fun p hp=>(only_turned hturn5).block p (HE.o.1.lts p hp) fun e=> ?_;have ha:=HAp.o;rcases hp with rfl|rfl|rfl
  ·exact ha.1.2.1 e
  ·exact ha.1.2.2 e
  ·exact ha.2.1 e)
 have HO5:Hid (Only (fun k=>k=lb∨k=ab) w w5):=hid ((HOd.o.trans HE.o.2.2 fun _ _ e=>Or.inl e).trans (only_turned hturn5) fun _ _ e=>Or.inr e);clear hrg5 hle5 hturn5 d0 d1 d2;go_wp2;go_end0
 exact⟨rfl,HM5.o,HO5.o,cnt5,HR5.o.1,HR5.o.2⟩
theorem fence_wp{m sb lb ab n K:Nat}{S:List UInt8}(w:World)(h:MemT w m sb lb ab n S K)(c:Code)(hb:f97.body=some c):
 c.wp prog (bodyPost prog f97 fun e w'=>e= .returned (.tuple #[])∧MemAt w' m sb lb ab n S K∧Only (fun k=>k=lb∨k=ab) w w') {tmps:=#[.pointer (some ⟨m,0,none⟩)]++Array.replicate (f97.ntmps-1) undef,defers:=[]} w:=by
 cases hb
 obtain⟨cp,hobj⟩:=h.objE;obtain⟨c0,c1,c2⟩:=cell2 hobj;clear hobj;obtain⟨Z0,q,D,hZ0,⟨hq,hown,hD⟩,hT0⟩:=h.rest;have HM:=hid h;have HD:=hid (And.intro hq hD);have HOwn:=hid hown;have HT0:=hid hT0;have HZ0:Hid (MemZ w m sb lb ab n S Z0):=hid ⟨h.objE,h.seenE,hZ0.2,hZ0.1,h.len,h.small,h.lines,h.ne⟩;clear h hq hown hD hT0 hZ0;simp only[ntmps97,List.size_toArray,List.length_cons,List.length_nil,Nat.reduceAdd,Nat.reduceSub,Array.replicate_succ,Array.replicate_zero,List.push_toArray,List.append_toArray,List.nil_append,List.cons_append];go_wp2_with(at_range;refine wpList_range_own _ rfl _ 66 rfl 3 4 intLaw underlying66 _ _ _ D rfl HOwn.o ?_;intro w0 hrg0 hg0 hs0)
 have HG0:=hid hg0;clear c0 c1 c2 hs0 hg0;go_frame
 go_loopw[] (fun wr=>∃(D':DataW Unit) (left:Lit→Bool) (cnt:Nat) (Z:List UInt8),wr.ranges prog 3 (plainElem prog 4) ab w.heap.size q D' left cnt∧Hid (∀kl,has D' kl=true→∃j:Nat,j<n∧kl= .int .i64 j)∧Hid (∀kl,left kl=true→∃j:Nat,j<n∧kl= .int .i64 j)∧Hid (MemZ wr m sb lb ab n S Z∧∀j:Nat,j<n→cel S j=cel Z j∨left (.int .i64 j)=true)∧Hid (Only (fun k=>k=lb∨k=ab) w wr))
  (fun wr=>wr.rangeLeft ab w.heap.size)
 case atStart=>
  have hO:Only (fun k=>k=lb∨k=ab) w w0:=grown_only HG0.o fun k e=>by cases e
  exact⟨D,_,_,Z0,hrg0,hid HD.o.2,hid HD.o.2,hid ⟨HZ0.o.keep fun k hk=>HG0.o.block k (HZ0.o.lts k hk) (by simp),fun j hj=>HT0.o j hj id⟩,hid hO⟩
 case round=>
  obtain⟨D',left,cnt,Z,hrg,HD',HL,HMr,HO⟩:=hrel;go_wp2_with(at_next;refine wpList_next_ranges _ rfl _ rfl 3 intLaw (plainElem prog 4) (Value.int .i64) boxV (fun key kl hk=>by obtain⟨x,hx,_⟩:=keyOf_int_inv underlying3 hk;exact⟨x,hx⟩) (fun v y hv=>elem_bool hv) ab w.heap.size q _ _ _ rfl hrg ?_ ?_)
  ·intro hc0 hl0;have HOw:=hid hrg.owns;have HZS:Hid (Z=S):=hid (cels_eq HMr.o.1.len HMr.o.1.zlen fun j hj=>(HMr.o.2 j hj).elim id fun e=>by rw[hl0]at e;cases e);clear hrg hl0;go_wp2;go_end0
   refine⟨rfl,MemAt.of (HMr.o.1.toX HD.o.1 HOw.o HD'.o fun j hj _=> ?_) ?_,HO.o⟩
   ·left;rw[HZS.o]
   ·have:=HMr.o.1.last
    rw[HZS.o]at this;exact this
  ·intro x c kl yd yp w2 cnt2 hkey hlk hv hat hrg2 hlt hg2 hs2 hen;skip
   obtain⟨x',ex,rfl,hwx⟩:=keyOf_int_inv underlying3 hkey
   cases ex
   obtain⟨j,hj,ej⟩:=HL.o _ hlk;obtain rfl:x=(j:Int):=by cases ej;rfl
   have hir:∀p,p=m∨p=sb∨p=lb∨p=ab→p≠w.heap.size:=fun p hp e=>by
    have:=HM.o.lts p hp
    omega
   have HM2:Hid (MemZ w2 m sb lb ab n S Z):=hid (HMr.o.1.keep fun p hp=>hg2.block p (HMr.o.1.lts p hp) (fun e=>hir p (by rcases hp with hp|hp|hp<;>simp[hp]) (Option.some.inj e)));have hen2:(Instr.entry (.pointer (some ⟨w.heap.size,0,none⟩))).run prog w2= .ok (.tuple #[.int .i64 j,boxV c]) w2:=hen;have HLeft:Hid (wr.rangeLeft ab w.heap.size=cnt):=hrg.left_eq;have HLt:=hid hlt;have HKp:=hid (keep_any j hj w2 HM2.o hrg2 HD'.o);have HO2:Hid (Only (fun k=>k=lb∨k=ab) w w2):=hid ⟨hg2.os.trans HO.o.os,hg2.tape.trans HO.o.tape,hg2.output.trans HO.o.output,Nat.le_trans HO.o.size hg2.size,fun k hk hn=>(hg2.block k (Nat.lt_of_lt_of_le hk HO.o.size) (by simp;omega)).trans (HO.o.block k hk hn)⟩;clear hkey hlk hv hat hrg2 hlt hg2 hs2 hen hrg hir ej hwx;go_wp2_with fail
   refine HKp.o.mono ?_;rintro e w3 ⟨rfl,hM3,hO3,cnt3,hr3,hc3⟩;rw[strike_twice]at hr3;have HM3:Hid (MemZ w3 m sb lb ab n S (Gd.splice Z (j*8) (cel S j))∧∀i:Nat,i<n→cel S i=cel (Gd.splice Z (j*8) (cel S j)) i∨(left (.int .i64 i)&& !(Lit.int .i64 i).sameKey (.int .i64 j))=true):=hid ⟨hM3,fun i hi=>by
    have hz:=HMr.o.1.zlen;have hl:=HMr.o.1.len;have hc:(cel S j).length=8:=Gd.part_length (by omega);rw[cel_splice (S:=S) hc (by omega) (by omega)];by_cases e:i=j
    ·subst e;rw[if_pos rfl];exact Or.inl rfl
    ·rw[if_neg e];refine(HMr.o.2 i hi).imp id fun e2=> ?_
     rw[e2,Bool.true_and];rw[Bool.not_eq_true'];refine Bool.eq_false_iff.2 fun e3=>e ?_;have e4:=Go.WideAt.sameKey_eq e3;have e5:(i:Int)=j:=by cases e4;rfl
     omega⟩
   have HO3:=hid (HO2.o.trans hO3 fun _ _ e=>e);have HD3:Hid (∀kl,has (D'.del (.int .i64 j)) kl=true→∃j:Nat,j<n∧kl= .int .i64 j):=hid fun kl hkl=>HD'.o kl (has_del_le hkl);have HL3:Hid (∀kl,(left kl&& !kl.sameKey (.int .i64 j))=true→∃j:Nat,j<n∧kl= .int .i64 j):=hid fun kl hkl=>HL.o kl (by simp only[Bool.and_eq_true]at hkl;exact hkl.1);have HMs:Hid (w3.rangeLeft ab w.heap.size<wr.rangeLeft ab w.heap.size):=hid (by rw[hr3.left_eq,HLeft.o];exact Nat.lt_of_le_of_lt hc3 HLt.o);clear hM3 hO3 HKp hen2 hc3;go_wp2;go_roundw
   case rel=>exact⟨_,_,cnt3,_,hr3,HD3,HL3,HM3,HO3⟩
   case measure=>exact HMs.o
theorem fence_at{m sb lb ab n K:Nat}{S:List UInt8}(w:World)(h:MemT w m sb lb ab n S K):
 Calls prog 97 #[.pointer (some ⟨m,0,none⟩)] w fun e w'=>e= .returned (.tuple #[])∧MemAt w' m sb lb ab n S K∧Only (fun k=>k=lb∨k=ab) w w':=
 calls_of_wp func97 rfl (fence_wp w h _ rfl)
theorem fence_atD{m sb lb ab n K:Nat}{S:List UInt8}(u:FrameMode)(w:World)(h:MemT w m sb lb ab n S K):
 CallsD prog 97 #[.pointer (some ⟨m,0,none⟩)] u w fun e u' w'=>u'=u∧e= .returned (.tuple #[])∧MemAt w' m sb lb ab n S K∧Only (fun k=>k=lb∨k=ab) w w':=
 callsD_of_wp func97 rfl (fence_wp w h _ rfl)
end
def paV(p:Gd.Pa):Value:= .agg #[.int .i64 p.1,.string ⟨p.2.toArray⟩]
theorem run_copy_min{P:Program}(w:World)(dT sT ty elem:TypeId)(g o dLen dCap:Nat)(s:ByteArray)(cur:Array Value)(t:TypeId)
 (hu:P.underlying dT=some (.slice elem))(hs:(P.info? elem).map (·.size)=some 1)(hg:w.heap[g]? =some (.cells cur t (0,0)))(hle:dLen≤s.size)(hfit:o+dLen≤cur.size):
 (Builtin.copy_ #[dT,sT] ty #[.slice (some ⟨g,o,none⟩) dLen dCap,.string s]).run P w=
   .ok (goInt dLen) (w.setRow g (cur.toList.take o++Lib.byteCells (s.data.toList.take dLen)++cur.toList.drop (o+dLen)).toArray):=by
 have hss:s.size=s.data.toList.length:=Lib.size_eq s;have hlen:(Lib.byteCells (s.data.toList.take dLen)).length=dLen:=by rw[Lib.byteCells_length,List.length_take];omega
 have hst:=run_storeCells_at P g o t (Lib.byteCells (s.data.toList.take dLen)) 0 cur w hg (by rw[hlen];simpa using hfit) (Lib.byteCells_one _);have hmin:Nat.min s.size dLen=dLen:=Nat.min_eq_right hle;have htk:List.take dLen (List.map (fun b:UInt8=>Value.int IntKind.u8 (b.toNat:Int)) s.data.toList)=Lib.byteCells (s.data.toList.take dLen):=by
  rw[←List.map_take];rfl
 rw[hlen]at hst;simp only[Nat.add_zero]at hst
 cases hq:P.info? elem with
 |none=>simp[hq]at hs
 |some i=>
  simp[Builtin.copy_,run_underlying hu,Builtin.lenOf,Builtin.firstCells,sizeOf,typeInfo,hq,hmin];rw[htk,hst];simp[Result.andThen]
theorem wpList_copy_min{P:Program}(w:World){ops:Array Oper}{rest:List Oper}{o:Oper}{a:Act}{Q:Exit→Act→World→Prop}(hgd:o.guard=none)(d s:Operand)(dT sT:TypeId)(ho:o.op= .call {callee:= .builtin .copy,args:=#[d,s],argTypes:=#[dT,sT]})
 (elem:TypeId)(g k dLen dCap:Nat)(str:ByteArray)(cur:Array Value)(t:TypeId)(hu:P.underlying dT=some (.slice elem))(hs:(P.info? elem).map (·.size)=some 1)(hg:w.heap[g]? =some (.cells cur t (0,0)))(hle:dLen≤str.size)(hfit:k+dLen≤cur.size)
 (hd:a.eval d= .slice (some ⟨g,k,none⟩) dLen dCap)(hx:a.eval s= .string str)
 (h:wpList P ops Q rest (a.put o.dst (goInt dLen)) (w.setRow g (cur.toList.take k++Lib.byteCells (str.data.toList.take dLen)++cur.toList.drop (k+dLen)).toArray)):wpList P ops Q (o::rest) a w:=by
 refine wpList_plain hgd fun K hK=> ?_;have hr:=run_copy_min (P:=P) w dT sT o.type elem g k dLen dCap str cur t hu hs hg hle hfit;unfold Oper.wp execOp;simp only[ho,resolve,invoke,builtin,Sem.run_bind,Sem.run_pure,Result.andThen_ok,List.map_toArray,List.map_cons,List.map_nil,hd,hx,hr];exact hK _ _ h
theorem byteCells_take(L:List UInt8)(k:Nat):Lib.byteCells (L.take k)=(Lib.byteCells L).take k:=List.map_take
theorem byteCells_drop(L:List UInt8)(k:Nat):Lib.byteCells (L.drop k)=(Lib.byteCells L).drop k:=List.map_drop
theorem own_splice{w w':World}{B g n c k:Nat}{cur:Array Value}{L X:List UInt8}(hB:B≤g)(hn:n=L.length)(hnc:n≤c)(hcm:c≤maxLen)(hcs:cur.size=c*1)(hcur:cur.toList.take (n*1)=Lib.byteCells L)(hk:k+X.length≤n)
 (hg:w.heap[g]? =some (.cells cur 5 (0,0)))(hw:w'=w.setRow g (cur.toList.take k++Lib.byteCells X++cur.toList.drop (k+X.length)).toArray):OwnB w' B (.slice (some ⟨g,0,none⟩) n c) (Gd.splice L k X):=by
 have hl:(Gd.splice L k X).length=n:=by rw[Gd.splice_length (S:=L) (k:=k) (b:=X) (by omega)];exact hn.symm
 rw[Nat.mul_one]at hcur hcs;have hkc:k+X.length≤cur.toList.length:=by rw[Array.length_toList (xs:=cur)];omega
 refine⟨by rw[byteCells_len,Nat.mul_one],Or.inr ⟨g,c,_,by rw[hl],hB,by rw[hw];exact setRow_heap w g cur _ _ _ hg,by omega,hcm,?_,?_⟩⟩
 ·rw[List.size_toArray,List.length_append,List.length_append,List.length_take,List.length_drop,byteCells_len,Array.length_toList];rw[Array.length_toList]at hkc;omega
 ·rw[hl,Nat.mul_one];unfold Gd.splice;rw[←byteCells_app,←byteCells_app,byteCells_take,byteCells_drop,←hcur];have e1:(cur.toList.take n).take k=cur.toList.take k:=by rw[List.take_take,Nat.min_eq_left (by omega)]
  have hk1:(cur.toList.take k).length=k:=by rw[List.length_take];omega
  rw[e1,List.drop_take,List.append_assoc,List.take_append,hk1,List.take_of_length_le (l:=cur.toList.take k) (by omega),List.take_append,byteCells_len,List.take_of_length_le (l:=Lib.byteCells X) (by rw[byteCells_len];omega),show n-k-X.length=n-(k+X.length) by omega]
theorem infoU8s:(prog.info? 5).map (·.size)=some 1:=by kernel_rfl
theorem over_any(v:Value)(L:List UInt8)(a:Nat)(p:Gd.Pa)(B:Nat)(w:World)(hB:B≤w.heap.size)(hown:OwnB w B v L)(hl:L.length≤100000)(ha:a≤2000000)(hp:p.1≤2000000)(hp2:p.2.length≤256):
 Calls prog 81 #[v,.int .i64 a,paV p] w fun e w'=>e= .returned (.tuple #[])∧OwnB w' B v (Gd.over L a p)∧Below B w w':=by
 obtain⟨A,c,hv,_⟩:=hown.at_;obtain⟨wb,hwb⟩:=nm (w.alloc (.cells #[.int .i64 p.1,.string ⟨p.2.toArray⟩] 152));have hbb:Below w.heap.size w wb:=by rw[hwb];exact(Below.refl _ _).alloc (Nat.le_refl _) _
 have hbx:wb.heap[w.heap.size]? =some (.cells #[.int .i64 p.1,.string ⟨p.2.toArray⟩] 152 (0,0)):=by rw[hwb];exact heap_alloc_new _ _
 obtain⟨bx,hbxe⟩:=nm w.heap.size;rw[←hbxe]at hbx;have c0:=cell_of_row wb bx 0 _ _ _ hbx;have c1:=cell_of_row wb bx 1 _ _ _ hbx;have HO:=hid (hown.keep hbb);have HBb:=hid hbb;have HWb:=hid hwb;have Hbx:=hid hbxe.symm;obtain⟨s,hs⟩:∃s:ByteArray,s=⟨p.2.toArray⟩:=⟨_,rfl⟩;rw[←hs]at HWb c1;have hsz:s.size=p.2.length:=by rw[hs];simp[ByteArray.size]
 have Hs:=hid hs;obtain⟨n,hn⟩:=nm L.length;rw[←hn]at hv hl;have Hn:=hid hn;obtain⟨p1,hp1⟩:=nm p.1;rw[←hp1]at HWb c0 hp;have Hp1:=hid hp1;have Hsz:=hid hsz;have hss:s.size≤256:=by omega
 unfold paV;rw[←hs,←hp1];subst hv;clear hown hwb hbb hbx hbxe hs hn hp1 hsz hp2;go_enter func81,ntmps81;go_upto_region 1 with fail
 rw[←HWb.o];rw[Hbx.o];go_upto_region 3 with fail
 obtain⟨F,hF⟩:=nm (Gd.overFrom a p);obtain⟨T,hT⟩:=nm (Gd.overTo a L.length p);have HF:=hid hF;have HT:=hid hT;have ef:(if a<p1 then(p1:Int)else a)=F:=by
  rw[hF,Hp1.o];unfold Gd.overFrom;split<;>omega
 have et:(if(p1:Int)+s.size<(a:Int)+n then(p1:Int)+s.size else(a:Int)+n)=T:=by
  rw[hT,Hp1.o,Hsz.o,Hn.o];unfold Gd.overTo;split<;>omega
 rw[ef,et];clear ef et hF hT;by_cases hlt:F<T
 ·have hov:Gd.over L a p=Gd.splice L (F-a) (Gd.part p.2 (F-p1) (T-F)):=by
   unfold Gd.over;rw[←HF.o,←HT.o,if_pos hlt,Hp1.o]
  have h1:a≤F:=by rw[HF.o];unfold Gd.overFrom;omega
  have h2:p1≤F:=by rw[HF.o,Hp1.o];unfold Gd.overFrom;omega
  have h3:T≤a+n:=by rw[HT.o,Hn.o];unfold Gd.overTo;omega
  have h4:T≤p1+s.size:=by rw[HT.o,Hp1.o,Hsz.o];unfold Gd.overTo;omega
  obtain⟨g,cap,cur,hvv,hBg,hg,hnc,hcm,hcs,hcur⟩:∃g cap cur,Value.slice A n c= .slice (some ⟨g,0,none⟩) n cap∧B≤g∧wb.heap[g]? =some (.cells cur 5 (0,0))∧n≤cap∧cap≤maxLen∧cur.size=cap*1∧cur.toList.take (n*1)=Lib.byteCells L:=by
   have h:=HO.o.2;rw[←Hn.o]at h;rcases h with⟨_,h0⟩|⟨g,cap,cur,h⟩
   ·omega
   ·exact⟨g,cap,cur,h⟩
  cases hvv
  have HOv:=hid hov;have HG:=hid (And.intro hBg (And.intro hg (And.intro hcs hcur)));have HH:=hid (And.intro h1 (And.intro h2 (And.intro h3 (And.intro h4 hlt))));have i1:(a:Int)≤F:=by omega
  have i2:(p1:Int)≤F:=by omega
  have i3:(T:Int)≤(a:Int)+n:=by omega
  have i4:(T:Int)≤(p1:Int)+s.size:=by omega
  have i5:(F:Int)<T:=by omega
  obtain⟨FA,hFA⟩:∃FA:Nat,FA=F-a:=⟨_,rfl⟩;obtain⟨TA,hTA⟩:∃TA:Nat,TA=T-a:=⟨_,rfl⟩;obtain⟨FP,hFP⟩:∃FP:Nat,FP=F-p1:=⟨_,rfl⟩;have HFA:=hid (And.intro hFA (And.intro hTA hFP));have u1:IntKind.i64.wrap ((F:Int)-a)=(FA:Nat):=by rw[IntWalk.i64_in _ (by omega)];omega
  have u2:IntKind.i64.wrap ((T:Int)-a)=(TA:Nat):=by rw[IntWalk.i64_in _ (by omega)];omega
  have u3:IntKind.i64.wrap ((F:Int)-p1)=(FP:Nat):=by rw[IntWalk.i64_in _ (by omega)];omega
  have i6:(FA:Int)≤TA:=by omega
  have i9:Hid (FA<TA):=hid (by omega);have i7:(TA:Int)≤c:=by omega
  have i8:(FP:Int)≤s.size:=by omega
  clear hFA hTA hFP i1 i2 i3 i4;clear hov hBg hg hcs hcur h1 h2 h3 h4 hlt;go_wp2;go_still_tail 15,(by kernel_rfl)
  change wpList _ _ _ _ _ wb.drew;rw[if_neg (show ¬c=FA by have:=i9.o;omega)];have hX:((s.extract FP s.size).data.toList.take (TA-FA))=Gd.part p.2 FP (TA-FA):=by
   rw[ba_tail];unfold Gd.part;rw[Hs.o]
  have hXl:(Gd.part p.2 FP (TA-FA)).length=TA-FA:=Gd.part_length (by have:=HFA.o;have:=HH.o;have:=Hsz.o;omega);have hdr:Below wb.heap.size wb wb.drew:=(Below.refl _ wb).drew;refine wpList_copy_min wb.drew rfl _ _ 23 9 rfl 5 g FA (TA-FA) (c-FA) (s.extract FP s.size) cur 5 underlying23 infoU8s ((hdr.block g (lt_get HG.o.2.1)).trans HG.o.2.1) (by have h0:=HH.o;have h1:=HFA.o;rw[ByteArray.size_extract];omega) (by have h0:=HH.o;have h1:=HFA.o;have h2:=HG.o.2.2.1;omega) rfl rfl ?_;rw[hX];generalize hwz:(World.setRow _ _ _)=wz;have HB5:Hid (Below B w wz):=hid (by rw[←hwz];exact below_setRow ((HBb.o.mono hB).trans (hdr.mono (Nat.le_trans hB HBb.o.size))) HG.o.1 _);have HO5:Hid (OwnB wz B (.slice (some ⟨g,0,none⟩) n c) (Gd.over L a p)):=hid (by
   rw[HOv.o];have e1:F-a=FA:=HFA.o.1.symm;have e2:F-p1=FP:=HFA.o.2.2.symm;have e3:T-F=TA-FA:=by have:=HH.o;have:=HFA.o;omega
   rw[e1,e2,e3];exact own_splice HG.o.1 Hn.o hnc hcm HG.o.2.2.1 HG.o.2.2.2 (by rw[hXl];have:=HH.o;have:=HFA.o;omega) ((hdr.block g (lt_get HG.o.2.1)).trans HG.o.2.1) (by rw[←hwz,hXl]))
  clear hX hXl hdr hwz;go_wp2;go_end0
  exact⟨rfl,HO5.o,HB5.o⟩
 ·have hov:Gd.over L a p=L:=by
   unfold Gd.over;rw[←HF.o,←HT.o,if_neg hlt]
  have HOv:=hid hov;have h5:(T:Int)≤F:=by omega
  clear hov hlt;go_wp2;go_end0
  rw[HOv.o];exact⟨rfl,HO.o,HBb.o.mono hB⟩
namespace Gd
theorem over_length(b:List UInt8)(k:Nat)(p:Pa):(over b k p).length=b.length:=by
 unfold over;split
 ·rename_i h
  have h1:overTo k b.length p≤k+b.length:=by unfold overTo;omega
  have h2:overTo k b.length p≤p.1+p.2.length:=by unfold overTo;omega
  have h3:k≤overFrom k p:=by unfold overFrom;omega
  have h4:p.1≤overFrom k p:=by unfold overFrom;omega
  rw[splice_length];rw[part_length (by omega)];omega
 ·rfl
theorem overs_length:∀(P:List Pa) (b:List UInt8) (k:Nat),(overs b k P).length=b.length
 |[],_,_=>rfl
 |p::r,b,k=>by
  show(overs (over b k p) k r).length=_
  rw[overs_length r,over_length]
theorem overs_snoc(b:List UInt8)(k:Nat)(P:List Pa)(p:Pa):overs b k (P++[p])=over (overs b k P) k p:=by
 unfold overs;rw[List.foldl_append];rfl
theorem take_next{α:Type}{P:List α}{i:Nat}{p:α}(h:P[i]? =some p):P.take (i+1)=P.take i++[p]:=by
 rw[List.take_add_one,h];rfl
end Gd
def paC(p:Gd.Pa):List Value:=[.int .i64 p.1,.string ⟨p.2.toArray⟩]
def flatP(P:List Gd.Pa):List Value:=P.flatMap paC
theorem flatP_snoc(P:List Gd.Pa)(p:Gd.Pa):flatP P++paC p=flatP (P++[p]):=by
 unfold flatP;rw[List.flatMap_append];simp
theorem flatP_get:∀{P:List Gd.Pa} {k:Nat} {p:Gd.Pa} (i:Nat),P[k]? =some p→i<2→(flatP P)[k*2+i]? =(paC p)[i]?
 |[],k,p,i,hx,_=>by simp at hx
 |a::r,0,p,i,hx,hi=>by
  simp at hx
  subst hx;unfold flatP;rw[List.flatMap_cons,List.getElem?_append_left (by show 0*2+i<2;omega),Nat.zero_mul,Nat.zero_add]
 |a::r,k+1,p,i,hx,hi=>by
  unfold flatP;rw[List.flatMap_cons,List.getElem?_append_right (by show 2≤_;omega)];have:=flatP_get (P:=r) (k:=k) (p:=p) i (by simpa using hx) hi
  unfold flatP at this;rw[←this];congr 1
  show(k+1)*2+i-2=_
  omega
theorem row_pa{w:World}{B e:Nat}{v:Value}{P:List Gd.Pa}(h:w.ownsRow B e 2 v P.length (flatP P)):∃A c,v= .slice A P.length c∧((A=none∧P=[])∨∃b,A=some ⟨b,0,none⟩∧b<w.heap.size∧∀(k:Nat) (p:Gd.Pa),P[k]? =some p→w.cell? ⟨b,k*2,none⟩=some (.int .i64 p.1)∧w.cell? ⟨b,k*2+1,none⟩=some (.string ⟨p.2.toArray⟩)):=by
 have hr:=h;rcases h.2 with⟨rfl,h0⟩|⟨b,cap,cur,rfl,hb,hg,hc,_,_,_⟩
 ·exact⟨none,0,by rw[h0],Or.inl ⟨rfl,List.eq_nil_of_length_eq_zero h0⟩⟩
 ·refine⟨_,cap,rfl,Or.inr ⟨b,rfl,lt_get hg,fun k p hp=> ?_⟩⟩;have hk:=(List.getElem?_eq_some_iff.1 hp).1;exact⟨(hr.cellAt (k*2) (by omega)).trans (flatP_get 0 hp (by omega)),(hr.cellAt (k*2+1) (by omega)).trans (flatP_get 1 hp (by omega))⟩
def LogAt(w:World)(g m:Nat)(la ls:Nat):Prop:=w.heap[g]? =some (.cells #[.pointer (some ⟨m,0,none⟩),.int .i64 la,.int .i64 ls] 92 (0,0))
structure TxnAt(w:World)(t m g:Nat)(pv:Value)(P:List Gd.Pa):Prop where
 obj:w.heap[t]? =some (.cells #[.pointer (some ⟨m,0,none⟩),.pointer (some ⟨g,0,none⟩),pv] 89 (0,0))
 row:w.ownsRow 0 152 2 pv P.length (flatP P)
structure PaOk(n:Nat)(P:List Gd.Pa):Prop where
 fit:Gd.Fit n P
 len:∀p∈P,p.2.length≤256
 many:P.length≤64
def TxnF[MemNo](t:Nat)(S:List UInt8)(P:List Gd.Pa)(K:Nat)(w:World)(F:Nat→Prop):Prop:=
 ∃m g pv,MemF m S K w F∧TxnAt w t m g pv P∧LogAt w g m 2688 4096∧F t∧F g∧(∀q,pv.ownBlock=some q→F q)∧PaOk S.length P∧m=MemNo.no
theorem TxnF.held[MemNo](t:Nat)(S:List UInt8)(P:List Gd.Pa)(K:Nat):Held (TxnF t S P K) where
 keep:=by
  rintro w w' F ⟨m,g,pv,hM,hT,hL,ft,fg,fq,hP,hmn⟩ hs hb;refine⟨m,g,pv,(MemF.held m S K).keep hM hs hb,⟨(hb t (lt_get hT.obj) ft).trans hT.obj,?_⟩,(hb g (lt_get hL) fg).trans hL,ft,fg,fq,hP,hmn⟩;exact⟨hT.row.1,hT.row.2.imp id fun⟨q,cap,cur,hv,hB,hg,hr⟩=>⟨q,cap,cur,hv,hB,(hb q (lt_get hg) (fq q (by rw[hv];rfl))).trans hg,hr⟩⟩
 mono:=by
  rintro w F G ⟨m,g,pv,hM,hT,hL,ft,fg,fq,hP,hmn⟩ hG;refine⟨m,g,pv,(MemF.held m S K).mono hM hG,hT,hL,hG t (lt_get hT.obj) ft,hG g (lt_get hL) fg,fun q hq=>hG q (own_block hT.row q hq).2 (fq q hq),hP,hmn⟩
theorem tload_any[MemNo]{t K:Nat}{S:List UInt8}{P:List Gd.Pa}{F:Nat→Prop}(a k:Nat)(w:World)(h:TxnF t S P K w F)(hS:S.length≤1000000)(hak:a+k≤S.length)(hk:k≤100000):
 Calls prog 37 #[.pointer (some ⟨t,0,none⟩),.int .i64 a,.int .i64 k] w (Loads w (Gd.part (Gd.view S P) a k)):=by
 obtain⟨m,g,pv,hM,hT,hL,ft,fg,fq,hP,-⟩:=h;have HLd:=hid (mload_any a k w hM hak hk);obtain⟨c0,_,_⟩:=cell2 hT.obj;obtain⟨A,c,rfl,hrow⟩:=row_pa hT.row;have HT:=hid hT.obj;have HR:=hid hrow;have HP:=hid hP;have Hv:Hid (Gd.overs (Gd.part S a k) a P=Gd.part (Gd.view S P) a k):=hid (Gd.overs_part hak hP.fit);rw[←Hv.o];have HS:=hid (And.intro hS hak);obtain⟨n,hn⟩:=nm P.length;rw[←hn]at HT;have Hn:=hid hn;have hn64:n≤64:=by rw[hn];exact hP.many
 have ha:a≤1000000:=by omega
 clear hM hL ft fg fq hT hrow hP hS hak hn;go_enter func37,ntmps37;go_wp2_with fail
 refine HLd.o.mono ?_;rintro e w1 ⟨v,rfl,ho1,hb1⟩;have HO1:=hid ho1;have HB1:=hid hb1;obtain⟨_,_,d2⟩:=cell2 ((hb1.block t (lt_get HT.o)).trans HT.o);clear ho1 hb1 HLd c0;go_upto_region 5 with fail
 go_loopw[30] (fun z wr=>∃i:Nat,z= .int .i64 i∧i≤n∧Hid (OwnB wr w.heap.size v (Gd.overs (Gd.part S a k) a (P.take i)))∧Hid (Below w.heap.size w wr)) (fun z _=>n-(intOf z).toNat)
 case atStart=>exact⟨0,rfl,by omega,HO1,HB1⟩
 case round=>
  obtain⟨i,rfl,hin,HO,HB⟩:=hrel;by_cases hlt:i<n
  ·obtain⟨p,hp⟩:∃p,P[i]? =some p:=⟨_,List.getElem?_eq_getElem (by have:=Hn.o;omega)⟩;rcases HR.o with⟨_,h0⟩|⟨b,rfl,hbl,hcell⟩
   ·rw[h0]at hp;simp at hp
   obtain⟨q0,q1⟩:=hcell i p hp;have r0:=(HB.o.cell (p:=⟨b,i*2,none⟩) hbl).trans q0;have r1:=(HB.o.cell (p:=⟨b,i*2+1,none⟩) hbl).trans q1;have h1:(i:Int)<n:=by omega
   have h0:(0:Int)≤i:=by omega
   have HX:=hid hp;have Hpm:=hid (List.mem_of_getElem? hp);clear hp hcell q0 q1 hlt;go_upto_region 7 with fail
   obtain⟨wz,hwz⟩:=nm (wr.alloc (.cells #[.int .i64 p.1,.string ⟨p.2.toArray⟩] 152));rw[←hwz];have hbz:Below wr.heap.size wr wz:=by rw[hwz];exact(Below.refl _ _).alloc (Nat.le_refl _) _
   have hz:wz.heap[wr.heap.size]? =some (.cells #[.int .i64 p.1,.string ⟨p.2.toArray⟩] 152 (0,0)):=by rw[hwz];exact heap_alloc_new _ _
   have z0:=cell_of_row wz wr.heap.size 0 _ _ _ hz;have z1:=cell_of_row wz wr.heap.size 1 _ _ _ hz;have HBz:Hid (Below w.heap.size w wz):=HB.t hbz;have hpf:=HP.o.fit p Hpm.o;have HOv:=hid (over_any v (Gd.overs (Gd.part S a k) a (P.take i)) a p w.heap.size wz HBz.o.size (HO.o.keep hbz) (by rw[Gd.overs_length,Gd.part_length HS.o.2];exact hk) (by omega) (by have:=HS.o.1;omega) (HP.o.len p Hpm.o));unfold paV at HOv;clear hwz hbz hz r0 r1 hpf;go_wp2_with fail
   refine HOv.o.mono ?_;rintro e w3 ⟨rfl,hO3,hB3⟩;have HO3:Hid (OwnB w3 w.heap.size v (Gd.overs (Gd.part S a k) a (P.take (i+1)))):=hid (by rw[Gd.take_next HX.o,Gd.overs_snoc];exact hO3);have HB3:=hid (HBz.o.trans hB3);clear hO3 hB3 HOv z0 z1;go_wp2;go_roundw
   case rel=>exact⟨i+1,by go_num,by omega,HO3,HB3⟩
   case measure=>simp[intOf];omega
  ·obtain rfl:i=n:=by omega
   clear hlt;go_wp2;go_ret2
   have:=HO.o
   rw[List.take_of_length_le (by have:=Hn.o;omega)]at this;exact⟨v,rfl,this,HB.o⟩
theorem tload_bad[MemNo]{t K:Nat}{S:List UInt8}{P:List Gd.Pa}{F:Nat→Prop}(a k:Int)(ha:I64 a)(hk:I64 k)(w:World)(h:TxnF t S P K w F)(hn:¬(0≤a∧0≤k∧a+k≤S.length)):
 Calls prog 37 #[.pointer (some ⟨t,0,none⟩),.int .i64 a,.int .i64 k] w (Fails w):=by
 obtain⟨m,g,pv,hM,hT,-⟩:=h;have HLd:=hid (mload_bad a k ha hk w hM hn);obtain⟨c0,_,_⟩:=cell2 hT.obj;clear hM hT;go_enter func37,ntmps37;go_wp2_with fail
 refine HLd.o.mono ?_;rintro e w1 ⟨rfl,rfl⟩;go_wp2;go_ret2
 exact⟨rfl,rfl⟩
theorem tdrop_wp[MemNo]{t K:Nat}{S:List UInt8}{P:List Gd.Pa}{F:Nat→Prop}(w:World)(h:TxnF t S P K w F)(c:Code)(hb:f10.body=some c):
 c.wp prog (bodyPost prog f10 fun e w'=>e= .returned (.tuple #[])∧TxnF t S [] K w' F∧Only F w w') {tmps:=#[.pointer (some ⟨t,0,none⟩)]++Array.replicate (f10.ntmps-1) undef,defers:=[]} w:=by
 cases hb
 obtain⟨m,g,pv,hM,hT,hL,ft,fg,fq,hP,hmn⟩:=h;have Hmn:=hid hmn;clear hmn;have HM:=hid hM;have HT:=hid hT;have HL:=hid hL;have HF:=hid (And.intro ft fg);obtain⟨_,_,c2⟩:=cell2 hT.obj;have f2:=frozen_of_row w t 2 _ _ hT.obj;clear hM hT hL ft fg fq hP;simp only[ntmps10,List.size_toArray,List.length_cons,List.length_nil,Nat.reduceAdd,Nat.reduceSub,Array.replicate_succ,Array.replicate_zero,List.push_toArray,List.append_toArray,List.nil_append,List.cons_append];go_wp2;go_end0
 have hg:=setCell_grown t 2 w (.slice none 0 0);have hO:Only (fun k=>k=t) w (w.setCell ⟨t,2,none⟩ (.slice none 0 0)):=grown_only hg fun k e=>(Option.some.inj e).symm;refine⟨rfl,⟨m,g,.slice none 0 0,?_,⟨Go.heap_setCell_same w t 2 _ _ _ HT.o.obj,World.ownsRow_nil _ _ _ _⟩,?_,HF.o.1,HF.o.2,(fun q hq=>by cases hq),⟨(fun p hp=>by cases hp),(fun p hp=>by cases hp),by simp⟩,Hmn.o⟩,hO.mono fun j _ e=>e▸HF.o.1⟩
 ·obtain⟨sb,lb,ab,n,h,r⟩:=HM.o;refine⟨sb,lb,ab,n,h.keep fun k hk=>hO.block k (h.lts k hk) fun e=> ?_,r⟩;have ho:=HT.o.obj;rw[←e]at ho;rcases hk with rfl|rfl|rfl|rfl
  ·exact absurd (Obj.cells.inj (Option.some.inj (ho.symm.trans h.objE.choose_spec))).2.1 (by decide)
  ·exact absurd (Obj.cells.inj (Option.some.inj (ho.symm.trans h.seenE.choose_spec))).2.1 (by decide)
  ·obtain⟨Z,_,hl⟩:=h.lasts;exact absurd (Obj.cells.inj (Option.some.inj (ho.symm.trans hl))).2.1 (by decide)
  ·obtain⟨_,_,_,⟨es,ck,hm,_⟩,_⟩:=h.away;have:=ho.symm.trans hm
   cases this
 ·refine(hO.block g (lt_get HL.o) fun e=> ?_).trans HL.o
  have ho:=HT.o.obj;rw[←e]at ho;exact absurd (Obj.cells.inj (Option.some.inj (ho.symm.trans HL.o))).2.1 (by decide)
theorem tdrop_any[MemNo]{t K:Nat}{S:List UInt8}{P:List Gd.Pa}{F:Nat→Prop}(w:World)(h:TxnF t S P K w F):
 Calls prog 10 #[.pointer (some ⟨t,0,none⟩)] w fun e w'=>e= .returned (.tuple #[])∧TxnF t S [] K w' F∧Only F w w':=
 calls_of_wp func10 rfl (tdrop_wp w h _ rfl)
theorem push_all:∀(L:List UInt8) (r:ByteArray),(L.map fun b=>(b.toNat:Int)).foldl (fun r n=>r.push (UInt8.ofNat n.toNat)) r=⟨(r.data.toList++L).toArray⟩
 |[],r=>by
  rw[List.append_nil];exact(ba_mk r).symm
 |b::L,r=>by
  rw[List.map_cons,List.foldl_cons,push_all L];congr 2
  rw[show(UInt8.ofNat ((b.toNat:Int)).toNat)=b by simp];simp[ByteArray.push]
theorem str_of(L:List UInt8):(L.map fun b=>(b.toNat:Int)).foldl (fun r n=>r.push (UInt8.ofNat n.toNat)) ByteArray.empty=⟨L.toArray⟩:=push_all L _
theorem conv_any(v:Value)(L:List UInt8)(w:World)(h:BytesAt w v L):(convert 23 9 v).run prog w= .ok (.string ⟨L.toArray⟩) w:=by
 obtain⟨A,c,rfl,⟨rfl,rfl,rfl⟩|⟨b,o,rfl,hb,hc⟩⟩:=h
 ·rw[run_convert_bytes_string w _ _ 5 _ _ _ underlying23 underlying5 underlying9];rfl
 ·rw[run_convert_bytes_string w _ _ 5 _ _ _ underlying23 underlying5 underlying9];have hl:(loadCells ⟨b,o,none⟩ L.length).run prog w= .ok ((L.map fun b=>(b.toNat:Int)).map (Value.int .u8)).toArray w:=by
   have:=run_loadCells_list (P:=prog) w ⟨b,o,none⟩ (Lib.byteCells L) (bytes_news hc)
   rw[byteCells_len]at this;rw[this,List.map_map];rfl
  rw[run_bytesToString w _ _ _ _ hl,str_of]
theorem infoPa:(prog.info? 152).map (fun i=>(i.zero,i.size,i.bytes))=some (some (.agg #[.int .i64 0,.string ByteArray.empty]),2,24):=by kernel_rfl
theorem cells_new2(w:World)(a b:Value)(t:TypeId):∀j u,[a,b][j]? =some u→(w.alloc (.cells #[a,b] t)).cell? ((⟨w.heap.size,0,none⟩:Addr).add j)=some u:=by
 intro j u hj;have h:=cell_of_row (w.alloc (.cells #[a,b] t)) w.heap.size j #[a,b] t _ (heap_alloc_new w _);rw[Addr.add_lit,Nat.zero_add,h];simpa using hj
theorem TxnF.put[MemNo]{t m g K a:Nat}{S L:List UInt8}{P:List Gd.Pa}{F:Nat→Prop}{pv v':Value}{w wd wa w':World}(hM:MemF m S K w F)(hT:TxnAt w t m g pv P)(hLg:LogAt w g m 2688 4096)(ft:F t)(fg:F g)(fq:∀q,pv.ownBlock=some q→F q)(hP:PaOk S.length P)(hmn:m=MemNo.no)(hn:P.length<64)(hL:L.length≤256)(haL:a+L.length≤S.length)
 (hwd:Below w.heap.size w wd)(hwa:wa=wd.alloc (.cells #[.int .i64 a,.string ⟨L.toArray⟩] 152))(hown:w'.ownsRow 0 152 2 v' (P++[(a,L)]).length (flatP (P++[(a,L)])))(hg:wa.grownBy w' pv.ownBlock)(hat:v'.ownBlock=pv.ownBlock∨v'.ownBlock=some wa.heap.size):
 TxnF t S (P++[(a,L)]) K (w'.setCell ⟨t,2,none⟩ v') (Gr F w)∧Only F w (w'.setCell ⟨t,2,none⟩ v'):=by
 have hba:Below w.heap.size w wa:=hwd.trans (by rw[hwa];exact(Below.refl w.heap.size wd).alloc hwd.size _);have hO1:Only (fun k=>pv.ownBlock=some k) w w':=(below_only hba _).trans (grown_only hg fun k e=>e) fun _ _ e=>e;have hq:∀q,pv.ownBlock=some q→∃cur,w.heap[q]? =some (.cells cur 152 (0,0)):=fun q hq=>by
  rcases hT.row.2 with⟨e,_⟩|⟨q',cap,cur,e,_,hg',_⟩
  ·rw[e]at hq;cases hq
  ·rw[e]at hq
   cases hq
   exact⟨cur,hg'⟩
 have hne:∀k o,w.heap[k]? =some o→(∀cur:Array Value,o≠Obj.cells cur 152 (0,0))→w'.heap[k]? =w.heap[k]? :=fun k o hk ho=>hO1.block k (lt_get hk) fun e=>by
  obtain⟨cur,hc⟩:=hq k e;rw[hk]at hc;exact ho cur (Option.some.inj hc)
 have hobj:w'.heap[t]? =some (.cells #[.pointer (some ⟨m,0,none⟩),.pointer (some ⟨g,0,none⟩),pv] 89 (0,0)):=(hne t _ hT.obj (fun cur e=>absurd (Obj.cells.inj e).2.1 (by decide))).trans hT.obj;have hO2:Only (fun k=>k=t) w' (w'.setCell ⟨t,2,none⟩ v'):=only_setCell w' _ _ rfl;have hO:Only (fun k=>k=t∨pv.ownBlock=some k) w (w'.setCell ⟨t,2,none⟩ v'):=(hO1.mono fun _ _ e=>Or.inr e).trans hO2 fun _ _ e=>Or.inl e;have hs1:=hba.size;have hs2:=hg.size;have hvq:∀q,v'.ownBlock=some q→F q∨w.heap.size≤q:=fun q hv=>by
  rcases hat with e|e
  ·rw[e]at hv;exact Or.inl (fq q hv)
  ·rw[e]at hv
   cases hv
   exact Or.inr hs1
 have hvt:v'.ownBlock≠some t:=fun e=>by
  rcases hat with e'|e'
  ·rw[e']at e;obtain⟨cur,hc⟩:=hq t e;rw[hT.obj]at hc;exact absurd (Obj.cells.inj (Option.some.inj hc)).2.1 (by decide)
  ·rw[e']at e
   cases e
   have:=lt_get hT.obj
   omega
 refine⟨⟨m,g,v',?_,⟨Go.heap_setCell_same w' t 2 _ _ _ hobj,?_⟩,?_,Or.inl ft,Or.inl fg,fun q hq=>hvq q hq,?_,hmn⟩,hO.mono fun k _ e=>e.elim (fun e=>e▸ft) (fq k)⟩
 ·obtain⟨sb,lb,ab,n,h,f1,f2,f3,f4⟩:=hM;refine⟨sb,lb,ab,n,h.keep fun k hk=>hO.block k (h.lts k hk) fun e=> ?_,Or.inl f1,Or.inl f2,Or.inl f3,Or.inl f4⟩;have hto:=hT.obj;obtain⟨Z,_,hl⟩:=h.lasts;obtain⟨_,_,_,⟨es,ck,hm,_⟩,_⟩:=h.away;rcases e with rfl|e
  ·rcases hk with rfl|rfl|rfl|rfl
   ·exact absurd (Obj.cells.inj (Option.some.inj (hto.symm.trans h.objE.choose_spec))).2.1 (by decide)
   ·exact absurd (Obj.cells.inj (Option.some.inj (hto.symm.trans h.seenE.choose_spec))).2.1 (by decide)
   ·exact absurd (Obj.cells.inj (Option.some.inj (hto.symm.trans hl))).2.1 (by decide)
   ·have:=hto.symm.trans hm
    cases this
  ·obtain⟨cur,hc⟩:=hq k e;rcases hk with rfl|rfl|rfl|rfl
   ·exact absurd (Obj.cells.inj (Option.some.inj (hc.symm.trans h.objE.choose_spec))).2.1 (by decide)
   ·exact absurd (Obj.cells.inj (Option.some.inj (hc.symm.trans h.seenE.choose_spec))).2.1 (by decide)
   ·exact absurd (Obj.cells.inj (Option.some.inj (hc.symm.trans hl))).2.1 (by decide)
   ·have:=hc.symm.trans hm
    cases this
 ·exact⟨hown.1,hown.2.imp id fun⟨q,cap,cur,hv,hB,hg',hr⟩=>⟨q,cap,cur,hv,hB,(hO2.block q (lt_get hg') fun e=>hvt (by rw[hv];show some q=some t;rw[e])).trans hg',hr⟩⟩
 ·refine(hO2.block g ?_ fun e=> ?_).trans ((hne g _ hLg (fun cur e=>absurd (Obj.cells.inj e).2.1 (by decide))).trans hLg)
  ·have:=lt_get hLg
   omega
  ·have hto:=hT.obj;rw[←e]at hto;exact absurd (Obj.cells.inj (Option.some.inj (hto.symm.trans hLg))).2.1 (by decide)
 ·refine⟨fun p hp=> ?_,fun p hp=> ?_,by rw[List.length_append];show P.length+1≤64;omega⟩
  ·rcases List.mem_append.1 hp with hp|hp
   ·exact hP.fit p hp
   ·rw[List.mem_singleton.1 hp];exact haL
  ·rcases List.mem_append.1 hp with hp|hp
   ·exact hP.len p hp
   ·rw[List.mem_singleton.1 hp];exact hL
theorem tstore_any[MemNo]{t K:Nat}{S:List UInt8}{P:List Gd.Pa}{F:Nat→Prop}(a:Nat)(v:Value)(L:List UInt8)(w:World)(h:TxnF t S P K w F)(hb:BytesAt w v L)(hS:S.length≤1000000)(haL:a+L.length≤S.length)(hL:L.length≤256)(hn:P.length<64)(hap:∀q,v.ownBlock=some q→¬F q):
 Calls prog 87 #[.pointer (some ⟨t,0,none⟩),.int .i64 a,v] w fun e w'=>e= .returned (.int .i64 0)∧TxnF t S (P++[(a,L)]) K w' (Gr F w)∧Only F w w':=by
 obtain⟨i0,hi,hz0,hz1,hz2⟩:=info_parts infoPa;obtain⟨m,g,pv,hM,hT,hLg,ft,fg,fq,hP,hmn⟩:=h;have HLd:=hid (mload_any a L.length w hM haL (by omega));obtain⟨A,c,hv,hA⟩:=hb;have HBy:Hid (BytesAt w v L):=hid ⟨A,c,hv,hA⟩;subst hv;obtain⟨c0,_,c2⟩:=cell2 hT.obj;obtain⟨pA,pc,hpv,_⟩:=row_pa hT.row;have HT:=hid hT;obtain⟨pn,hpn⟩:=nm P.length;rw[←hpn]at hpv hn;have Hpn:=hid hpn;have HPut:=hid fun(wd wa w':World) (v':Value) hwd hwa hown hg hat=>TxnF.put (L:=L) (a:=a) (wd:=wd) (wa:=wa) (w':=w') (v':=v') hM hT hLg ft fg fq hP hmn (by omega) hL haL hwd hwa hown hg hat;clear hmn;obtain⟨ln,hln⟩:=nm L.length;rw[←hln]at HLd hL;rw[←hln];have Hln:=hid hln;have Hfq:=hid fq;have Hft:=hid ft;rw[hpv]at c2;have Hpv:=hid hpv;have HS:=hid (And.intro hS haL);have Hap:=hid hap;clear hap hM hLg ft fg fq hP hT hA hpn hln hpv hS haL;go_enter func87,ntmps87
 go_wp2_with fail
 refine HLd.o.mono ?_;rintro e w1 ⟨v1,rfl,ho1,hb1⟩;have HB1:=hid hb1;have hto:=(hb1.block t (lt_get HT.o.obj)).trans HT.o.obj;rw[Hpv.o]at hto;obtain⟨d0,_,d2⟩:=cell2 hto;have Hto:=hid hto;have HCv:=hid fun(W:World) (hW:Only F w W)=>conv_any (.slice A ln c) L W (by
  obtain⟨A',c',hv',h⟩:=HBy.o;refine⟨A',c',by rw[Hln.o];exact hv',h.imp id ?_⟩;rintro⟨b,o,h1,h2,h3⟩;have hb:¬F b:=Hap.o b (by rw[hv',h1];rfl);exact⟨b,o,h1,Nat.lt_of_lt_of_le h2 hW.size,fun j x hx=>(hW.cell (p:=⟨b,o+j,none⟩) h2 hb).trans (h3 j x hx)⟩)
 obtain⟨s,hs⟩:∃s:ByteArray,s=⟨L.toArray⟩:=⟨_,rfl⟩;rw[←hs]at HCv;have Hs:=hid hs;obtain⟨wd,hwd⟩:=nm w1.drew;have hbd:Below w.heap.size w wd:=by rw[hwd];exact hb1.trans ((Below.refl w1.heap.size w1).drew.mono hb1.size)
 have Hwd:=hid hwd;have hs0:wd.cell? ⟨t,2,none⟩=some (.slice pA pn pc)∧wd.frozen? ⟨t,2,none⟩=false∧(convert 23 9 (.slice A ln c)).run prog wd= .ok (.string s) wd:=⟨by rw[hwd];exact d2,by rw[hwd];exact frozen_of_row w1 t 2 _ _ Hto.o,HCv.o _ (below_only hbd F)⟩;have hba:Below w.heap.size w (wd.alloc (.cells #[.int .i64 a,.string s] 152)):=hbd.trans ((Below.refl wd.heap.size wd).alloc (Nat.le_refl _) _ |>.mono hbd.size)
 have hs1:(wd.alloc (.cells #[.int .i64 a,.string s] 152)).cell? ⟨t,2,none⟩=some (.slice pA pn pc)∧(wd.alloc (.cells #[.int .i64 a,.string s] 152)).frozen? ⟨t,2,none⟩=false∧(convert 23 9 (.slice A ln c)).run prog (wd.alloc (.cells #[.int .i64 a,.string s] 152))= .ok (.string s) (wd.alloc (.cells #[.int .i64 a,.string s] 152)):=⟨(hba.cell (p:=⟨t,2,none⟩) (lt_get HT.o.obj)).trans (by rw[←Hpv.o];exact cell_of_row w t 2 _ _ _ HT.o.obj),(hba.frozen (p:=⟨t,2,none⟩) (lt_get HT.o.obj)).trans (frozen_of_row w t 2 _ _ HT.o.obj),HCv.o _ (below_only hba F)⟩;have HRow:Hid (wd.ownsRow 0 152 2 (.slice pA pn pc) pn (flatP P)):=hid (by
  have hr:=HT.o.row;rw[←Hpn.o,Hpv.o]at hr;exact⟨hr.1,hr.2.imp id fun⟨q,cap,cur,hv,hB,hg,hr'⟩=>⟨q,cap,cur,hv,hB,(hbd.block q (lt_get hg)).trans hg,hr'⟩⟩)
 have HBa:=hid hba;have HS2:=hid fun(W:World) (hg:(wd.alloc (.cells #[.int .i64 a,.string s] 152)).grownBy W (Value.ownBlock (.slice pA pn pc)))=>(show W.cell? ⟨t,2,none⟩=some (.slice pA pn pc)∧W.frozen? ⟨t,2,none⟩=false∧(convert 23 9 (.slice A ln c)).run prog W= .ok (.string s) W from by
  have hO:Only (fun k=>pv.ownBlock=some k) w W:=(below_only HBa.o _).trans (grown_only hg fun k e=>by rw[Hpv.o];exact e) fun _ _ e=>e;have hnq:¬pv.ownBlock=some t:=fun e=>by
   rcases HT.o.row.2 with⟨e',_⟩|⟨q',cap,cur,e',_,hg',_⟩
   ·rw[e']at e;cases e
   ·rw[e']at e
    cases e
    exact absurd (Obj.cells.inj (Option.some.inj (HT.o.obj.symm.trans hg'))).2.1 (by decide)
  exact⟨(hO.cell (p:=⟨t,2,none⟩) (lt_get HT.o.obj) hnq).trans (by rw[←Hpv.o];exact cell_of_row w t 2 _ _ _ HT.o.obj),(hO.frozen (p:=⟨t,2,none⟩) (lt_get HT.o.obj) hnq).trans (frozen_of_row w t 2 _ _ HT.o.obj),HCv.o _ (hO.mono fun j _ e=>Hfq.o j e)⟩)
 have HBd:=hid hbd;have HS3:=hid fun(W:World) (hg:(wd.alloc (.cells #[.int .i64 a,.string s] 152)).grownBy W (Value.ownBlock (.slice pA pn pc))) (v:Value)=>HCv.o (W.setCell ⟨t,2,none⟩ v) (((below_only HBa.o _).trans (grown_only (F:=F) hg fun k e=>Hfq.o k (by rw[Hpv.o];exact e)) fun _ _ e=>e).trans (only_setCell W _ _ (F:=F) Hft.o) fun _ _ e=>e);have e1:(pn:Int)<64:=by omega
 have e2:(ln:Int)≤256:=by omega
 clear ho1 hb1 HLd c0 c2 hto hs hbd hba hwd;go_upto_region 4 with fail
 have hs00:=hs0.2.2;have hs01:=hs0.1;have hs10:=hs1.1;rw[Hwd.o]at hs00 hs01;refine wp_region_held_drew (S:=(fun W=>(convert 23 9 (.slice A ln c)).run prog W= .ok (.string s) W)) (by kernel_rfl) ?_ (fun hHeld=> ?_)
 ·exact hs00
 refine tk 0 ?_;refine tk 1 ?_;refine tk 2 ?_;refine tk 3 ?_;refine tk 5 ?_;refine tk 6 ?_;refine tk 7 ?_;refine tk 8 ?_;change wpAnyH _ _ _ _ _ _ _ _ w1.drew;rw[←Hwd.o]at hs00 hs01⊢;refine wpAnyH_ready (rs:=[4,9]) (by kernel_rfl) (by simp) ?_;refine AllReadyH.cons (o:=_) rfl (fun K hK=> ?_) (AllReadyH.cons (o:=_) rfl (fun K hK=> ?_) AllReadyH.nil)
 ·go_simp
  try dsimp only
  refine hK.o _ _ hs0.2.2 (fun hHeld=> ?_);clear hK K;try simp only[put]
  refine rd 9 (fun K hK=> ?_);go_simp
  try dsimp only
  refine hK.o _ _ hs1.2.2 (fun hHeld=> ?_);clear hK K;try simp only[put]
  refine rd 10 (fun K hK=> ?_);refine step_append_lies _ (by rfl) _ _ 87 (by rfl) 0 152 i0 _ 2 24 underlying87 hi hz0 hz1 hz2 rfl (by decide) (.slice pA pn pc) pn (flatP P) rfl (HRow.o.alloc _) ⟨wd.heap.size,0,none⟩ 1 1 [.int .i64 a,.string s] rfl rfl (cells_new2 _ _ _ _) (by intro u hu;simp at hu;rcases hu with rfl|rfl<;>rfl) (by omega) (by unfold maxLen;omega) (by omega) (Nat.zero_le _) (wd.heap.size+1) (by simp) ?_;intro gq cap w5 hown5 hgrow5 hat5 hlt5;try dsimp only
  refine hK.o _ _ (HS2.o w5 hgrow5).2.2 (fun hHeld=> ?_);clear hK K;try simp only[put]
  have hs2a:=(HS2.o w5 hgrow5).1;have hs2b:=(HS2.o w5 hgrow5).2.1;have hs2c:=(HS2.o w5 hgrow5).2.2;have HF5:=hid (HPut.o wd (wd.alloc (.cells #[.int .i64 a,.string s] 152)) w5 (.slice (some ⟨gq,0,none⟩) (pn+1) cap) HBd.o (by rw[Hs.o]) (by
   have h:=hown5;rw[Hs.o,show flatP P++[Value.int .i64 a,.string ⟨L.toArray⟩]=flatP (P++[(a,L)]) from flatP_snoc P (a,L)]at h;rw[List.length_append,List.length_singleton,←Hpn.o];exact h) (by rw[Hpv.o];exact hgrow5) (by
   rw[Hpv.o];rcases hat5 with e|e
   ·exact Or.inl e.symm
   ·right
    rw[e];show some (wd.heap.size+1)=_
    simp))
  refine tk 11 ?_;refine tk 12 ?_;refine rd 13 (fun K hK=> ?_);go_simp
  try dsimp only
  refine hK.o _ _ (HS3.o w5 hgrow5 _) (fun hHeld=> ?_);clear hK K;try simp only[put]
  refine dn ?_;simp only[Exit.then];clear hown5 hgrow5 hat5 hs2a hs2b hs2c hHeld;go_wp2;go_ret
  exact⟨rfl,HF5.o.1,HF5.o.2⟩
 ·go_simp
  try dsimp only
  refine hK.o _ _ hs1.2.2 (fun hHeld=> ?_);clear hK K;try simp only[put]
  refine rd 4 (fun K hK=> ?_);go_simp
  try dsimp only
  refine hK.o _ _ hs1.2.2 (fun hHeld=> ?_);clear hK K;try simp only[put]
  refine rd 10 (fun K hK=> ?_);refine step_append_lies _ (by rfl) _ _ 87 (by rfl) 0 152 i0 _ 2 24 underlying87 hi hz0 hz1 hz2 rfl (by decide) (.slice pA pn pc) pn (flatP P) rfl (HRow.o.alloc _) ⟨wd.heap.size,0,none⟩ 1 1 [.int .i64 a,.string s] rfl rfl (cells_new2 _ _ _ _) (by intro u hu;simp at hu;rcases hu with rfl|rfl<;>rfl) (by omega) (by unfold maxLen;omega) (by omega) (Nat.zero_le _) (wd.heap.size+1) (by simp) ?_;intro gq cap w5 hown5 hgrow5 hat5 hlt5;try dsimp only
  refine hK.o _ _ (HS2.o w5 hgrow5).2.2 (fun hHeld=> ?_);clear hK K;try simp only[put]
  have hs2a:=(HS2.o w5 hgrow5).1;have hs2b:=(HS2.o w5 hgrow5).2.1;have hs2c:=(HS2.o w5 hgrow5).2.2;have HF5:=hid (HPut.o wd (wd.alloc (.cells #[.int .i64 a,.string s] 152)) w5 (.slice (some ⟨gq,0,none⟩) (pn+1) cap) HBd.o (by rw[Hs.o]) (by
   have h:=hown5;rw[Hs.o,show flatP P++[Value.int .i64 a,.string ⟨L.toArray⟩]=flatP (P++[(a,L)]) from flatP_snoc P (a,L)]at h;rw[List.length_append,List.length_singleton,←Hpn.o];exact h) (by rw[Hpv.o];exact hgrow5) (by
   rw[Hpv.o];rcases hat5 with e|e
   ·exact Or.inl e.symm
   ·right
    rw[e];show some (wd.heap.size+1)=_
    simp))
  refine tk 11 ?_;refine tk 12 ?_;refine rd 13 (fun K hK=> ?_);go_simp
  try dsimp only
  refine hK.o _ _ (HS3.o w5 hgrow5 _) (fun hHeld=> ?_);clear hK K;try simp only[put]
  refine dn ?_;simp only[Exit.then];clear hown5 hgrow5 hat5 hs2a hs2b hs2c hHeld;go_wp2;go_ret
  exact⟨rfl,HF5.o.1,HF5.o.2⟩
end Go.Proofs.YtckoobkjpndgnaaGreatDoor
