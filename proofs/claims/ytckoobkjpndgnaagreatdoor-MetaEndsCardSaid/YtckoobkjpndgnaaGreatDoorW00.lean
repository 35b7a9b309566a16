/- Steps of a region by hand, said shortly. -/
import Derived.Test.YtckoobkjpndgnaaGreatDoorRows
import Derived.Lib.Hide
import Derived.BigQuiet
import Derived.Deep.RegionHeld3
import Derived.WalkKit
import Derived.Lib.UnsafeStr
import Derived.Lib.AppendStr
import Derived.RowKit
import Derived.Lib.Strings
import Derived.Lib.IndexBytes
import Derived.Deep.QuietTactic
import Derived.WalkSpells
import Derived.WalkLawsBesides
import Derived.Lib.OthersKept
import Derived.OwnWalk
import Derived.Deep.CutRange
import Derived.Deep.RegionWith
import Derived.IntWalk
import Derived.StillTailTactics
import Derived.ArgAppend
import Derived.Laws.AppendOwn
import Derived.Laws.AppendOwnNone
import Derived.ScopeJumps
import Derived.WalkMore
set_option linter.unusedVariables false
set_option linter.unusedSimpArgs false
set_option linter.unusedSectionVars false
set_option maxHeartbeats 8000000
set_option maxRecDepth 100000
namespace Go
open RowKit
theorem RowKit.Hid.o{p:Prop}(h:Hid p):p:=h
theorem Shut.o{p:Prop}(h:Shut p):p:=h
theorem RowKit.Hid.t{w w1 w2:World}(h:Hid (Below w.heap.size w w1))(h2:Below w1.heap.size w1 w2):Hid (Below w.heap.size w w2):=h.o.trans (h2.mono h.o.size)
theorem RowKit.Hid.r{w1 w2:World}{b:Nat}{o:Obj}(h:Hid (w1.heap[b]? =some o))(h2:Below w1.heap.size w1 w2):Hid (w2.heap[b]? =some o):=(h2.block _ (Array.getElem?_eq_some_iff.1 h.o).1).trans h.o
end Go
namespace Go.Proofs.YtckoobkjpndgnaaGreatDoor
open Go.RowKit
open Lib(hid)
open Go.Proofs.Tryz
section
theorem nm{α:Type}(x:α):∃b,b=x:=⟨x,rfl⟩
def Ret(w:World)(f:FuncId)(a:Array Value)(v:Value):Prop:=∀W,Below w.heap.size w W→Calls Tryz.prog f a W fun e w'=>e= .returned v∧Below W.heap.size W w'
theorem put:(∀(l:List Oper) (i:Nat) (h:i<l.toArray.size),l.toArray[i]'h=l[i]'(by simpa using h))∧(∀(x:Oper) (l:List Oper) (i:Nat) (h:i+1<(x::l).length),(x::l)[i+1]'h=l[i]'(by simpa using h))∧(∀(x:Oper) (l:List Oper) (h:0<(x::l).length),(x::l)[0]'h=x)∧
 (∀(a:Act) (v:Value),a.put none v=a)∧(∀(a:Act) (t:Tmp) (v:Value),a.put (some t) v={a with tmps:=a.tmps.setIfInBounds t v})∧
 (∀(l:List Value) (n:Nat) (v:Value),l.toArray.setIfInBounds n v=(l.set n v).toArray)∧(∀(l:List Bool) (n:Nat) (v:Bool),l.toArray.setIfInBounds n v=(l.set n v).toArray)∧
 (∀(x:Value) (l:List Value) (v:Value),(x::l).set 0 v=v::l)∧(∀(x:Value) (l:List Value) (n:Nat) (v:Value),(x::l).set (n+1) v=x::l.set n v)∧(∀(x:Bool) (l:List Bool) (v:Bool),(x::l).set 0 v=v::l)∧(∀(x:Bool) (l:List Bool) (n:Nat) (v:Bool),(x::l).set (n+1) v=x::l.set n v):=
 ⟨fun _ _ _=>rfl,fun _ _ _ _=>rfl,fun _ _ _=>rfl,fun _ _=>rfl,fun _ _ _=>rfl,fun _ _ _=>List.setIfInBounds_toArray ..,fun _ _ _=>List.setIfInBounds_toArray ..,fun _ _ _=>rfl,fun _ _ _ _=>rfl,fun _ _ _=>rfl,fun _ _ _ _=>rfl⟩
section
variable {P:Program} {ops:Array Oper} {Q:Exit→Act→World→Prop} {S:World→Prop} {oi:Oper} {v:Value} {fuel:Nat} {listed lis:Array Bool} {a b:Act} {w:World}
theorem th(i:Nat)(hv:∀w,S w→(execOp a.eval oi).run P w= .ok (.value v) w)(h:wpAnyH P .any ops Q S fuel (listed.setIfInBounds i true) (a.put oi.dst v) w)
 (hi:ops[i]? =some oi:=by rfl)(hs:Region.noSelect ops=true:=by kernel_rfl)(hf:Region.free .any ops listed i=true:=by kernel_rfl)(hr:(Region.ready .any ops listed).contains i=true:=by kernel_rfl)
 (hw:Region.wanted oi (yielded ops a.tmps)=true:=by rfl)(hQ:∀c a w,Q (.panic c) (a.put oi.dst v) w→Q (.panic c) a w:=by exact fun _ _ _ h=>h)(hS:S w:=by assumption):wpAnyH P .any ops Q S (fuel+1) listed a w:=
 wpAnyH_take hi hs hf hr hQ (Or.inl ⟨hw,hv⟩) hS h
theorem tk(i:Nat)(h:wpAnyH P .any ops Q S fuel lis b w)
 (hi:ops[i]? =some oi:=by rfl)(hs:Region.noSelect ops=true:=by kernel_rfl)(hf:Region.free .any ops listed i=true:=by kernel_rfl)(hr:(Region.ready .any ops listed).contains i=true:=by kernel_rfl)
 (hw:Region.wanted oi (yielded ops a.tmps)=true:=by rfl)
 (hv:∀w,S w→(execOp a.eval oi).run P w= .ok (.value v) w:=by intro w hSw;(try dsimp only at hSw);first|(go_simp;done)|(go_simp;with_reducible rfl))
 (hl:listed.setIfInBounds i true=lis:=by first|(simp only[put];done)|(simp only[put];rfl)|rfl)(hb:a.put oi.dst v=b:=by first|(simp only[put];done)|(simp only[put];rfl)|rfl)
 (hQ:∀c a w,Q (.panic c) (a.put oi.dst v) w→Q (.panic c) a w:=by exact fun _ _ _ h=>h)(hS:S w:=by assumption):wpAnyH P .any ops Q S (fuel+1) listed a w:=by
 subst hl hb;exact wpAnyH_take hi hs hf hr hQ (Or.inl ⟨hw,hv⟩) hS h
theorem sk(i:Nat)(h:wpAnyH P .any ops Q S fuel lis b w)
 (hi:ops[i]? =some oi:=by rfl)(hs:Region.noSelect ops=true:=by kernel_rfl)(hf:Region.free .any ops listed i=true:=by kernel_rfl)(hr:(Region.ready .any ops listed).contains i=true:=by kernel_rfl)
 (hw:Region.wanted oi (yielded ops a.tmps)=false:=by rfl)
 (hl:listed.setIfInBounds i true=lis:=by first|(simp only[put];done)|(simp only[put];rfl)|rfl)(hb:a.put oi.dst undef=b:=by first|(simp only[put];done)|(simp only[put];rfl)|rfl)
 (hQ:∀c a w,Q (.panic c) (a.put oi.dst undef) w→Q (.panic c) a w:=by exact fun _ _ _ h=>h)(hS:S w:=by assumption):wpAnyH P .any ops Q S (fuel+1) listed a w:=by
 subst hl hb;exact wpAnyH_take hi hs hf hr hQ (Or.inr ⟨hw,rfl⟩) hS h
theorem rd(i:Nat)(h:∀K:Act→World→Prop,Shut (∀a w,S w→(S w→wpAnyH P .any ops Q S fuel (listed.setIfInBounds i true) a w)→K a w)→if Region.wanted oi (yielded ops a.tmps)=true then Oper.wp P oi a w K Q else K (a.put oi.dst undef) w)
 (hi:ops[i]? =some oi:=by rfl)(hr:Region.ready .any ops listed=[i]:=by kernel_rfl):wpAnyH P .any ops Q S (fuel+1) listed a w:=
 wpAnyH_ready hr (by simp) (AllReadyH.cons hi h AllReadyH.nil)
theorem dn(h:Q .normal a w)(hr:Region.ready .any ops listed=[]:=by kernel_rfl):wpAnyH P .any ops Q S fuel listed a w:=wpAnyH_done hr h _
end
end
namespace Gd
def wid(w:Nat):Prop:=w=1∨w=2∨w=4∨w=8
def fitsB(n:Int)(w:Nat):Bool:=decide (0≤n)&&(decide (w=8)||decide (n<((256^w:Nat):Int)))
def le:Nat→Nat→List UInt8
 |_,0=>[]
 |n,w+1=>UInt8.ofNat n::le (n/256) w
def unle:List UInt8→Nat
 |[]=>0
 |b::r=>b.toNat+256*unle r
def put(L:List UInt8)(n:Int)(w:Nat):List UInt8:=if fitsB n w then L++le n.toNat w else L
def getN(L:List UInt8)(k w:Nat):Nat:=unle ((L.drop k).take w)
def getB(L:List UInt8)(k:Int)(w:Nat):Bool:=decide (0≤k)&&decide (k+w≤L.length)&&decide (getN L k.toNat w<9223372036854775808)
def get(L:List UInt8)(k:Int)(w:Nat):Int:=if getB L k w then getN L k.toNat w else 0
theorem le_length:∀(w n:Nat),(le n w).length=w
 |0,n=>rfl
 |w+1,n=>by rw[le,List.length_cons,le_length w]
theorem le_snoc:∀(w n:Nat),le n (w+1)=le n w++[UInt8.ofNat (n/256^w)]
 |0,n=>by simp[le]
 |w+1,n=>by
  rw[le,le_snoc w,le,List.cons_append,Nat.div_div_eq_div_mul,Nat.pow_succ,Nat.mul_comm (256^w) 256]
theorem unle_lt:∀(L:List UInt8),unle L<256^L.length
 |[]=>by simp[unle]
 |b::r=>by
  rw[unle,List.length_cons,Nat.pow_succ];have:=unle_lt r
  have:=b.toNat_lt
  omega
theorem unle_snoc:∀(L:List UInt8) (b:UInt8),unle (L++[b])=unle L+256^L.length*b.toNat
 |[],b=>by simp[unle]
 |a::r,b=>by
  rw[List.cons_append,unle,unle_snoc r,unle,List.length_cons,Nat.pow_succ,Nat.mul_add,←Nat.mul_assoc,Nat.mul_comm 256 (256^r.length)];omega
theorem unle_le:∀(w n:Nat),n<256^w→unle (le n w)=n
 |0,n,h=>by simp at h;subst h;rfl
 |w+1,n,h=>by
  rw[le,unle,unle_le w (n/256) (by rw[Nat.pow_succ]at h;omega)];have:(UInt8.ofNat n).toNat=n % 256:=by simp
  omega
def poly:Nat:=3988292384
def bitStep(r:Nat):Nat:=if r % 2=1 then(r/2)^^^poly else r/2
def bitSteps:Nat→Nat→Nat
 |0,r=>r
 |k+1,r=>bitStep (bitSteps k r)
def byteStep(r:Nat)(c:UInt8):Nat:=bitSteps 8 (r^^^c.toNat)
def crcR(r:Nat)(L:List UInt8):Nat:=L.foldl byteStep r
def ones:Nat:=4294967295
def crc(L:List UInt8):Nat:=ones-crcR ones L
theorem poly_lt:poly<4294967296:=by decide
theorem bitStep_lt{r:Nat}(h:r<4294967296):bitStep r<4294967296:=by
 unfold bitStep;split
 ·exact Nat.xor_lt_two_pow (n:=32) (by omega) poly_lt
 ·omega
theorem bitSteps_lt:∀(k:Nat) {r:Nat},r<4294967296→bitSteps k r<4294967296
 |0,_,h=>h
 |k+1,_,h=>bitStep_lt (bitSteps_lt k h)
theorem byteStep_lt{r:Nat}(c:UInt8)(h:r<4294967296):byteStep r c<4294967296:=
 bitSteps_lt 8 (Nat.xor_lt_two_pow (n:=32) h (by have:=c.toNat_lt;omega))
theorem crcR_lt:∀(L:List UInt8) {r:Nat},r<4294967296→crcR r L<4294967296
 |[],_,h=>h
 |c::L,_,h=>crcR_lt L (byteStep_lt c h)
theorem crcR_snoc(L:List UInt8)(c:UInt8)(r:Nat):crcR r (L++[c])=byteStep (crcR r L) c:=by
 unfold crcR;rw[List.foldl_append];rfl
theorem crc_lt(L:List UInt8):crc L<4294967296:=by
 unfold crc ones;omega
def up8(n:Nat):Nat:=(n+7)/8*8
end Gd
theorem ba_ext{a b:ByteArray}(h:a.data.toList=b.data.toList):a=b:=by
 cases a;cases b;congr;exact Array.toList_inj.1 h
theorem ba_mk(s:ByteArray):(⟨s.data.toList.toArray⟩:ByteArray)=s:=ba_ext rfl
theorem ba_tail(s:ByteArray)(n:Nat):(s.extract n s.size).data.toList=s.data.toList.drop n:=Lib.extract_to_end s n
theorem ret_bool{a b:Bool}(h:a=b):Ending.returned (.bool a)= .returned (.bool b):=by rw[h]
theorem ret_int{k:IntKind}{a b:Int}(h:a=b):Ending.returned (.int k a)= .returned (.int k b):=by rw[h]
def I64(n:Int):Prop:=(Lit.int .i64 n).wf=true
theorem I64.lo{n:Int}(h:I64 n): -9223372036854775808≤n∧n≤9223372036854775807:=by
 unfold I64 at h;simp[Lit.wf,show IntKind.i64.min= -9223372036854775808 from rfl,show IntKind.i64.max=9223372036854775807 from rfl]at h;omega
theorem is_any(k:Nat)(hk:Gd.wid k)(w:World):Calls prog 156 #[.int .i64 k] w fun e w'=>e= .returned (.bool true)∧w'=w:=by
 rcases hk with rfl|rfl|rfl|rfl
 all_goals
  go_enter func156,ntmps156;go_wp2;go_ret
  exact⟨rfl,rfl⟩
theorem fits_any(n:Int)(k:Nat)(hk:Gd.wid k)(hn:I64 n)(w:World):Calls prog 127 #[.int .i64 n,.int .i64 k] w fun e w'=>e= .returned (.bool (Gd.fitsB n k))∧w'=w:=by
 obtain⟨hlo,hhi⟩:=hn.lo;have hI:=is_any k hk;by_cases h0:0≤n
 ·obtain⟨m,rfl⟩:∃m:Nat,n=m:=⟨n.toNat,by omega⟩;rcases hk with rfl|rfl|rfl|rfl
  all_goals
   have HI:=hid hI;clear hI hn;go_enter func127,ntmps127;go_wp2_with(go_at_call 156;refine(HI.o _).mono ?_;rintro e w' ⟨rfl,rfl⟩)
   go_ret
   refine⟨ret_bool ?_,rfl⟩;unfold Gd.fitsB;simp
   try(rw[Bool.eq_iff_iff];simp only[beq_iff_eq,decide_eq_true_eq];omega)
 ·have HI:=hid hI;have h1:decide (0≤n)=false:=decide_eq_false h0;clear hI hn;go_enter func127,ntmps127;go_wp2_with(go_at_call 156;refine(HI.o _).mono ?_;rintro e w' ⟨rfl,rfl⟩)
  go_ret
  refine⟨ret_bool ?_,rfl⟩;unfold Gd.fitsB;simp[h1]
theorem room_any(A:Option Addr)(n:Nat)(c:Nat)(at_:Int)(k:Nat)(hk:Gd.wid k)(hn:n≤9223372036854775807)(ha:I64 at_)(w:World):Calls prog 136 #[.slice A n c,.int .i64 at_,.int .i64 k] w fun e w'=>e= .returned (.bool (decide (0≤at_)&&decide (at_+k≤n)))∧w'=w:=by
 obtain⟨hlo,hhi⟩:=ha.lo;have hI:=is_any k hk;by_cases h0:0≤at_
 ·rcases hk with rfl|rfl|rfl|rfl
  all_goals
   have HI:=hid hI;clear hI ha;go_enter func136,ntmps136;go_wp2_with(go_at_call 156;refine(HI.o _).mono ?_;rintro e w' ⟨rfl,rfl⟩)
   go_ret
   refine⟨ret_bool ?_,rfl⟩;rw[Bool.eq_iff_iff];simp only[Bool.and_eq_true,decide_eq_true_eq];omega
 ·have HI:=hid hI;have h1:decide (0≤at_)=false:=decide_eq_false h0;clear hI ha;go_enter func136,ntmps136;go_wp2_with(go_at_call 156;refine(HI.o _).mono ?_;rintro e w' ⟨rfl,rfl⟩)
  go_ret
  refine⟨ret_bool ?_,rfl⟩;simp[h1]
theorem roundmay_any(n:Nat)(hn:n≤1000000)(w:World):Calls prog 157 #[.int .i64 n,.int .i64 8] w fun e w'=>e= .returned (.bool true)∧w'=w:=by
 go_enter func157,ntmps157;have h1:(n:Int)≤1152921504606846976:=by omega
 go_wp2;go_ret
 exact⟨by simp[h1],rfl⟩
theorem up_any(n:Nat)(hn:n≤1000000)(w:World):Calls prog 128 #[.int .i64 n,.int .i64 8] w fun e w'=>e= .returned (.int .i64 (Gd.up8 n))∧w'=w:=by
 have HI:=hid (roundmay_any n hn);go_enter func128,ntmps128;go_wp2_with(go_at_call 157;refine(HI.o _).mono ?_;rintro e w' ⟨rfl,rfl⟩)
 go_ret
 refine⟨ret_int ?_,rfl⟩;unfold Gd.up8;omega
theorem cell_one_new(w:World)(v:Value)(t:TypeId):∀j u,[v][j]? =some u→(w.alloc (.cells #[v] t)).cell? ((⟨w.heap.size,0,none⟩:Addr).add j)=some u:=by
 intro j u hj;match j,hj with
 |0,hj=>
  simp at hj
  subst hj;have h:=cell_of_row (w.alloc (.cells #[v] t)) w.heap.size 0 #[v] t _ (heap_alloc_new w _);rw[show((⟨w.heap.size,0,none⟩:Addr).add 0)=⟨w.heap.size,0,none⟩ by simp[Addr.add]];exact h
 |j+1,hj=>simp at hj
theorem infoU8:(prog.info? 5).map (fun i=>(i.zero,i.size,i.bytes))=some (some (.int .u8 0),1,1):=by kernel_rfl
theorem eq_nil(a:Option Addr)(l c:Nat)(w:World):(binOp .eql 23 (.slice a l c) (.slice none 0 0)).run prog w= .ok (.bool a.isNone) w:=
 Lib.run_eql_slice_nil w _ _ a l c 0 0 underlying23
theorem own_empty(w:World)(t:TypeId):(w.alloc (.cells #[] t)).ownsRow w.heap.size t 1 (.slice (some ⟨w.heap.size,0,none⟩) 0 0) 0 []:=
 ⟨rfl,Or.inr ⟨w.heap.size,0,#[],rfl,Nat.le_refl _,heap_alloc_new _ _,Nat.le_refl _,by unfold maxLen;omega,rfl,rfl⟩⟩
def BytesAt(w:World)(v:Value)(L:List UInt8):Prop:=
 ∃A c,v= .slice A L.length c∧((A=none∧L=[]∧c=0)∨∃b o,A=some ⟨b,o,none⟩∧b<w.heap.size∧∀(j:Nat) (x:UInt8),L[j]? =some x→w.cell? ⟨b,o+j,none⟩=some (.int .u8 x.toNat))
theorem BytesAt.keep{w w':World}{v:Value}{L:List UInt8}(h:BytesAt w v L)(hb:Below w.heap.size w w'):BytesAt w' v L:=by
 obtain⟨A,c,hv,h⟩:=h;refine⟨A,c,hv,h.imp id ?_⟩;rintro⟨b,o,h1,h2,h3⟩;exact⟨b,o,h1,Nat.lt_of_lt_of_le h2 hb.size,fun j x hx=>(hb.cell (p:=⟨b,o+j,none⟩) h2).trans (h3 j x hx)⟩
def OwnB(w:World)(B:Nat)(v:Value)(L:List UInt8):Prop:=w.ownsRow B 5 1 v L.length (Lib.byteCells L)
theorem byteCells_get{L:List UInt8}{j:Nat}{x:UInt8}(h:L[j]? =some x):(Lib.byteCells L)[j]? =some (.int .u8 x.toNat):=by
 unfold Lib.byteCells;rw[List.getElem?_map,h];rfl
theorem byteCells_inv{L:List UInt8}{j:Nat}{u:Value}(h:(Lib.byteCells L)[j]? =some u):∃x,L[j]? =some x∧u= .int .u8 x.toNat:=by
 unfold Lib.byteCells at h;rw[List.getElem?_map]at h
 cases hx:L[j]? with
 |none=>rw[hx]at h;cases h
 |some x=>rw[hx]at h;cases h;exact⟨x,rfl,rfl⟩
theorem bytes_news{w:World}{b o:Nat}{L:List UInt8}(hc:∀(j:Nat) (x:UInt8),L[j]? =some x→w.cell? ⟨b,o+j,none⟩=some (.int .u8 x.toNat)):∀j u,(Lib.byteCells L)[j]? =some u→w.cell? ((⟨b,o,none⟩:Addr).add j)=some u:=by
 intro j u hj;obtain⟨x,hx,rfl⟩:=byteCells_inv hj;rw[Addr.add_lit];exact hc j x hx
theorem byteCells_one(L:List UInt8):∀u∈Lib.byteCells L,u.oneCell'=true:=by
 intro u hu;unfold Lib.byteCells at hu;rw[List.mem_map]at hu;obtain⟨x,_,rfl⟩:=hu;rfl
theorem byteCells_app(L M:List UInt8):Lib.byteCells L++Lib.byteCells M=Lib.byteCells (L++M):=by
 unfold Lib.byteCells;rw[List.map_append]
theorem OwnB.at_{w:World}{B:Nat}{v:Value}{L:List UInt8}(h:OwnB w B v L):BytesAt w v L:=by
 have hr:=h;rcases h.2 with⟨rfl,h0⟩|⟨g,cap,cur,rfl,hb,hg,hc,_,_,_⟩
 ·have:L=[]:=List.eq_nil_of_length_eq_zero h0
  subst this;exact⟨none,0,rfl,Or.inl ⟨rfl,rfl,rfl⟩⟩
 ·refine⟨some ⟨g,0,none⟩,cap,rfl,Or.inr ⟨g,0,rfl,(Array.getElem?_eq_some_iff.1 hg).1,fun j x hx=> ?_⟩⟩;have hj:=(List.getElem?_eq_some_iff.1 hx).1;rw[Nat.zero_add];exact(hr.cellAt _ (by rw[Nat.mul_one];exact hj)).trans (byteCells_get hx)
theorem OwnB.keep{w w':World}{B:Nat}{v:Value}{L:List UInt8}(h:OwnB w B v L)(hb:Below w.heap.size w w'):OwnB w' B v L:=
 ⟨h.1,h.2.imp id fun⟨g,cap,cur,hv,hB,hg,hr⟩=>⟨g,cap,cur,hv,hB,(hb.block g (Array.getElem?_eq_some_iff.1 hg).1).trans hg,hr⟩⟩
theorem OwnB.mono{w:World}{B C:Nat}{v:Value}{L:List UInt8}(h:OwnB w B v L)(hC:C≤B):OwnB w C v L:=
 ⟨h.1,h.2.imp id fun⟨g,cap,cur,hv,hB,hr⟩=>⟨g,cap,cur,hv,Nat.le_trans hC hB,hr⟩⟩
theorem ownB_nil(w:World)(B:Nat):OwnB w B (.slice none 0 0) []:=World.ownsRow_nil _ _ _ _
def GivesB(w:World)(L:List UInt8)(e:Ending)(w':World):Prop:=∃v,e= .returned v∧OwnB w' w.heap.size v L∧Below w.heap.size w w'
theorem below_grown{w w':World}{row:Option Nat}{B:Nat}(h:w.grownBy w' row)(hB:B≤w.heap.size)(hr:∀k,row=some k→B≤k):Below B w w':=
 ⟨h.os,h.tape,h.output,h.size,fun k hk=>h.block k (Nat.lt_of_lt_of_le hk hB) fun e=>by have:=hr k e.symm;omega⟩
theorem own_block{w:World}{B e s n:Nat}{v:Value}{xs:List Value}(h:w.ownsRow B e s v n xs):∀k,v.ownBlock=some k→B≤k∧k<w.heap.size:=fun k hk=>by
 rcases h.2 with⟨rfl,_⟩|⟨g,cap,cur,rfl,hB,hg,_⟩
 ·cases hk
 ·cases hk
  exact⟨hB,(Array.getElem?_eq_some_iff.1 hg).1⟩
theorem byteCells_len(L:List UInt8):(Lib.byteCells L).length=L.length:=by
 unfold Lib.byteCells;rw[List.length_map]
theorem app_byte{ops:Array Oper}{rest:List Oper}{o:Oper}{a:Act}{Q:Exit→Act→World→Prop}(hgd:o.guard=none)(s x:Operand)(ho:o.op= .call {callee:= .builtin .append,args:=#[s,x],argTypes:=#[23,23]})
 (B:Nat)(v:Value)(L:List UInt8)(w0:World)(hs:a.eval s=v)(hown:OwnB w0 B v L)(c:Int)(y:UInt8)(hy:c=y.toNat)(hx:a.eval x= .slice (some ⟨w0.heap.size,0,none⟩) 1 1)(hlen:L.length<1000000)(hB:B≤w0.heap.size)
 (h:∀v' w',OwnB w' B v' (L++[y])→Below B w0 w'→wpList prog ops Q rest (a.put o.dst v') w'):wpList prog ops Q (o::rest) a (w0.alloc (.cells #[.int .u8 c] 5)):=by
 obtain⟨i0,hi,hz0,hz1,hz2⟩:=info_parts infoU8;have hb:=own_block hown;have hown':(w0.alloc (.cells #[.int .u8 c] 5)).ownsRow B 5 1 v L.length (Lib.byteCells L):=OwnB.keep hown ((Below.refl _ w0).alloc (Nat.le_refl _) _);refine wpList_append_own _ hgd s x 23 ho B 5 i0 _ 1 1 underlying23 hi hz0 hz1 hz2 rfl (by decide) v L.length (Lib.byteCells L) hs hown' ⟨w0.heap.size,0,none⟩ 1 1 [.int .u8 c] hx rfl (cell_one_new _ _ _) (by intro u hu;simp only[List.mem_singleton]at hu;subst hu;rfl) (by unfold maxLen;omega) (by omega) (by simp;omega) ?_;intro v' w' h1 h2 _;refine h v' w' ?_ (((Below.refl B w0).alloc hB _).trans (below_grown h2 (by simp;omega) fun k hk=>(hb k hk).1));unfold OwnB;rw[hy]at h1;rw[List.length_append,←byteCells_app];exact h1
theorem app_bytes{ops:Array Oper}{rest:List Oper}{o:Oper}{a:Act}{Q:Exit→Act→World→Prop}(hgd:o.guard=none)(s x:Operand)(ho:o.op= .call {callee:= .builtin .append,args:=#[s,x],argTypes:=#[23,23]})
 (B:Nat)(v:Value)(L:List UInt8)(w0:World)(hs:a.eval s=v)(hown:OwnB w0 B v L)(u:Value)(M:List UInt8)(hM:BytesAt w0 u M)(hx:a.eval x=u)(hlen:L.length+M.length≤1000000)(hB:B≤w0.heap.size)
 (h:∀v' w',OwnB w' B v' (L++M)→Below B w0 w'→wpList prog ops Q rest (a.put o.dst v') w'):wpList prog ops Q (o::rest) a w0:=by
 obtain⟨i0,hi,hz0,hz1,hz2⟩:=info_parts infoU8;have hb:=own_block hown;obtain⟨A,c,rfl,⟨rfl,rfl,rfl⟩|⟨b,o',rfl,hbl,hc⟩⟩:=hM
 ·refine wpList_append_own_none hgd s x 23 ho B 5 i0 1 underlying23 hi v L.length (Lib.byteCells L) hs hown hx ?_;have:=h v w0 (by rw[List.append_nil];exact hown) (Below.refl _ _)
  exact this
 ·refine wpList_append_own _ hgd s x 23 ho B 5 i0 _ 1 1 underlying23 hi hz0 hz1 hz2 rfl (by decide) v L.length (Lib.byteCells L) hs hown ⟨b,o',none⟩ M.length c (Lib.byteCells M) hx (by rw[byteCells_len,Nat.mul_one]) (bytes_news hc) (byteCells_one M) (by unfold maxLen;omega) (by omega) hB ?_;intro v' w' h1 h2 _;refine h v' w' ?_ (below_grown h2 hB fun k hk=>(hb k hk).1);unfold OwnB;rw[List.length_append,←byteCells_app];exact h1
theorem clone_any(v:Value)(L:List UInt8)(w:World)(h:BytesAt w v L)(hl:L.length≤1000000):Calls prog 131 #[v] w (GivesB w L):=by
 obtain⟨i0,hi,hz0,hz1,hz2⟩:=info_parts infoU8;obtain⟨A,c,rfl,⟨rfl,rfl,rfl⟩|⟨b,o,rfl,hb,hc⟩⟩:=h
 ·have hq:=eq_nil none 0 0;go_enter func131,ntmps131;go_wp2;go_ret
  exact⟨_,rfl,ownB_nil _ _,Below.refl _ _⟩
 ·have hbc:=hid hc;clear hc;have hq:=eq_nil (some ⟨b,o,none⟩) L.length c;go_enter func131,ntmps131;go_upto_region 3 with fail
  go_wp2_with(at_builtin;refine wpList_append_own _ rfl _ _ 23 rfl w.heap.size 5 i0 _ 1 1 underlying23 hi hz0 hz1 hz2 rfl (by decide) (.slice (some ⟨w.heap.size,0,none⟩) 0 0) 0 [] rfl (own_empty w _) ⟨b,o,none⟩ L.length c (Lib.byteCells L) rfl (by simp[Lib.byteCells]) ?_ (byteCells_one L) (by unfold maxLen;omega) (by omega) (by simp) ?_)
  ·refine bytes_news fun j x hx=> ?_;exact(((Below.refl _ w).alloc (Nat.le_refl _) _).cell (p:=⟨b,o+j,none⟩) hb).trans (hbc.o j x hx)
  intro v' w' ho hg _;have hB:Below w.heap.size w w':=((Below.refl _ w).alloc (Nat.le_refl _) _).trans (below_grown hg (by simp) (fun k hk=>by cases hk;exact Nat.le_refl _));clear hg hq;go_wp2;go_ret
  exact⟨_,rfl,ho,hB⟩
def intOf:Value→Int| .int _ q=>q|_=>0
theorem byte_val(m i:Nat):(m:Int)/2^(8*i) % 256=((UInt8.ofNat (m/256^i)).toNat:Int):=by
 have h:(2:Nat)^(8*i)=256^i:=by rw[Nat.pow_mul]
 rw[UInt8.toNat_ofNat',←h];simp
theorem put_step(m i:Nat):Gd.le m (i+1)=Gd.le m i++[UInt8.ofNat (m/256^i)]:=Gd.le_snoc i m
theorem put_any(v:Value)(L:List UInt8)(n:Int)(k:Nat)(hk:Gd.wid k)(hn:I64 n)(w:World)(h:BytesAt w v L)(hl:L.length≤900000):Calls prog 94 #[v,.int .i64 n,.int .i64 k] w (GivesB w (Gd.put L n k)):=by
 obtain⟨i0,hi,hz0,hz1,hz2⟩:=info_parts infoU8;have HC:=hid (clone_any v L w h (by omega));have HF:=hid (fits_any n k hk hn);have hk8:k≤8:=by rcases hk with rfl|rfl|rfl|rfl<;>omega
 have HN:=hid hn;obtain⟨fb,hfb⟩:=nm (Gd.fitsB n k);rw[←hfb]at HF;have HFb:=hid hfb;clear h hn hfb;go_enter func94,ntmps94;go_wp2_with fail
 refine HC.o.mono ?_;rintro e w1 ⟨v1,rfl,ho1,hb1⟩;have HO1:=hid ho1;have HB1:=hid hb1;clear ho1 hb1 HC
 cases fb with
 |false=>
  go_wp2_with(go_at_call 127;refine(HF.o _).mono ?_;rintro e w2 ⟨rfl,rfl⟩)
  go_ret
  unfold GivesB Gd.put;rw[←HFb.o];exact⟨_,rfl,HO1.o,HB1.o⟩
 |true=>
  obtain⟨m,hm⟩:∃m:Nat,n=m:=⟨n.toNat,by have:=HFb.o;unfold Gd.fitsB at this;simp at this;omega⟩;subst hm;have hm63:m≤9223372036854775807:=by have:=HN.o.lo;omega
  go_upto_region 5 with(go_at_call 127;refine(HF.o _).mono ?_;rintro e w2 ⟨rfl,rfl⟩)
  go_loopw[0,16] (fun u z wr=>∃i:Nat,z= .int .i64 i∧i≤k∧OwnB wr w.heap.size u (L++Gd.le m i)∧Below w.heap.size w wr) (fun _ z _=>k-(intOf z).toNat)
  case atStart=>exact⟨0,rfl,by omega,by rw[Gd.le,List.append_nil];exact HO1.o,HB1.o⟩
  case round=>
   obtain⟨i,rfl,hik,hown,hbw⟩:=hrel;by_cases hlt:i<k
   ·have HO:=hid hown;have HB:=hid hbw;have h1:(i:Int)<k:=by omega
    have h2:(i:Int)<8:=by omega
    clear hown hbw;have HV:=hid (byte_val m i);have HL:Hid ((L++Gd.le m i).length<1000000):=hid (by rw[List.length_append,Gd.le_length];omega);go_wp2_with(at_builtin;refine app_byte rfl _ _ rfl w.heap.size u0 (L++Gd.le m i) wr rfl HO.o _ (UInt8.ofNat (m/256^i)) HV.o rfl HL.o HB.o.size ?_)
    intro v' w' ho' hb';have HO':Hid (OwnB w' w.heap.size v' (L++Gd.le m (i+1))):=hid (by rw[put_step];exact ho');have HB':=hid (HB.o.trans hb');clear ho' hb';go_wp2;go_roundw
    case rel=>exact⟨i+1,by go_num,by omega,HO'.o,HB'.o⟩
    case measure=>simp[intOf];omega
   ·obtain rfl:i=k:=by omega
    have HO:=hid hown;have HB:=hid hbw;clear hown hbw;go_wp2;go_ret
    unfold GivesB Gd.put;rw[←HFb.o];exact⟨_,rfl,HO.o,HB.o⟩
theorem part_next{L:List UInt8}{a i:Nat}{x:UInt8}(h:L[a+i]? =some x):(L.drop a).take (i+1)=(L.drop a).take i++[x]:=by
 rw[List.take_add_one,List.getElem?_drop,h];rfl
theorem getN_next{L:List UInt8}{a i:Nat}{x:UInt8}(h:L[a+i]? =some x):Gd.getN L a (i+1)=Gd.getN L a i+256^i*x.toNat:=by
 have hi:=(List.getElem?_eq_some_iff.1 h).1;unfold Gd.getN;rw[part_next h,Gd.unle_snoc,List.length_take,List.length_drop,Nat.min_eq_left (by omega)]
theorem getN_lt(L:List UInt8)(a i:Nat):Gd.getN L a i<256^i:=by
 unfold Gd.getN;exact Nat.lt_of_lt_of_le (Gd.unle_lt _) (Nat.pow_le_pow_right (by decide) (by rw[List.length_take];omega))
theorem u64_wrap(n:Nat)(h:n<18446744073709551616):IntKind.u64.wrap (n:Int)=n:=by
 rw[show IntKind.u64.wrap (n:Int)=(n:Int) % 18446744073709551616 from rfl];omega
theorem or_val{n x i:Nat}(hi:i<8)(hn:n<256^i)(hx:x<256):bits .or .u64 (n:Int) (IntKind.u64.wrap (IntKind.u64.wrap (x:Int)*2^(8*i)))=((n+256^i*x:Nat):Int):=by
 have e:(2:Nat)^(8*i)=256^i:=by rw[Nat.pow_mul]
 have h7:256^i≤256^7:=Nat.pow_le_pow_right (by decide) (by omega);have hm:256^i*x≤256^7*255:=Nat.mul_le_mul h7 (by omega);have h8:(256:Nat)^7*255<18446744073709551616:=by decide
 have h9:(256:Nat)^7<18446744073709551616:=by decide
 have hn64:n<18446744073709551616:=by omega
 have hx64:256^i*x<18446744073709551616:=by omega
 have hs:((x:Int)*2^(8*i))=((256^i*x:Nat):Int):=by
  rw[←e];push_cast
  rw[Int.mul_comm]
 rw[u64_wrap x (by omega),hs,u64_wrap _ hx64,u64_or_nat n _ hn64 hx64];congr 1
 rw[Nat.or_comm,←e,←Nat.two_pow_add_eq_or_of_lt (by rw[e];exact hn),Nat.add_comm]
theorem get_any(v:Value)(L:List UInt8)(at_:Int)(k:Nat)(hk:Gd.wid k)(ha:I64 at_)(w:World)(h:BytesAt w v L)(hl:L.length≤1000000):Calls prog 108 #[v,.int .i64 at_,.int .i64 k] w fun e w'=>e= .returned (.tuple #[.int .i64 (Gd.get L at_ k),.bool (Gd.getB L at_ k)])∧w'=w:=by
 have hk8:k≤8:=by rcases hk with rfl|rfl|rfl|rfl<;>omega
 obtain⟨A,c,rfl,hA⟩:=h;have HR:=hid (room_any A L.length c at_ k hk (by omega) ha);have HA:=hid hA;obtain⟨rb,hrb⟩:=nm ((decide (0≤at_)&&decide (at_+k≤L.length)));rw[←hrb]at HR;have HRb:=hid hrb;have hlo:=ha.lo;clear hA ha hrb
 cases rb with
 |false=>
  go_enter func108,ntmps108;go_wp2_with(go_at_call 136;refine(HR.o _).mono ?_;rintro e w2 ⟨rfl,rfl⟩)
  go_ret2
  have hb:Gd.getB L at_ k=false:=by unfold Gd.getB;rw[←HRb.o];rfl
  unfold Gd.get;rw[hb];exact⟨rfl,rfl⟩
 |true=>
  obtain⟨a,hae⟩:∃a:Nat,at_=a:=⟨at_.toNat,by have:=HRb.o;simp at this;omega⟩;subst hae;have hak:a+k≤L.length:=by have:=HRb.o;simp at this;omega
  obtain⟨b,o,hAA,hbl,hcell⟩:∃b o,A=some ⟨b,o,none⟩∧b<w.heap.size∧∀(j:Nat) (x:UInt8),L[j]? =some x→w.cell? ⟨b,o+j,none⟩=some (.int .u8 x.toNat):=by
   rcases HA.o with⟨_,h,_⟩|h
   ·rw[h]at hak;have h0:a+k≤0:=hak;rcases hk with rfl|rfl|rfl|rfl<;>omega
   ·exact h
  subst hAA;have HC:=hid hcell;clear hcell HA;go_enter func108,ntmps108;go_upto_region 5 with(go_at_call 136;refine(HR.o _).mono ?_;rintro e w2 ⟨rfl,rfl⟩)
  go_loopw[8,16] (fun u z wr=>∃i:Nat,z= .int .i64 i∧u= .int .u64 (Gd.getN L a i)∧i≤k∧wr=w2) (fun _ z _=>k-(intOf z).toNat)
  case atStart=>exact⟨0,rfl,rfl,by omega,rfl⟩
  case round=>
   obtain⟨i,rfl,rfl,hik,rfl⟩:=hrel;by_cases hlt:i<k
   ·obtain⟨x,hx⟩:∃x,L[a+i]? =some x:=⟨_,List.getElem?_eq_getElem (by omega)⟩;have hc:=HC.o _ _ hx;have h1:(i:Int)<k:=by omega
    have h2:(i:Int)<8:=by omega
    have h3:(a:Int)+i<L.length:=by omega
    have h4:(L.length:Int)≤1000000:=by omega
    go_wp2;refine⟨⟨i+1,by go_num,?_,by omega,trivial⟩,by simp[intOf];omega⟩;rw[or_val (by omega) (getN_lt L a i) x.toNat_lt,getN_next hx]
   ·obtain rfl:i=k:=by omega
    have HG:=hid (getN_lt L a i);clear hlt;by_cases h63:Gd.getN L a i<9223372036854775808
    ·have hb:Gd.getB L a i=true:=by
      unfold Gd.getB;rw[Int.toNat_natCast];simp only[Bool.and_eq_true,decide_eq_true_eq];exact⟨⟨by omega,by omega⟩,h63⟩
     have hg:Gd.get L a i=Gd.getN L a i:=by
      unfold Gd.get;rw[if_pos hb,Int.toNat_natCast]
     obtain⟨N,hN⟩:=nm (Gd.getN L a i);rw[←hN]at hg h63;rw[←hN];have HGg:=hid hg;have HGb:=hid hb;clear hN hg hb HG;go_wp2;go_ret2
     exact⟨by rw[HGg.o,HGb.o];rfl,rfl⟩
    ·have hb:Gd.getB L a i=false:=by
      unfold Gd.getB;rw[Int.toNat_natCast,decide_eq_false h63,Bool.and_false]
     have hg:Gd.get L a i=0:=by
      unfold Gd.get;rw[hb];rfl
     have h64:Gd.getN L a i<18446744073709551616:=by
      have h:=HG.o;have:(256:Nat)^i≤256^8:=Nat.pow_le_pow_right (by decide) hk8
      have h8:(256:Nat)^8=18446744073709551616:=by decide
      omega
     obtain⟨N,hN⟩:=nm (Gd.getN L a i);rw[←hN]at h63 h64;rw[←hN];have HGg:=hid hg;have HGb:=hid hb;clear hN hg hb HG;go_wp2;go_ret2
     exact⟨by rw[HGg.o,HGb.o];rfl,rfl⟩
theorem u8_in_u32(c:UInt8):IntKind.u32.wrap (c.toNat:Int)=c.toNat:=by
 rw[show IntKind.u32.wrap (c.toNat:Int)=(c.toNat:Int) % 4294967296 from rfl];have:=c.toNat_lt
 omega
def RegAt(w:World)(g:Nat)(r:Nat):Prop:=w.heap[g]? =some (.cells #[.int .u32 r] 224 (0,0))
theorem setCell_grown(g o:Nat)(w:World)(v:Value):w.grownBy (w.setCell ⟨g,o,none⟩ v) (some g):=
 ⟨rfl,rfl,rfl,by simp[World.setCell],fun k hk hn=>Go.heap_setCell_other w ⟨g,o,none⟩ k v (fun e=>hn (by rw[e]))⟩
theorem grown_trans{a b c:World}{row:Option Nat}(h:a.grownBy b row)(k:b.grownBy c row):a.grownBy c row:=
 ⟨k.os.trans h.os,k.tape.trans h.tape,k.output.trans h.output,Nat.le_trans h.size k.size,fun j hj hn=>(k.block j (Nat.lt_of_lt_of_le hj h.size) hn).trans (h.block j hj hn)⟩
theorem byte_any(g r:Nat)(c:UInt8)(hr:r<4294967296)(w:World)(h:RegAt w g r):Calls prog 159 #[.pointer (some ⟨g,0,none⟩),.int .u8 c.toNat] w fun e w'=>e= .returned (.tuple #[])∧RegAt w' g (Gd.byteStep r c)∧w.grownBy w' (some g):=by
 have hc:=cell_of_row w g 0 _ _ _ h;have hf:=frozen_of_row w g 0 _ _ h;go_enter func159,ntmps159;go_wp2;refine wp_scope_jumps 0 (fun a' w'=>∃(u2 u3 u5 u6 u7 u8 u9 u10 u11 u12 u13 u14 u15 u16 u17 u18 u19 u20 u21 u22 u23 u24 u25 u26 u27 u28 u29 u30 u31 u32 u33 u34 u35 u36 u37 u38 u39:Value) (i:Nat),a'={tmps:=#[.pointer (some ⟨g,0,none⟩),.int .u8 c.toNat,u2,u3,.int .i64 i,u5,u6,u7,u8,u9,u10,u11,u12,u13,u14,u15,u16,u17,u18,u19,u20,u21,u22,u23,u24,u25,u26,u27,u28,u29,u30,u31,u32,u33,u34,u35,u36,u37,u38,u39],defers:=[]}∧i≤7∧RegAt w' g (Gd.bitSteps i (r^^^c.toNat))∧w.grownBy w' (some g)) (fun a' _=>8-(intOf (a'.tmps.getD 4 undef)).toNat) rfl ?_ ?_
 ·have HX:Hid (Gd.bitSteps 0 (r^^^c.toNat)=r^^^c.toNat∧r^^^c.toNat<4294967296):=hid ⟨rfl,Nat.xor_lt_two_pow (n:=32) hr (by have:=c.toNat_lt;omega)⟩;have hx:bits .xor .u32 (r:Int) (c.toNat:Int)=((r^^^c.toNat:Nat):Int):=u32_xor_nat r c.toNat hr (by have:=c.toNat_lt;omega);have hw:=u8_in_u32 c;go_upto_region 1 with fail
  obtain⟨wz,hwz⟩:=nm (w.setCell ⟨g,0,none⟩ (.int .u32 (r^^^c.toNat:Nat)));rw[←hwz];obtain⟨R,hRe⟩:=nm (r^^^c.toNat);have HR:Hid (RegAt wz g R):=hid (by rw[hwz,hRe];exact Go.heap_setCell_same w g 0 _ _ _ h);have HG:Hid (w.grownBy wz (some g)):=hid (by rw[hwz];exact setCell_grown _ _ _ _);have HR2:Hid (R<4294967296):=hid (by rw[hRe];exact HX.o.2);have HE:Hid (R=Gd.bitSteps 0 (r^^^c.toNat)):=hid hRe;clear hwz hc hf hx hw HX;rw[←hRe];clear hRe;go_wp2;go_step3
  have hcell:=cell_of_row wz g 0 _ _ _ HR.o;have hfr:=frozen_of_row wz g 0 _ _ HR.o;have hR2:=HR2.o;by_cases hp:R % 2=1
  ·have hand:bits .and .u32 (R:Int) 1=1:=by rw[show(1:Int)=((1:Nat):Int) from rfl,u32_and_nat R 1 hR2 (by decide),Nat.and_one_is_mod,hp]
   have hs:Hid (Gd.bitStep R=R/2^^^Gd.poly):=hid (by unfold Gd.bitStep;rw[if_pos hp]);have hx2:bits .xor .u32 ((R:Int)/2) 3988292384=((R/2^^^Gd.poly:Nat):Int):=u32_xor_nat (R/2) 3988292384 (by omega) (by decide);have HN:Hid (RegAt (wz.setCell ⟨g,0,none⟩ (.int .u32 ((R/2^^^Gd.poly:Nat):Int))) g (Gd.bitSteps (0+1) (r^^^c.toNat))∧w.grownBy (wz.setCell ⟨g,0,none⟩ (.int .u32 ((R/2^^^Gd.poly:Nat):Int))) (some g)):=hid ⟨by rw[Gd.bitSteps,←HE.o,hs.o];exact Go.heap_setCell_same wz g 0 _ _ _ HR.o,grown_trans HG.o (setCell_grown _ _ _ _)⟩;go_wp2;go_step3
   exact⟨rfl,_,_,_,_,_,_,_,_,_,_,_,_,_,_,_,_,_,_,_,_,_,_,_,_,_,_,_,_,_,_,_,_,_,_,_,_,_,1,rfl,by omega,HN.o.1,HN.o.2⟩
  ·have hand:bits .and .u32 (R:Int) 1=0:=by
    rw[show(1:Int)=((1:Nat):Int) from rfl,u32_and_nat R 1 hR2 (by decide),Nat.and_one_is_mod,show R % 2=0 by omega];rfl
   have hs:Hid (Gd.bitStep R=R/2):=hid (by unfold Gd.bitStep;rw[if_neg hp]);have hx2:((R:Int)/2)=((R/2:Nat):Int):=by omega
   have HN:Hid (RegAt (wz.setCell ⟨g,0,none⟩ (.int .u32 ((R:Int)/2))) g (Gd.bitSteps (0+1) (r^^^c.toNat))∧w.grownBy (wz.setCell ⟨g,0,none⟩ (.int .u32 ((R:Int)/2))) (some g)):=hid ⟨by rw[Gd.bitSteps,←HE.o,hs.o,hx2];exact Go.heap_setCell_same wz g 0 _ _ _ HR.o,grown_trans HG.o (setCell_grown _ _ _ _)⟩;clear hx2;go_wp2;go_step3
   exact⟨rfl,_,_,_,_,_,_,_,_,_,_,_,_,_,_,_,_,_,_,_,_,_,_,_,_,_,_,_,_,_,_,_,_,_,_,_,_,_,1,rfl,by omega,HN.o.1,HN.o.2⟩
 ·rintro a' wz ⟨u2,u3,u5,u6,u7,u8,u9,u10,u11,u12,u13,u14,u15,u16,u17,u18,u19,u20,u21,u22,u23,u24,u25,u26,u27,u28,u29,u30,u31,u32,u33,u34,u35,u36,u37,u38,u39,i,rfl,hi,hR,hG⟩;obtain⟨R,hRe⟩:=nm (Gd.bitSteps i (r^^^c.toNat));rw[←hRe]at hR;have HR:=hid hR;have HG:=hid hG;have HR2:Hid (R<4294967296):=hid (by rw[hRe];exact Gd.bitSteps_lt _ (Nat.xor_lt_two_pow (n:=32) hr (by have:=c.toNat_lt;omega)));have HE:=hid hRe;clear hR hG hRe;have hcell:=cell_of_row wz g 0 _ _ _ HR.o;have hfr:=frozen_of_row wz g 0 _ _ HR.o;have hR2:=HR2.o;by_cases hp:R % 2=1
  ·have hand:bits .and .u32 (R:Int) 1=1:=by rw[show(1:Int)=((1:Nat):Int) from rfl,u32_and_nat R 1 hR2 (by decide),Nat.and_one_is_mod,hp]
   have hs:Hid (Gd.bitStep R=R/2^^^Gd.poly):=hid (by unfold Gd.bitStep;rw[if_pos hp]);have hx2:bits .xor .u32 ((R:Int)/2) 3988292384=((R/2^^^Gd.poly:Nat):Int):=u32_xor_nat (R/2) 3988292384 (by omega) (by decide);have HN:Hid (RegAt (wz.setCell ⟨g,0,none⟩ (.int .u32 ((R/2^^^Gd.poly:Nat):Int))) g (Gd.bitSteps (i+1) (r^^^c.toNat))∧w.grownBy (wz.setCell ⟨g,0,none⟩ (.int .u32 ((R/2^^^Gd.poly:Nat):Int))) (some g)):=hid ⟨by rw[Gd.bitSteps,←HE.o,hs.o];exact Go.heap_setCell_same wz g 0 _ _ _ HR.o,grown_trans HG.o (setCell_grown _ _ _ _)⟩;by_cases h7:i=7
   ·subst h7;go_wp2;simp only[Exit.jump];go_end0
    exact⟨rfl,HN.o.1,HN.o.2⟩
   ·have hi7:(i:Int)<7:=by omega
    go_wp2;go_step3
    exact⟨rfl,⟨_,_,_,_,_,_,_,_,_,_,_,_,_,_,_,_,_,_,_,_,_,_,_,_,_,_,_,_,_,_,_,_,_,_,_,_,_,i+1,by go_num,by omega,HN.o.1,HN.o.2⟩,by simp[intOf];omega⟩
  ·have hand:bits .and .u32 (R:Int) 1=0:=by
    rw[show(1:Int)=((1:Nat):Int) from rfl,u32_and_nat R 1 hR2 (by decide),Nat.and_one_is_mod,show R % 2=0 by omega];rfl
   have hs:Hid (Gd.bitStep R=R/2):=hid (by unfold Gd.bitStep;rw[if_neg hp]);have hx2:((R:Int)/2)=((R/2:Nat):Int):=by omega
   have HN:Hid (RegAt (wz.setCell ⟨g,0,none⟩ (.int .u32 ((R:Int)/2))) g (Gd.bitSteps (i+1) (r^^^c.toNat))∧w.grownBy (wz.setCell ⟨g,0,none⟩ (.int .u32 ((R:Int)/2))) (some g)):=hid ⟨by rw[Gd.bitSteps,←HE.o,hs.o,hx2];exact Go.heap_setCell_same wz g 0 _ _ _ HR.o,grown_trans HG.o (setCell_grown _ _ _ _)⟩;clear hx2;by_cases h7:i=7
   ·subst h7;go_wp2;simp only[Exit.jump];go_end0
    exact⟨rfl,HN.o.1,HN.o.2⟩
   ·have hi7:(i:Int)<7:=by omega
    go_wp2;go_step3
    exact⟨rfl,⟨_,_,_,_,_,_,_,_,_,_,_,_,_,_,_,_,_,_,_,_,_,_,_,_,_,_,_,_,_,_,_,_,_,_,_,_,_,i+1,by go_num,by omega,HN.o.1,HN.o.2⟩,by simp[intOf];omega⟩
theorem crcnew_any(w:World):Calls prog 137 #[] w fun e w'=>e= .returned (.pointer (some ⟨w.heap.size,0,none⟩))∧RegAt w' w.heap.size Gd.ones∧Below w.heap.size w w':=by
 go_enter func137,ntmps137;go_wp2;go_ret
 exact⟨rfl,heap_alloc_new _ _,(Below.refl _ w).alloc (Nat.le_refl _) _⟩
theorem crcadd_any(g r:Nat)(v:Value)(L:List UInt8)(hr:r<4294967296)(w:World)(h:RegAt w g r)(hb:BytesAt w v L)(hne:∀A n c,v= .slice A n c→∀b o,A=some ⟨b,o,none⟩→b≠g)(hl:L.length≤1000000):
 Calls prog 138 #[.pointer (some ⟨g,0,none⟩),v] w fun e w'=>e= .returned (.tuple #[])∧RegAt w' g (Gd.crcR r L)∧w.grownBy w' (some g):=by
 obtain⟨A,c,rfl,hA⟩:=hb;have HH:=hid h;have HA:=hid hA;have HNe:=hid hne;obtain⟨n,hn⟩:=nm L.length;rw[←hn];rw[←hn]at hl;have Hn:=hid hn;clear h hA hne hn;go_enter func138,ntmps138;go_upto_region 1 with fail
 go_loopw[8] (fun z wr=>∃i:Nat,z= .int .i64 i∧i≤n∧Hid (RegAt wr g (Gd.crcR r (L.take i)))∧Hid (w.grownBy wr (some g))) (fun z _=>n-(intOf z).toNat)
 case atStart=>exact⟨0,rfl,by omega,HH,hid (World.grownBy.refl _ _)⟩
 case round=>
  obtain⟨i,rfl,hin,HR,HG⟩:=hrel;by_cases hlt:i<n
  ·obtain⟨x,hx⟩:∃x,L[i]? =some x:=⟨_,List.getElem?_eq_getElem (by have:=Hn.o;omega)⟩;rcases HA.o with⟨_,h0,_⟩|⟨b,o,rfl,hbl,hcell⟩
   ·rw[h0]at hx;simp at hx
   have hbg:=HNe.o _ _ _ rfl b o rfl;have hc:=(World.cell?_of_block (a:=⟨b,o+i,none⟩) (HG.o.block b hbl (fun e=>hbg (Option.some.inj e)))).trans (hcell i x hx);have h1:(i:Int)<n:=by omega
   have h0:(0:Int)≤i:=by omega
   have HS:Hid (Gd.crcR r (L.take (i+1))=Gd.byteStep (Gd.crcR r (L.take i)) x):=hid (by rw[List.take_add_one,hx];exact Gd.crcR_snoc _ _ _);have HY:=hid (byte_any g (Gd.crcR r (L.take i)) x (Gd.crcR_lt _ hr) wr HR.o);clear hx hcell hbg hlt;go_wp2_with fail
   refine HY.o.mono ?_;rintro e w2 ⟨rfl,hR2,hG2⟩;have HR2:Hid (RegAt w2 g (Gd.crcR r (L.take (i+1)))):=hid (by rw[HS.o];exact hR2);have HG2:=hid (grown_trans HG.o hG2);clear hR2 hG2 hc HY;go_wp2;go_roundw
   case rel=>exact⟨i+1,by go_num,by omega,HR2,HG2⟩
   case measure=>simp[intOf];omega
  ·obtain rfl:i=n:=by omega
   clear hlt;go_wp2;go_end0
   have:=HR.o
   rw[List.take_of_length_le (by have:=Hn.o;omega)]at this;exact⟨rfl,this,HG.o⟩
theorem xor_ones(r:Nat)(h:r<4294967296):4294967295^^^r=4294967295-r:=by
 have:=congrArg BitVec.toNat (BitVec.allOnes_xor (x:=BitVec.ofNat 32 r))
 simpa [BitVec.toNat_xor,BitVec.toNat_allOnes,BitVec.toNat_not,BitVec.toNat_ofNat,Nat.mod_eq_of_lt h]using this
theorem not32(r:Nat)(h:r<4294967296):bits .xor .u32 IntKind.u32.max (r:Int)=((Gd.ones-r:Nat):Int):=by
 rw[show IntKind.u32.max=((4294967295:Nat):Int) from rfl,u32_xor_nat _ r (by decide) h,xor_ones r h];rfl
theorem crcsumm_any(g r:Nat)(hr:r<4294967296)(w:World)(h:RegAt w g r):Calls prog 139 #[.pointer (some ⟨g,0,none⟩)] w fun e w'=>e= .returned (.int .u32 (Gd.ones-r:Nat))∧w'=w:=by
 have hc:=cell_of_row w g 0 _ _ _ h;go_enter func139,ntmps139;go_wp2;go_ret
 exact⟨by rw[←not32 r hr];rfl,rfl⟩
theorem crc_any(v:Value)(L:List UInt8)(w:World)(hb:BytesAt w v L)(hl:L.length≤1000000):Calls prog 109 #[v] w fun e w'=>e= .returned (.int .u32 (Gd.crc L))∧Below w.heap.size w w':=by
 have HB:=hid hb;clear hb;go_enter func109,ntmps109;go_wp2_with fail
 refine(crcnew_any w).mono ?_
 rintro e w1 ⟨rfl,hR1,hb1⟩;have HA:=hid (crcadd_any w.heap.size Gd.ones v L (by decide) w1 hR1 (HB.o.keep hb1) (fun A n c hv b o hA=>by
  obtain⟨A',c',hv',h⟩:=HB.o;rw[hv']at hv
  cases hv
  rcases h with⟨h,_⟩|⟨b',o',h,hb,_⟩
  ·rw[h]at hA;cases hA
  ·rw[h]at hA;cases hA;omega) hl)
 have HB1:=hid hb1;clear hR1 hb1;go_wp2_with fail
 refine HA.o.mono ?_;rintro e w2 ⟨rfl,hR2,hg2⟩;have HS:=hid (crcsumm_any w.heap.size (Gd.crcR Gd.ones L) (Gd.crcR_lt _ (by decide)) w2 hR2);have HB2:=hid (HB1.o.trans (below_grown hg2 HB1.o.size (fun k hk=>by cases hk;exact Nat.le_refl _)));clear hR2 hg2 HA;go_wp2_with fail
 refine HS.o.mono ?_;rintro e w3 ⟨rfl,rfl⟩;go_wp2;go_ret
 exact⟨rfl,HB2.o⟩
namespace Gd
def part(S:List UInt8)(at_ n:Nat):List UInt8:=(S.drop at_).take n
def splice(S:List UInt8)(at_:Nat)(b:List UInt8):List UInt8:=S.take at_++(b++S.drop (at_+b.length))
theorem part_length{S:List UInt8}{k n:Nat}(h:k+n≤S.length):(part S k n).length=n:=by
 unfold part;rw[List.length_take,List.length_drop];omega
theorem part_get{S:List UInt8}{k n i:Nat}(hi:i<n):(part S k n)[i]? =S[k+i]? :=by
 unfold part;rw[List.getElem?_take_of_lt hi,List.getElem?_drop]
theorem splice_length{S:List UInt8}{k:Nat}{b:List UInt8}(h:k+b.length≤S.length):(splice S k b).length=S.length:=by
 unfold splice;rw[List.length_append,List.length_append,List.length_take,List.length_drop];omega
theorem splice_get{S:List UInt8}{k:Nat}{b:List UInt8}(h:k+b.length≤S.length)(i:Nat):(splice S k b)[i]? =if k≤i∧i<k+b.length then b[i-k]? else S[i]? :=by
 unfold splice;have hl:(S.take k).length=k:=by rw[List.length_take];omega
 by_cases h1:i<k
 ·rw[if_neg (by omega),List.getElem?_append_left (by omega),List.getElem?_take_of_lt h1]
 ·rw[List.getElem?_append_right (by omega),hl];by_cases h2:i<k+b.length
  ·rw[if_pos ⟨by omega,h2⟩,List.getElem?_append_left (by omega)]
  ·rw[if_neg (by omega),List.getElem?_append_right (by omega),List.getElem?_drop];congr 1
   omega
theorem splice_nil(S:List UInt8)(k:Nat):splice S k []=S:=by
 unfold splice;simp
theorem part_ext{S T:List UInt8}{k n:Nat}(hS:k+n≤S.length)(hT:k+n≤T.length)(h:∀i,k≤i→i<k+n→S[i]? =T[i]?):part S k n=part T k n:=by
 apply List.ext_getElem?
 intro i;by_cases hi:i<n
 ·rw[part_get hi,part_get hi];exact h _ (by omega) (by omega)
 ·rw[List.getElem?_eq_none (by rw[part_length hS];omega),List.getElem?_eq_none (by rw[part_length hT];omega)]
theorem part_splice_apart{S:List UInt8}{k n j:Nat}{b:List UInt8}(hS:k+n≤S.length)(hb:j+b.length≤S.length)(h:k+n≤j∨j+b.length≤k):part (splice S j b) k n=part S k n:=
 part_ext (by rw[splice_length hb];exact hS) hS fun i h1 h2=>by
  rw[splice_get hb,if_neg (by omega)]
theorem part_splice_same{S:List UInt8}{k:Nat}{b:List UInt8}(hb:k+b.length≤S.length):part (splice S k b) k b.length=b:=by
 apply List.ext_getElem?
 intro i;by_cases hi:i<b.length
 ·rw[part_get hi,splice_get hb,if_pos (by omega)];congr 1
  omega
 ·rw[List.getElem?_eq_none (by rw[part_length (by rw[splice_length hb];exact hb)];omega),List.getElem?_eq_none (by omega)]
abbrev Pa:=Nat×List UInt8
def overFrom(k:Nat)(p:Pa):Nat:=max k p.1
def overTo(k n:Nat)(p:Pa):Nat:=min (k+n) (p.1+p.2.length)
def over(b:List UInt8)(k:Nat)(p:Pa):List UInt8:=
 if overFrom k p<overTo k b.length p then splice b (overFrom k p-k) (part p.2 (overFrom k p-p.1) (overTo k b.length p-overFrom k p))else b
theorem over_part{S:List UInt8}{k n:Nat}{p:Pa}(hS:k+n≤S.length)(hp:p.1+p.2.length≤S.length):over (part S k n) k p=part (splice S p.1 p.2) k n:=by
 have hl:(part S k n).length=n:=part_length hS;unfold over;rw[hl];by_cases h:overFrom k p<overTo k n p
 ·rw[if_pos h];unfold overFrom overTo at h;have hlen:(part p.2 (overFrom k p-p.1) (overTo k n p-overFrom k p)).length=overTo k n p-overFrom k p:=part_length (by unfold overFrom overTo;omega);apply List.ext_getElem?
  intro i;by_cases hi:i<n
  ·rw[splice_get (by rw[hlen,hl];unfold overFrom overTo;omega),hlen,part_get hi,part_get hi,splice_get hp];by_cases h1:p.1≤k+i∧k+i<p.1+p.2.length
   ·rw[if_pos h1,if_pos (by unfold overFrom overTo;omega),part_get (by unfold overFrom overTo;omega)];congr 1
    unfold overFrom;omega
   ·rw[if_neg h1,if_neg (by unfold overFrom overTo;omega)]
  ·rw[List.getElem?_eq_none (by rw[splice_length (by rw[hlen,hl];unfold overFrom overTo;omega),hl];omega),List.getElem?_eq_none (by rw[part_length (by rw[splice_length hp];exact hS)];omega)]
 ·rw[if_neg h];unfold overFrom overTo at h;refine(part_ext (by rw[splice_length hp];exact hS) hS fun i h1 h2=> ?_).symm
  rw[splice_get hp,if_neg (by omega)]
def view(S:List UInt8)(P:List Pa):List UInt8:=P.foldl (fun S p=>splice S p.1 p.2) S
def Fit(n:Nat)(P:List Pa):Prop:=∀p∈P,p.1+p.2.length≤n
theorem view_length:∀{P:List Pa} {S:List UInt8},Fit S.length P→(view S P).length=S.length
 |[],S,_=>rfl
 |p::r,S,h=>by
  have hp:=h p (List.mem_cons_self ..);have hl:=splice_length hp;have:=view_length (P:=r) (S:=splice S p.1 p.2) (fun q hq=>by rw[hl];exact h q (List.mem_cons_of_mem _ hq))
  show(view (splice S p.1 p.2) r).length=_
  rw[this,hl]
theorem view_snoc(S:List UInt8)(P:List Pa)(p:Pa):view S (P++[p])=splice (view S P) p.1 p.2:=by
 unfold view;rw[List.foldl_append];rfl
def overs(b:List UInt8)(k:Nat)(P:List Pa):List UInt8:=P.foldl (fun b p=>over b k p) b
theorem overs_part:∀{P:List Pa} {S:List UInt8} {k n:Nat},k+n≤S.length→Fit S.length P→overs (part S k n) k P=part (view S P) k n
 |[],S,k,n,_,_=>rfl
 |p::r,S,k,n,hS,h=>by
  have hp:=h p (List.mem_cons_self ..);have hl:=splice_length hp;show overs (over (part S k n) k p) k r=part (view (splice S p.1 p.2) r) k n
  rw[over_part hS hp];exact overs_part (by rw[hl];exact hS) (fun q hq=>by rw[hl];exact h q (List.mem_cons_of_mem _ hq))
end Gd
namespace Gd
structure Ino where
 k:Int
 l:Int
 s:Int
 B:List Int
 O:List Int
def noIno:Ino:=⟨0,0,0,[0,0,0,0],[0,0,0,0,0,0,0,0]⟩
def Ino.Shape(x:Ino):Prop:=x.B.length=4∧x.O.length=8
def blkB(kind size:Int):Nat→List Int→List Int→Bool
 |_,_,[]=>true
 |k,had,b::r=>decide (0≤b)&&decide (b≤128)&& !(decide (0<b)&&had.contains b)&& !(decide (kind=1)&&(decide (0<b) !=decide ((64*k:Int)<size)))&&blkB kind size (k+1) (had++[b]) r
def opnB(most:Int)(O:List Int):Bool:=O.all fun n=>decide (0≤n)&&decide (n≤most)
def mayI(x:Ino):Bool:=
 if x.k=0 then decide (x.l=0)&&decide (x.s=0)&&x.B.all (· ==0)&&x.O.all (· ==0)
 else if x.k=1 then decide (0≤x.l)&&decide (x.l≤20)&&decide (0≤x.s)&&decide (x.s≤256)&&opnB 8 x.O&&blkB 1 x.s 0 [] x.B
 else if x.k=2 then decide (x.l=1)&&decide (0≤x.s)&&decide (x.s≤16)&&opnB 0 x.O&&blkB 2 x.s 0 [] x.B
 else false
def byteOf(n:Int):UInt8:=UInt8.ofNat n.toNat
def inoBody(x:Ino):List UInt8:=le x.k.toNat 1++le x.l.toNat 1++le x.s.toNat 2++x.B.map byteOf++x.O.map byteOf++List.replicate 44 0
def sealB(b:List UInt8):List UInt8:=b++le (crc b) 4
def inoB(x:Ino):List UInt8:=if x.k=0 then List.replicate 64 0 else sealB (inoBody x)
theorem inoBody_length{x:Ino}(h:x.Shape):(inoBody x).length=60:=by
 unfold inoBody;simp only[List.length_append,le_length,List.length_map,h.1,h.2,List.length_replicate]
theorem sealB_length(b:List UInt8):(sealB b).length=b.length+4:=by
 unfold sealB;rw[List.length_append,le_length]
theorem inoB_length{x:Ino}(h:x.Shape):(inoB x).length=64:=by
 unfold inoB;split
 ·exact List.length_replicate
 ·rw[sealB_length,inoBody_length h]
theorem blkB_in{kind size:Int}:∀{L:List Int} {k:Nat} {had:List Int},blkB kind size k had L=true→∀b∈L,0≤b∧b≤128
 |[],_,_,_,b,hb=>by cases hb
 |a::r,k,had,h,b,hb=>by
  simp only[blkB,Bool.and_eq_true,decide_eq_true_eq]at h;rcases List.mem_cons.1 hb with rfl|hb
  ·exact⟨h.1.1.1.1,h.1.1.1.2⟩
  ·exact blkB_in h.2 b hb
theorem opnB_in{most:Int}{L:List Int}(h:opnB most L=true):∀b∈L,0≤b∧b≤most:=fun b hb=>by
 have:=List.all_eq_true.1 h b hb
 simpa using this
structure InoIn(x:Ino):Prop where
 k:0≤x.k∧x.k≤2
 l:0≤x.l∧x.l≤20
 s:0≤x.s∧x.s≤256
 B:∀b∈x.B,0≤b∧b≤128
 O:∀b∈x.O,0≤b∧b≤8
theorem mayI_in{x:Ino}(h:mayI x=true):InoIn x:=by
 unfold mayI at h;split at h
 ·rename_i hk
  simp only[Bool.and_eq_true,decide_eq_true_eq,List.all_eq_true,beq_iff_eq]at h;obtain⟨⟨⟨h1,h2⟩,h3⟩,h4⟩:=h;exact⟨by omega,by omega,by omega,fun b hb=>by have:=h3 b hb;omega,fun b hb=>by have:=h4 b hb;omega⟩
 ·split at h
  ·rename_i hk
   simp only[Bool.and_eq_true,decide_eq_true_eq]at h;obtain⟨⟨⟨⟨⟨h1,h2⟩,h3⟩,h4⟩,h5⟩,h6⟩:=h;exact⟨by omega,by omega,by omega,blkB_in h6,opnB_in h5⟩
  ·split at h
   ·rename_i hk
    simp only[Bool.and_eq_true,decide_eq_true_eq]at h;obtain⟨⟨⟨⟨h1,h2⟩,h3⟩,h5⟩,h6⟩:=h;exact⟨by omega,by omega,by omega,blkB_in h6,fun b hb=>by have:=opnB_in h5 b hb;omega⟩
   ·cases h
theorem mayI_zero{x:Ino}(hs:x.Shape)(h:mayI x=true)(hk:x.k=0):x=noIno:=by
 obtain⟨k,l,s,B,O⟩:=x;obtain⟨h1,h2⟩:=hs;unfold mayI at h;rw[if_pos hk]at h;simp only[Bool.and_eq_true,decide_eq_true_eq,List.all_eq_true,beq_iff_eq]at h;obtain⟨⟨⟨h3,h4⟩,h5⟩,h6⟩:=h;have e1:B=[0,0,0,0]:=List.eq_replicate_iff.2 ⟨h1,h5⟩;have e2:O=[0,0,0,0,0,0,0,0]:=List.eq_replicate_iff.2 ⟨h2,h6⟩;simp only at hk h3 h4
 rw[hk,h3,h4,e1,e2];rfl
end Gd
namespace Gd
structure Vol where
 ino:Nat→Ino
 map:List UInt8
 blk:Nat→List UInt8
 head:List UInt8
 logs:List UInt8
def size:Nat:=23168
def inoAt(i:Nat):Nat:=640+64*(i-1)
def blkAt(n:Nat):Nat:=14976+64*(n-1)
structure Good(V:List UInt8)(M:Vol):Prop where
 len:V.length=23168
 shape:∀i,1≤i→i≤32→(M.ino i).Shape
 may:∀i,1≤i→i≤32→mayI (M.ino i)=true
 ino:∀i,1≤i→i≤32→part V (inoAt i) 64=inoB (M.ino i)
 mapl:M.map.length=16
 map:part V 576 16=M.map
 blkl:∀n,1≤n→n≤128→(M.blk n).length=64
 blk:∀n,1≤n→n≤128→part V (blkAt n) 64=M.blk n
 head:part V 0 576=M.head
 logs:part V 6784 8192=M.logs
def Vol.setIno(M:Vol)(i:Nat)(x:Ino):Vol:={M with ino:=fun j=>if j=i then x else M.ino j}
def Vol.setMap(M:Vol)(m:List UInt8):Vol:={M with map:=m}
def Vol.setBlk(M:Vol)(n:Nat)(b:List UInt8):Vol:={M with blk:=fun j=>if j=n then b else M.blk j}
theorem Good.setIno{V:List UInt8}{M:Vol}(h:Good V M){i:Nat}{x:Ino}(h1:1≤i)(h2:i≤32)(hs:x.Shape)(hm:mayI x=true):Good (splice V (inoAt i) (inoB x)) (M.setIno i x):=by
 have hl:(inoB x).length=64:=inoB_length hs;have hV:=h.len;have hf:inoAt i+(inoB x).length≤V.length:=by rw[hl];unfold inoAt;omega
 refine⟨by rw[splice_length hf];exact hV,fun j j1 j2=> ?_,fun j j1 j2=> ?_,fun j j1 j2=> ?_,h.mapl,?_,h.blkl,fun n n1 n2=> ?_,?_,?_⟩
 ·show(if j=i then x else M.ino j).Shape
  split
  ·exact hs
  ·exact h.shape j j1 j2
 ·show mayI (if j=i then x else M.ino j)=true
  split
  ·exact hm
  ·exact h.may j j1 j2
 ·show part _ _ _=inoB (if j=i then x else M.ino j)
  by_cases e:j=i
  ·subst e;rw[if_pos rfl];have:=part_splice_same hf
   rw[hl]at this;exact this
  ·rw[if_neg e,part_splice_apart (by unfold inoAt;omega) hf (by rw[hl];unfold inoAt;omega)];exact h.ino j j1 j2
 ·rw[part_splice_apart (by omega) hf (by rw[hl];unfold inoAt;omega)];exact h.map
 ·rw[part_splice_apart (by unfold blkAt;omega) hf (by rw[hl];unfold inoAt blkAt;omega)];exact h.blk n n1 n2
 ·rw[part_splice_apart (by omega) hf (by rw[hl];unfold inoAt;omega)];exact h.head
 ·rw[part_splice_apart (by omega) hf (by rw[hl];unfold inoAt;omega)];exact h.logs
theorem Good.setMap{V:List UInt8}{M:Vol}(h:Good V M){m:List UInt8}(hm:m.length=16):Good (splice V 576 m) (M.setMap m):=by
 have hV:=h.len;have hf:576+m.length≤V.length:=by omega
 refine⟨by rw[splice_length hf];exact hV,h.shape,h.may,fun j j1 j2=> ?_,hm,?_,h.blkl,fun n n1 n2=> ?_,?_,?_⟩
 ·rw[part_splice_apart (by unfold inoAt;omega) hf (by unfold inoAt;omega)];exact h.ino j j1 j2
 ·have:=part_splice_same hf
  rw[hm]at this;exact this
 ·rw[part_splice_apart (by unfold blkAt;omega) hf (by unfold blkAt;omega)];exact h.blk n n1 n2
 ·rw[part_splice_apart (by omega) hf (by omega)];exact h.head
 ·rw[part_splice_apart (by omega) hf (by omega)];exact h.logs
theorem Good.setBlk{V:List UInt8}{M:Vol}(h:Good V M){n:Nat}{b:List UInt8}(h1:1≤n)(h2:n≤128)(hb:b.length=64):Good (splice V (blkAt n) b) (M.setBlk n b):=by
 have hV:=h.len;have hf:blkAt n+b.length≤V.length:=by unfold blkAt;omega
 refine⟨by rw[splice_length hf];exact hV,h.shape,h.may,fun j j1 j2=> ?_,h.mapl,?_,fun k k1 k2=> ?_,fun k k1 k2=> ?_,?_,?_⟩
 ·rw[part_splice_apart (by unfold inoAt;omega) hf (by unfold inoAt blkAt;omega)];exact h.ino j j1 j2
 ·rw[part_splice_apart (by omega) hf (by unfold blkAt;omega)];exact h.map
 ·show(if k=n then b else M.blk k).length=64
  split
  ·exact hb
  ·exact h.blkl k k1 k2
 ·show part _ _ _=(if k=n then b else M.blk k)
  by_cases e:k=n
  ·subst e;rw[if_pos rfl];have:=part_splice_same hf
   rw[hb]at this;exact this
  ·rw[if_neg e,part_splice_apart (by unfold blkAt;omega) hf (by rw[hb];unfold blkAt;omega)];exact h.blk k k1 k2
 ·rw[part_splice_apart (by omega) hf (by unfold blkAt;omega)];exact h.head
 ·rw[part_splice_apart (by omega) hf (by unfold blkAt;omega)];exact h.logs
theorem Good.same{V W:List UInt8}{M:Vol}(h:Good V M)(hl:W.length=V.length)(hs:∀i,i<2688∨6784≤i→W[i]? =V[i]?):Good W M:=by
 have hV:=h.len;refine⟨hl.trans hV,h.shape,h.may,fun j j1 j2=> ?_,h.mapl,?_,h.blkl,fun n n1 n2=> ?_,?_,?_⟩
 ·rw[←h.ino j j1 j2];exact part_ext (by unfold inoAt;omega) (by unfold inoAt;omega) fun i i1 i2=>hs i (by unfold inoAt at i2;omega)
 ·rw[←h.map];exact part_ext (by omega) (by omega) fun i i1 i2=>hs i (by omega)
 ·rw[←h.blk n n1 n2];exact part_ext (by unfold blkAt;omega) (by unfold blkAt;omega) fun i i1 i2=>hs i (by unfold blkAt at i1;omega)
 ·rw[←h.head];exact part_ext (by omega) (by omega) fun i i1 i2=>hs i (by omega)
 ·rw[←h.logs];exact part_ext (by omega) (by omega) fun i i1 i2=>hs i (by omega)
end Gd
end Go.Proofs.YtckoobkjpndgnaaGreatDoor
