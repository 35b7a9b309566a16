/- Walks: the layout: all parts of a volume, one after the other. -/
import Derived.Test.YtckoobkjpndgnaaGreatDoorW01
import Derived.RangeFuncNested
import Derived.RangeFuncKeeps
import Derived.RangeFuncLeaves
import Derived.RangeFuncCalls
import Derived.RangeFuncBox
import Derived.Shelf.Abstract
import Derived.OwnWalkIn
import Derived.TacticsInMore
import Derived.LoopNIn
import Derived.LoopIn
set_option linter.unusedVariables false
set_option linter.unusedSimpArgs false
set_option linter.unusedSectionVars false
set_option maxHeartbeats 8000000
set_option maxRecDepth 100000
namespace Go.Proofs.YtckoobkjpndgnaaGreatDoor
open Go.RowKit
open Lib(hid)
open Go.Proofs.Tryz
section
open Go.Shelf
attribute [local go_sem] Oper.semAt_some
namespace Gd
structure Pt where
 k:Nat
 n:Nat
 a:Nat
 s:Nat
structure Ro where
 k:Nat
 m:Nat
 s:Nat
 a:Nat
def rowsT:List Ro:=[⟨1,0,64,0⟩,⟨2,8,64,64⟩,⟨3,0,64,576⟩,⟨4,32,64,640⟩,⟨5,0,4096,2688⟩,⟨6,8,1024,6784⟩,⟨7,128,64,14976⟩]
def rowP(r:Ro):List Pt:=(List.range (max 1 r.m)).map fun j=>⟨r.k,if r.m=0 then 0 else j+1,r.a+j*r.s,r.s⟩
def partsL:List Pt:=rowsT.flatMap rowP
def startOf(i:Nat):Nat:=match rowsT[i]? with|some r=>r.a|none=>23168
theorem start_next{i:Nat}{r:Ro}(h:rowsT[i]? =some r):startOf i=r.a∧startOf (i+1)=r.a+max 1 r.m*r.s∧r.k≤7∧(r.m=0∨(2≤r.m∧r.m≤128))∧r.s≤4096∧r.a≤14976:=by
 match i,h with
 |0,h=>cases h;exact⟨rfl,rfl,by decide,by decide,by decide,by decide⟩
 |1,h=>cases h;exact⟨rfl,rfl,by decide,by decide,by decide,by decide⟩
 |2,h=>cases h;exact⟨rfl,rfl,by decide,by decide,by decide,by decide⟩
 |3,h=>cases h;exact⟨rfl,rfl,by decide,by decide,by decide,by decide⟩
 |4,h=>cases h;exact⟨rfl,rfl,by decide,by decide,by decide,by decide⟩
 |5,h=>cases h;exact⟨rfl,rfl,by decide,by decide,by decide,by decide⟩
 |6,h=>cases h;exact⟨rfl,rfl,by decide,by decide,by decide,by decide⟩
 |n+7,h=>simp[rowsT]at h
theorem rowP_length(r:Ro):(rowP r).length=max 1 r.m:=by
 unfold rowP;rw[List.length_map,List.length_range]
theorem rowP_get{r:Ro}{j:Nat}(h:j<max 1 r.m):(rowP r)[j]? =some ⟨r.k,if r.m=0 then 0 else j+1,r.a+j*r.s,r.s⟩:=by
 unfold rowP;rw[List.getElem?_map,List.getElem?_range h];rfl
def preP(i j:Nat):List Pt:=(rowsT.take i).flatMap rowP++match rowsT[i]? with|some r=>(rowP r).take j|none=>[]
theorem preP_step{i j:Nat}{r:Ro}(h:rowsT[i]? =some r)(hj:j<max 1 r.m):preP i (j+1)=preP i j++[⟨r.k,if r.m=0 then 0 else j+1,r.a+j*r.s,r.s⟩]:=by
 unfold preP;rw[h];simp only
 rw[List.take_add_one,rowP_get hj,List.append_assoc];rfl
theorem preP_row{i:Nat}{r:Ro}(h:rowsT[i]? =some r):preP i (max 1 r.m)=preP (i+1) 0:=by
 unfold preP;rw[h];simp only
 rw[List.take_of_length_le (l:=rowP r) (by rw[rowP_length];exact Nat.le_refl _),List.take_add_one,h];simp only[Option.toList,List.flatMap_append,List.flatMap_cons,List.flatMap_nil,List.append_nil]
 cases rowsT[i+1]? <;>simp
theorem preP_end:preP 7 0=partsL:=by kernel_rfl
theorem preP_short{i j:Nat}{r:Ro}(h:rowsT[i]? =some r)(hj:j<max 1 r.m):(preP i j).length<179∧preP i (j+1)<+:partsL:=by
 have h1:preP i (j+1)<+:partsL:=by
  have hs:rowsT=rowsT.take i++r::rowsT.drop (i+1):=by
   have hi:=(List.getElem?_eq_some_iff.1 h);rw[←hi.2,List.getElem_cons_drop,List.take_append_drop]
  unfold preP;rw[h];refine⟨(rowP r).drop (j+1)++(rowsT.drop (i+1)).flatMap rowP,?_⟩;show _=partsL
  unfold partsL;conv=>rhs;rw[hs]
  rw[List.flatMap_append,List.flatMap_cons];simp only[List.append_assoc];congr 1
  rw[←List.append_assoc,List.take_append_drop]
 refine⟨?_,h1⟩;have:=h1.length_le
 rw[preP_step h hj,List.length_append,List.length_singleton]at this;have hl:partsL.length=179:=by kernel_rfl
 omega
end Gd
def ptV(p:Gd.Pt):Value:= .agg #[.int .i64 p.k,.int .i64 p.n,.int .i64 p.a,.int .i64 p.s]
def KeepsC(B:Nat)(W W':World):Prop:=∀(k:Nat),B≤k→∀(c:Array Value) (t:TypeId) (fr:Nat×Nat),W.heap[k]? =some (.cells c t fr)→W'.heap[k]? =some (.cells c t fr)
theorem keepsC_t(D:Nat){A B C:World}(h:KeepsC D A B)(k:KeepsC D B C):KeepsC D A C:=fun j hD c t fr hj=>k j hD c t fr (h j hD c t fr hj)
theorem keepsC_b(D:Nat){w:World}(W:World)(l:Nat)(o o':Obj)(_:w.heap.size≤l)(h:W.heap[l]? =some o)(hc:o.isCells=false)(_:o.isWalk=false):KeepsC D W (W.putObj l o'):=fun j _ c t fr hj=>by
 have:j≠l:=fun e=>by
  rw[e,h]at hj
  cases hj
  cases hc
 exact(World.putObj_heap_other this).trans hj
theorem keepsC_below(D:Nat){W W':World}(h:Below W.heap.size W W'):KeepsC D W W':=fun j _ _ _ _ hj=>(h.block j (Array.getElem?_eq_some_iff.1 hj).1).trans hj
theorem lt_get'{w:World}{k:Nat}{o:Obj}(h:w.heap[k]? =some o):k<w.heap.size:=(Array.getElem?_eq_some_iff.1 h).1
def rowCs:List Value:=Gd.rowsT.flatMap fun r=>[.int .i64 r.k,.int .i64 r.m,.int .i64 r.s]
theorem rowCs_get{i:Nat}{r:Gd.Ro}(h:Gd.rowsT[i]? =some r):rowCs[i*3]? =some (.int .i64 r.k)∧rowCs[i*3+1]? =some (.int .i64 r.m)∧rowCs[i*3+2]? =some (.int .i64 r.s):=by
 match i,h with
 |0,h=>cases h;exact⟨rfl,rfl,rfl⟩
 |1,h=>cases h;exact⟨rfl,rfl,rfl⟩
 |2,h=>cases h;exact⟨rfl,rfl,rfl⟩
 |3,h=>cases h;exact⟨rfl,rfl,rfl⟩
 |4,h=>cases h;exact⟨rfl,rfl,rfl⟩
 |5,h=>cases h;exact⟨rfl,rfl,rfl⟩
 |6,h=>cases h;exact⟨rfl,rfl,rfl⟩
 |n+7,h=>simp[Gd.rowsT]at h
theorem rows_in(F:Fence)(n:Nat)(hf:F.fn 125)(hro:F.round=none)(w:World):
 CallsIn F n prog 125 #[] w fun e w'=>e= .returned (.slice (some ⟨w.heap.size,0,none⟩) 7 7)∧w'=w.alloc (.cells rowCs.toArray 195):=by
 refine callsIn_of_wp func125 rfl hf ?_ hro;simp only[ntmps125,List.size_toArray,List.length_cons,List.length_nil,Nat.reduceAdd,Nat.reduceSub,Array.replicate_succ,Array.replicate_zero,List.push_toArray,List.append_toArray,List.nil_append,List.cons_append];gi_wp2
 go_ret
 exact⟨rfl,rfl⟩
theorem parts_stops(F:Fence)(n:Nat)(hf:F.fn 82)(hf2:F.fn 125)(hro:F.round=none)(hn:2≤n)(B:Nat)(w:World)(hBw:B≤w.heap.size):
 SeqStopsK F n prog 82 #[] (fun p:Gd.Pt=>#[ptV p]) (KeepsC B) (fun xs=>xs=Gd.partsL) (fun pre=>pre<+:Gd.partsL) 179 w:=fun l J Jx W hW hJa _ hY h0=>by
 have HBW:Hid (B≤W.heap.size):=hid (Nat.le_trans hBw hW.size);clear hBw hW;have h1:1≤n:=by omega
 have HY:=hid hY;have H0:=hid h0;have HJa:=hid hJa;clear hY h0 hJa;refine callsIn_of_wp func82 rfl hf ?_ hro;simp only[ntmps82,List.size_toArray,List.length_cons,List.length_nil,Nat.reduceAdd,Nat.reduceSub,Array.replicate_succ,Array.replicate_zero,List.push_toArray,List.append_toArray,List.nil_append,List.cons_append];gi_wp2_with (gi_at_call 125;refine(rows_in F (n-1) hf2 hro _).mono ?_;rintro e w' ⟨rfl,rfl⟩)
 obtain⟨w1,hw1⟩:=nm (W.alloc (.cells rowCs.toArray 195));rw[←hw1];obtain⟨rb,hrb⟩:=nm W.heap.size;rw[←hrb];have HR1:Hid (w1.heap[rb]? =some (.cells rowCs.toArray 195 (0,0))):=hid (by rw[hw1,hrb];exact heap_alloc_new _ _);have HJ1:Hid (J [] w1):=hid (by rw[hw1];exact HJa.o [] W _ none H0.o (World.grownBy_alloc W _ none) (fun r e=>by cases e));have HBr:Hid (B≤rb):=hid (by rw[hrb];exact HBW.o);clear hw1 hrb;gi_wp2
 gi_loopw [2,9] (fun u z wr=>∃i:Nat,z= .int .i64 i∧i≤7∧u= .int .i64 (Gd.startOf i)∧Hid (J (Gd.preP i 0) wr)∧Hid (wr.heap[rb]? =some (.cells rowCs.toArray 195 (0,0)))) (fun _ z _=>7-(intOf z).toNat)
 case atStart=>exact⟨0,rfl,by omega,rfl,HJ1,HR1⟩
 case round=>
  obtain⟨i,rfl,hi,rfl,HJ,HR⟩:=hrel;by_cases hlt:i<7
  ·obtain⟨r,hr⟩:∃r,Gd.rowsT[i]? =some r:=⟨_,List.getElem?_eq_getElem hlt⟩;obtain⟨q1,q2,q3,q4,q5,q6⟩:=Gd.start_next hr;obtain⟨g0,g1,g2⟩:=rowCs_get hr;have c0:wr.cell? ⟨rb,i*3,none⟩=some (.int .i64 r.k):=(cell_of_row wr rb (i*3) _ _ _ HR.o).trans (by rw[List.getElem?_toArray];exact g0);have c1:wr.cell? ⟨rb,i*3+1,none⟩=some (.int .i64 r.m):=(cell_of_row wr rb (i*3+1) _ _ _ HR.o).trans (by rw[List.getElem?_toArray];exact g1);have c2:wr.cell? ⟨rb,i*3+2,none⟩=some (.int .i64 r.s):=(cell_of_row wr rb (i*3+2) _ _ _ HR.o).trans (by rw[List.getElem?_toArray];exact g2);have e1:(i:Int)<7:=by omega
   have e0:(0:Int)≤i:=by omega
   have HRi:=hid hr;have HQ:=hid (And.intro q1 (And.intro q2 (And.intro q3 (And.intro q5 q6))));rw[q1];clear hr g0 g1 g2 q1 q2 q3 hlt;rcases q4 with q4|⟨q4,q7⟩
   ·have hm0:(r.m:Int)=0:=by omega
    rw[hm0]at c1;have HM:Hid (max 1 r.m=1):=hid (by omega);obtain⟨k',hk'⟩:=nm r.k;obtain⟨s',hs'⟩:=nm r.s;obtain⟨a',ha'⟩:=nm r.a;rw[←hk']at c0;rw[←hs']at c2;rw[←ha'];have Hks:=hid (And.intro hk' (And.intro hs' ha'));have hs4:s'≤4096:=by omega
    have ha4:a'≤14976:=by omega
    clear hk' hs' ha' q5 q6;gi_wp2
    obtain⟨wz,hwz⟩:=nm (wr.alloc (.cells #[.int .i64 k',.int .i64 0,.int .i64 s'] 195));rw[←hwz];obtain⟨bx,hbx⟩:=nm wr.heap.size;rw[←hbx];have HBz:Hid (wz.heap[bx]? =some (.cells #[.int .i64 k',.int .i64 0,.int .i64 s'] 195 (0,0))):=hid (by rw[hwz,hbx];exact heap_alloc_new _ _);have HJz:Hid (J (Gd.preP i 0) wz):=hid (by rw[hwz];exact HJa.o _ wr _ none HJ.o (World.grownBy_alloc wr _ none) (fun r e=>by cases e));have HRz:Hid (wz.heap[rb]? =some (.cells rowCs.toArray 195 (0,0))):=hid (by rw[hwz];exact(Below.heap_alloc wr _ rb (lt_get' HR.o)).trans HR.o);have HBb:Hid (B≤bx):=hid (by rw[hbx];have:=lt_get' HR.o;have:=HBr.o;omega);clear hwz hbx c0 c1 c2
    gi_loopw [2,16] (fun u z ws=>∃(j A:Nat),z= .int .i64 j∧j≤1∧u= .int .i64 A∧A≤a'+j*4096∧Hid (A=a'+j*s')∧Hid (J (Gd.preP i j) ws)∧Hid (ws.heap[rb]? =some (.cells rowCs.toArray 195 (0,0)))∧Hid (ws.heap[bx]? =some (.cells #[.int .i64 k',.int .i64 0,.int .i64 s'] 195 (0,0)))) (fun _ z _=>1-(intOf z).toNat)
    case atStart=>exact⟨0,a',rfl,by omega,rfl,by omega,hid (by rw[Nat.zero_mul];rfl),HJz,HRz,HBz⟩
    case round=>
     obtain⟨j,A,rfl,hj,rfl,hA,HA,HJj,HRj,HBj⟩:=hrel;by_cases hjl:j<1
     ·have hpl:=Gd.preP_short HRi.o (by rw[HM.o];exact hjl);have hps:=Gd.preP_step HRi.o (j:=j) (by rw[HM.o];exact hjl);rw[if_pos q4]at hps;rw[←Hks.o.1,←Hks.o.2.1,←Hks.o.2.2,←HA.o]at hps;obtain⟨fn,tmps,assign,body,hy,hR⟩:=HY.o (Gd.preP i j) ⟨k',0,A,s'⟩ wr HJj.o hpl.1;unfold ptV at hy;dsimp only at hy;rw[show((0:Nat):Int)=0 by omega]at hy;rw[←hps]at hR;have HRR:=hid hR;have HPl:=hid hpl.2;have d0:=cell_of_row wr bx 0 _ _ _ HBj.o;have d1:=cell_of_row wr bx 1 _ _ _ HBj.o;have d2:=cell_of_row wr bx 2 _ _ _ HBj.o;have f1:(j:Int)<1:=by omega
      have f2:(A:Int)≤1000000:=by omega
      clear hps hR hpl hjl;gi_wp2
      refine HRR.o.mono ?_;rintro e W3 (⟨rfl,hJ3,hk3⟩|⟨rfl,hJx3⟩)
      ·have HJ3:=hid hJ3;have HR3:=hid (hk3 _ HBr.o _ _ _ HRj.o);have HB3:=hid (hk3 _ HBb.o _ _ _ HBj.o);have g0:=cell_of_row W3 bx 0 _ _ _ HB3.o;have g1:=cell_of_row W3 bx 1 _ _ _ HB3.o;have g2:=cell_of_row W3 bx 2 _ _ _ HB3.o;have HA3:Hid (A+s'=a'+(j+1)*s'):=hid (by rw[HA.o,Nat.add_mul,Nat.one_mul,Nat.add_assoc]);clear hJ3 hk3 d0 d1 d2 hy HRR;gi_wp2
       go_roundw
       case rel=>exact⟨j+1,A+s',by go_num,by omega,by go_num,by omega,HA3,HJ3,HR3,HB3⟩
       case measure=>simp[intOf];omega
      ·have HX3:=hid hJx3;clear hJx3 d0 d1 d2 hy HRR;gi_wp2
       refine bodyPost_ret (results_none rfl _ _ _) rfl ?_;exact⟨⟨_,rfl⟩,Or.inr ⟨_,HPl.o,HX3.o⟩⟩
     ·obtain rfl:j=1:=by omega
      have HA2:Hid (A=Gd.startOf (i+1)):=hid (by rw[HA.o,HQ.o.2.1,HM.o,Hks.o.2.1,Hks.o.2.2]);have HJ2:Hid (J (Gd.preP (i+1) 0) wr):=hid (by rw[←Gd.preP_row HRi.o,HM.o];exact HJj.o);clear hjl;gi_wp2
      go_roundw
      case rel=>exact⟨i+1,by go_num,by omega,by rw[HA2.o],HJ2,HRj⟩
      case measure=>simp[intOf];omega
   ·obtain⟨m,hm⟩:=nm r.m;rw[←hm]at c1 q4 q7;have Hm:=hid hm;have hm1:(1:Int)<m:=by omega
    have hm2:1<m:=by omega
    have HM:Hid (max 1 r.m=m):=hid (by omega);clear hm;obtain⟨k',hk'⟩:=nm r.k;obtain⟨s',hs'⟩:=nm r.s;obtain⟨a',ha'⟩:=nm r.a;rw[←hk']at c0;rw[←hs']at c2;rw[←ha'];have Hks:=hid (And.intro hk' (And.intro hs' ha'));have hs4:s'≤4096:=by omega
    have ha4:a'≤14976:=by omega
    clear hk' hs' ha' q5 q6;gi_wp2
    obtain⟨wz,hwz⟩:=nm (wr.alloc (.cells #[.int .i64 k',.int .i64 m,.int .i64 s'] 195));rw[←hwz];obtain⟨bx,hbx⟩:=nm wr.heap.size;rw[←hbx];have HBz:Hid (wz.heap[bx]? =some (.cells #[.int .i64 k',.int .i64 m,.int .i64 s'] 195 (0,0))):=hid (by rw[hwz,hbx];exact heap_alloc_new _ _);have HJz:Hid (J (Gd.preP i 0) wz):=hid (by rw[hwz];exact HJa.o _ wr _ none HJ.o (World.grownBy_alloc wr _ none) (fun r e=>by cases e));have HRz:Hid (wz.heap[rb]? =some (.cells rowCs.toArray 195 (0,0))):=hid (by rw[hwz];exact(Below.heap_alloc wr _ rb (lt_get' HR.o)).trans HR.o);have HBb:Hid (B≤bx):=hid (by rw[hbx];have:=lt_get' HR.o;have:=HBr.o;omega);clear hwz hbx c0 c1 c2
    gi_loopw [2,16] (fun u z ws=>∃(j A:Nat),z= .int .i64 j∧j≤m∧u= .int .i64 A∧A≤a'+j*4096∧Hid (A=a'+j*s')∧Hid (J (Gd.preP i j) ws)∧Hid (ws.heap[rb]? =some (.cells rowCs.toArray 195 (0,0)))∧Hid (ws.heap[bx]? =some (.cells #[.int .i64 k',.int .i64 m,.int .i64 s'] 195 (0,0)))) (fun _ z _=>m-(intOf z).toNat)
    case atStart=>exact⟨0,a',rfl,by omega,rfl,by omega,hid (by rw[Nat.zero_mul];rfl),HJz,HRz,HBz⟩
    case round=>
     obtain⟨j,A,rfl,hj,rfl,hA,HA,HJj,HRj,HBj⟩:=hrel;by_cases hjl:j<m
     ·have hpl:=Gd.preP_short HRi.o (by rw[HM.o];exact hjl);have hps:=Gd.preP_step HRi.o (j:=j) (by rw[HM.o];exact hjl);rw[if_neg (show ¬r.m=0 by have:=Hm.o;omega)]at hps;rw[←Hks.o.1,←Hks.o.2.1,←Hks.o.2.2,←HA.o]at hps;obtain⟨fn,tmps,assign,body,hy,hR⟩:=HY.o (Gd.preP i j) ⟨k',(j+1),A,s'⟩ wr HJj.o hpl.1;unfold ptV at hy;dsimp only at hy;rw[show(((j+1):Nat):Int)=(j:Int)+1 by omega]at hy;rw[←hps]at hR;have HRR:=hid hR;have HPl:=hid hpl.2;have d0:=cell_of_row wr bx 0 _ _ _ HBj.o;have d1:=cell_of_row wr bx 1 _ _ _ HBj.o;have d2:=cell_of_row wr bx 2 _ _ _ HBj.o;have f1:(j:Int)<m:=by omega
      have f2:(A:Int)≤1000000:=by omega
      clear hps hR hpl hjl;gi_wp2
      refine HRR.o.mono ?_;rintro e W3 (⟨rfl,hJ3,hk3⟩|⟨rfl,hJx3⟩)
      ·have HJ3:=hid hJ3;have HR3:=hid (hk3 _ HBr.o _ _ _ HRj.o);have HB3:=hid (hk3 _ HBb.o _ _ _ HBj.o);have g0:=cell_of_row W3 bx 0 _ _ _ HB3.o;have g1:=cell_of_row W3 bx 1 _ _ _ HB3.o;have g2:=cell_of_row W3 bx 2 _ _ _ HB3.o;have HA3:Hid (A+s'=a'+(j+1)*s'):=hid (by rw[HA.o,Nat.add_mul,Nat.one_mul,Nat.add_assoc]);clear hJ3 hk3 d0 d1 d2 hy HRR;gi_wp2
       go_roundw
       case rel=>exact⟨j+1,A+s',by go_num,by omega,by go_num,by omega,HA3,HJ3,HR3,HB3⟩
       case measure=>simp[intOf];omega
      ·have HX3:=hid hJx3;clear hJx3 d0 d1 d2 hy HRR;gi_wp2
       refine bodyPost_ret (results_none rfl _ _ _) rfl ?_;exact⟨⟨_,rfl⟩,Or.inr ⟨_,HPl.o,HX3.o⟩⟩
     ·obtain rfl:j=m:=by omega
      have HA2:Hid (A=Gd.startOf (i+1)):=hid (by rw[HA.o,HQ.o.2.1,HM.o,Hks.o.2.1,Hks.o.2.2]);have HJ2:Hid (J (Gd.preP (i+1) 0) wr):=hid (by rw[←Gd.preP_row HRi.o,HM.o];exact HJj.o);clear hjl;gi_wp2
      go_roundw
      case rel=>exact⟨i+1,by go_num,by omega,by rw[HA2.o],HJ2,HRj⟩
      case measure=>simp[intOf];omega
  ·obtain rfl:i=7:=by omega
   clear hlt;gi_wp2
   go_end0
   exact⟨⟨_,rfl⟩,Or.inl ⟨_,Gd.preP_end,HJ.o⟩⟩
end
section
open Go.Shelf
attribute [local go_sem] Oper.semAt_some
def CellsAt(W:World)(B:Nat)(t:TypeId)(cs:Array Value):Prop:=W.heap[B]? =some (.cells cs t (0,0))
theorem CellsAt.lt{W:World}{B:Nat}{t:TypeId}{cs:Array Value}(h:CellsAt W B t cs):B<W.heap.size:=(Array.getElem?_eq_some_iff.1 h).1
theorem CellsAt.alloc{W:World}{B:Nat}{t:TypeId}{cs:Array Value}(h:CellsAt W B t cs)(o:Obj):CellsAt (W.alloc o) B t cs:=(Below.heap_alloc W o B h.lt).trans h
theorem cellsAt_own{β:Type}(B:Nat)(t:TypeId)(f:β→Array Value):Own (fun s W=>CellsAt W B t (f s)):=fun s X Y row hs hg hrow=>by
 have hne:some B≠row:=fun e'=>by obtain⟨o,ho,hc⟩:=hrow B e'.symm;rw[show X.heap[B]? =_ from hs]at ho;cases ho;cases hc
 exact(hg.block B hs.lt hne).trans hs
theorem keepsC_r(D:Nat)(W:World):KeepsC D W W:=fun _ _ _ _ _ h=>h
def ptC(p:Gd.Pt):Array Value:=#[.int .i64 p.k,.int .i64 p.n,.int .i64 p.a,.int .i64 p.s]
namespace Gd
def isP(k m:Int)(p:Pt):Bool:=((p.k:Int)==k)&&((p.n:Int)==m)
def findP(k m:Int):Option Pt:=partsL.find? (isP k m)
end Gd
def ptO:Option Gd.Pt→Value
 |some p=>ptV p
 |none=> .agg #[.int .i64 0,.int .i64 0,.int .i64 0,.int .i64 0]
theorem find_in(F:Fence)(n:Nat)(hf:F.fn 86)(hf2:F.fn 82)(hf3:F.fn 125)(hro:F.round=none)(hn:6≤n)(k m:Int)(w:World):
 CallsIn F n prog 86 #[.int .i64 k,.int .i64 m] w fun e W'=>e= .returned (.tuple #[ptO (Gd.findP k m),.bool (Gd.findP k m).isSome])∧Below w.heap.size w W':=by
 have h1:1≤n:=by omega
 refine callsIn_of_wp_marks func86 rfl hf ?_ hro;simp only[ntmps86,List.size_toArray,List.length_cons,List.length_nil,Nat.reduceAdd,Nat.reduceSub,Array.replicate_succ,Array.replicate_zero,List.push_toArray,List.append_toArray,List.nil_append,List.cons_append];gi_wp2
 obtain⟨W0,hW0⟩:=nm ((((w.alloc (.cells #[.int .i64 k] 3)).alloc (.cells #[.int .i64 m] 3)).alloc (.cells #[.int .i64 0,.int .i64 0,.int .i64 0,.int .i64 0] 156)).alloc (.cells #[.bool false] 4));have c0:CellsAt W0 w.heap.size 3 #[.int .i64 k]:=by rw[hW0];exact(((CellsAt.alloc (heap_alloc_new w _) _).alloc _).alloc _)
 have c1:CellsAt W0 (w.heap.size+1) 3 #[.int .i64 m]:=by rw[hW0];have:=heap_alloc_new (w.alloc (.cells #[.int .i64 k] 3)) (.cells #[.int .i64 m] 3);rw[World.size_alloc]at this;exact(CellsAt.alloc this _).alloc _
 have c2:CellsAt W0 (w.heap.size+1+1) 156 #[.int .i64 0,.int .i64 0,.int .i64 0,.int .i64 0]:=by rw[hW0];have:=heap_alloc_new ((w.alloc (.cells #[.int .i64 k] 3)).alloc (.cells #[.int .i64 m] 3)) (.cells #[.int .i64 0,.int .i64 0,.int .i64 0,.int .i64 0] 156);rw[World.size_alloc,World.size_alloc]at this;exact CellsAt.alloc this _
 have c3:CellsAt W0 (w.heap.size+1+1+1) 4 #[.bool false]:=by rw[hW0];have:=heap_alloc_new (((w.alloc (.cells #[.int .i64 k] 3)).alloc (.cells #[.int .i64 m] 3)).alloc (.cells #[.int .i64 0,.int .i64 0,.int .i64 0,.int .i64 0] 156)) (.cells #[.bool false] 4);rw[World.size_alloc,World.size_alloc,World.size_alloc]at this;exact this
 have hB0:Below w.heap.size w W0:=by rw[hW0];exact((((Below.refl _ w).alloc (Nat.le_refl _) _).alloc (by simp) _).alloc (by simp;omega) _).alloc (by simp;omega) _
 have hsz:W0.heap.size=w.heap.size+4:=by rw[hW0];simp
 rw[←hW0];clear hW0;refine wpIn_rangeFunc_ownH hro h1 (gf:=82) (lb:=#[]) rfl hf2 (enters_of func82 (by kernel_rfl) rfl)
  (parts_stops F (n-1) hf2 hf3 hro (by omega) 0 W0 (Nat.zero_le _)) (keepsC_t 0) (keepsC_b 0 (w:=W0)) (Below.refl _ _) (fun _=>rfl)
  (fun pre W=>(((((∀p∈pre,Gd.isP k m p=false)∧CellsAt W w.heap.size 3 #[.int .i64 k])∧CellsAt W (w.heap.size+1) 3 #[.int .i64 m])∧CellsAt W (w.heap.size+1+1) 156 #[.int .i64 0,.int .i64 0,.int .i64 0,.int .i64 0])∧CellsAt W (w.heap.size+1+1+1) 4 #[.bool false])∧Below w.heap.size w W)
  (fun c pre W=>(c= .ret∧(∃q p,(pre=q++[p]∧(∀r∈q,Gd.isP k m r=false)∧Gd.isP k m p=true)∧CellsAt W (w.heap.size+1+1) 156 (ptC p))∧CellsAt W (w.heap.size+1+1+1) 4 #[.bool true])∧Below w.heap.size w W)
  ?o1 ?o2 ?o3
  (fun x a' W=>∃Bx,w.heap.size+4≤Bx∧CellsAt W Bx 156 (ptC x)∧a'={tmps:=#[.int .i64 k,.int .i64 m,.pointer (some ⟨w.heap.size,0,none⟩),.pointer (some ⟨w.heap.size+1,0,none⟩),.pointer (some ⟨w.heap.size+1+1,0,none⟩),.pointer (some ⟨w.heap.size+1+1+1,0,none⟩),.pointer (some ⟨Bx,0,none⟩),ptV x,undef,undef,undef,undef,undef,undef,undef,undef,undef,undef,undef],defers:=[]})
  ?o4 ?assign ?body ?done ?stop
 case o1=>exact OwnFrom.and (OwnFrom.and (OwnFrom.and (OwnFrom.and (OwnFrom.and (ownFrom_pure _ _) (Own.from (cellsAt_own _ _ _) _)) (Own.from (cellsAt_own _ _ _) _)) (Own.from (cellsAt_own _ _ _) _)) (Own.from (cellsAt_own _ _ _) _)) (ownFrom_below (Nat.le_refl _) (by omega))
 case o2=>
  refine fun c=>OwnFrom.and (OwnFrom.and (ownFrom_pure _ _) (OwnFrom.and ?_ (Own.from (cellsAt_own _ _ _) _))) (ownFrom_below (Nat.le_refl _) (by omega));rintro s X Y row ⟨q,p,hp,hc⟩ hg hr;exact⟨q,p,hp,cellsAt_own _ _ (fun(_:Unit)=>ptC p) () X Y row hc hg (fun r e=>(hr r e).2)⟩
 case o4=>
  rintro x a' _ X Y row ⟨Bx,e1,e2,e3⟩ hg hr;exact⟨Bx,e1,cellsAt_own _ _ (fun(_:Unit)=>ptC x) () X Y row e2 hg (fun r e=>(hr r e).2),e3⟩
 case o3=>exact⟨⟨⟨⟨⟨by simp,c0⟩,c1⟩,c2⟩,c3⟩,hB0⟩
 case assign=>
  rintro l pre ⟨pk,pn,pa,ps⟩ W K ⟨⟨⟨⟨⟨hp,q0⟩,q1⟩,q2⟩,q3⟩,hB1⟩ hK;have HK:=hid hK;have HP:=hid (And.intro hp (And.intro q0 (And.intro q1 (And.intro q2 q3))));have HB:=hid hB1;have hlt:=hB1.size;have hlt3:=q3.lt;clear hK hp q0 q1 q2 q3 hB1;unfold ptV;gi_wp2
  exact HK.o _ _ ((KeepsOthers.alloc _ _).from _) (keepsC_below _ ((Below.refl _ W).alloc (Nat.le_refl _) _)) ⟨⟨⟨⟨⟨HP.o.1,HP.o.2.1.alloc _⟩,HP.o.2.2.1.alloc _⟩,HP.o.2.2.2.1.alloc _⟩,HP.o.2.2.2.2.alloc _⟩,HB.o.alloc hlt _⟩ ⟨W.heap.size,by omega,heap_alloc_new W _,rfl⟩
 case body=>
  rintro l pre ⟨pk,pn,pa,ps⟩ a' W hl ⟨r,hr⟩ ⟨⟨⟨⟨⟨hp,q0⟩,q1⟩,q2⟩,q3⟩,hB1⟩ ⟨Bx,hBx,bX,rfl⟩ hlt;have HP:=hid (And.intro hp (And.intro q0 (And.intro q1 (And.intro q2 q3))));have HB:=hid hB1;have HR:=hid (And.intro hl (And.intro hr bX));have x0:=cell_of_row W Bx 0 _ _ _ bX;have x1:=cell_of_row W Bx 1 _ _ _ bX;have x2:=cell_of_row W Bx 2 _ _ _ bX;have x3:=cell_of_row W Bx 3 _ _ _ bX;have xk:=cell_of_row W _ 0 _ _ _ q0;have xm:=cell_of_row W _ 0 _ _ _ q1;unfold ptC at x0 x1 x2 x3;have y0:=cell_of_row W _ 0 _ _ _ q2;have y1:=cell_of_row W _ 1 _ _ _ q2;have y2:=cell_of_row W _ 2 _ _ _ q2;have y3:=cell_of_row W _ 3 _ _ _ q2;have z0:=frozen_of_row W _ 0 _ _ q2;have z1:=frozen_of_row W _ 1 _ _ q2;have z2:=frozen_of_row W _ 2 _ _ q2;have z3:=frozen_of_row W _ 3 _ _ q2;have yb:=cell_of_row W _ 0 _ _ _ q3;have zb:=frozen_of_row W _ 0 _ _ q3
  have HL:Hid (pre++[⟨pk,pn,pa,ps⟩]<+:Gd.partsL∨True):=hid (Or.inr trivial);clear hl hr bX hp q0 q1 q2 q3 hB1 hlt;unfold ptV;by_cases hk:(pk:Int)=k
  ·by_cases hm:(pn:Int)=m
   ·subst hk hm;gi_wp2
    have s0:CellsAt _ (w.heap.size+1+1) 156 _:=Go.heap_setCell_same W _ 0 _ _ (.int .i64 pk) HP.o.2.2.2.1;have s1:CellsAt _ (w.heap.size+1+1) 156 _:=Go.heap_setCell_same _ _ 1 _ _ (.int .i64 pn) s0;have s2:CellsAt _ (w.heap.size+1+1) 156 _:=Go.heap_setCell_same _ _ 2 _ _ (.int .i64 pa) s1;have s3:CellsAt _ (w.heap.size+1+1) 156 _:=Go.heap_setCell_same _ _ 3 _ _ (.int .i64 ps) s2;have b0:∀(V:World) (i:Nat) (v:Value),CellsAt V (w.heap.size+1+1+1) 4 #[.bool false]→CellsAt (V.setCell ⟨w.heap.size+1+1,i,none⟩ v) (w.heap.size+1+1+1) 4 #[.bool false]:=fun V i v h=>(Go.heap_setCell_other V ⟨w.heap.size+1+1,i,none⟩ _ v (by simp)).trans h;have kk:∀(V:World) (a:Addr) (v:Value),KeepsFrom (w.heap.size+4) W V→KeepsFrom (w.heap.size+4) W (V.setCell a v):=fun V a v h=>h.trans ((KeepsOthers.setCell V a v).from _)
    have bb:∀(V:World) (i:Nat) (j:Nat) (v:Value),w.heap.size≤i→Below w.heap.size w V→Below w.heap.size w (V.setCell ⟨i,j,none⟩ v):=fun V i j v hi h=>h.setCell hi v;refine⟨kk _ _ _ (kk _ _ _ (kk _ _ _ (kk _ _ _ (kk _ _ _ (KeepsFrom.refl _ _))))),⟨rfl,⟨pre,⟨pk,pn,pa,ps⟩,⟨rfl,HP.o.1,by simp[Gd.isP]⟩,(Go.heap_setCell_other _ _ _ _ (by simp)).trans s3⟩,?_⟩,bb _ _ _ _ (by omega) (bb _ _ _ _ (by omega) (bb _ _ _ _ (by omega) (bb _ _ _ _ (by omega) (bb _ _ _ _ (by omega) HB.o))))⟩;exact Go.heap_setCell_same _ _ 0 _ _ (.bool true) (b0 _ _ _ (b0 _ _ _ (b0 _ _ _ (b0 _ _ _ HP.o.2.2.2.2))))
   ·have HN:Hid (Gd.isP k m ⟨pk,pn,pa,ps⟩=false):=hid (by simp[Gd.isP,hm]);have hm':m≠(pn:Int):=fun e=>hm e.symm;gi_wp2
    exact⟨KeepsFrom.refl _ _,keepsC_r _ _,⟨⟨⟨⟨fun r hr=>(List.mem_append.1 hr).elim (HP.o.1 r) (fun e=>by rw[List.mem_singleton.1 e];exact HN.o),HP.o.2.1⟩,HP.o.2.2.1⟩,HP.o.2.2.2.1⟩,HP.o.2.2.2.2⟩,HB.o⟩
  ·have HN:Hid (Gd.isP k m ⟨pk,pn,pa,ps⟩=false):=hid (by simp[Gd.isP,hk]);have hk':k≠(pk:Int):=fun e=>hk e.symm;gi_wp2
   exact⟨KeepsFrom.refl _ _,keepsC_r _ _,⟨⟨⟨⟨fun r hr=>(List.mem_append.1 hr).elim (HP.o.1 r) (fun e=>by rw[List.mem_singleton.1 e];exact HN.o),HP.o.2.1⟩,HP.o.2.2.1⟩,HP.o.2.2.2.1⟩,HP.o.2.2.2.2⟩,HB.o⟩
 case done=>
  rintro D zs W hD rfl ⟨⟨⟨⟨⟨hp,q0⟩,q1⟩,q2⟩,q3⟩,hB1⟩ hK;have HN:Hid (Gd.findP k m=none):=hid (List.find?_eq_none.2 fun p h=>by rw[hp p h];decide);have y0:=cell_of_row W _ 0 _ _ _ q2;have y1:=cell_of_row W _ 1 _ _ _ q2;have y2:=cell_of_row W _ 2 _ _ _ q2;have y3:=cell_of_row W _ 3 _ _ _ q2;have z0:=frozen_of_row W _ 0 _ _ q2;have z1:=frozen_of_row W _ 1 _ _ q2;have z2:=frozen_of_row W _ 2 _ _ q2;have z3:=frozen_of_row W _ 3 _ _ q2;have yb:=cell_of_row W _ 0 _ _ _ q3;have zb:=frozen_of_row W _ 0 _ _ q3;have HK:=hid (And.intro hD (And.intro q2 (And.intro q3 (And.intro hB1 hK))));clear hp q0 q1 q2 q3 hB1 hK;gi_wp2
  have b0:∀(V:World) (i:Nat) (v:Value),CellsAt V (w.heap.size+1+1+1) 4 #[.bool false]→CellsAt (V.setCell ⟨w.heap.size+1+1,i,none⟩ v) (w.heap.size+1+1+1) 4 #[.bool false]:=fun V i v h=>(Go.heap_setCell_other V ⟨w.heap.size+1+1,i,none⟩ _ v (by simp)).trans h;have bb:∀(V:World) (i:Nat) (j:Nat) (v:Value),w.heap.size≤i→Below w.heap.size w V→Below w.heap.size w (V.setCell ⟨i,j,none⟩ v):=fun V i j v hi h=>h.setCell hi v;have dd:∀(V:World) (i:Nat) (j:Nat) (v:Value),i<w.heap.size+4→V.heap[D]? =some (.deferred (some []))→(V.setCell ⟨i,j,none⟩ v).heap[D]? =some (.deferred (some [])):=fun V i j v hi h=>(Go.heap_setCell_other V ⟨i,j,none⟩ _ v (show D≠i by omega)).trans h;have s0:CellsAt _ (w.heap.size+1+1) 156 _:=Go.heap_setCell_same W _ 0 _ _ (.int .i64 0) HK.o.2.1;have s1:CellsAt _ (w.heap.size+1+1) 156 _:=Go.heap_setCell_same _ _ 1 _ _ (.int .i64 0) s0
  have s2:CellsAt _ (w.heap.size+1+1) 156 _:=Go.heap_setCell_same _ _ 2 _ _ (.int .i64 0) s1;have s3:CellsAt _ (w.heap.size+1+1) 156 _:=Go.heap_setCell_same _ _ 3 _ _ (.int .i64 0) s2;obtain⟨V,hV⟩:=nm (((((W.setCell ⟨w.heap.size+1+1,0,none⟩ (.int .i64 0)).setCell ⟨w.heap.size+1+1,1,none⟩ (.int .i64 0)).setCell ⟨w.heap.size+1+1,2,none⟩ (.int .i64 0)).setCell ⟨w.heap.size+1+1,3,none⟩ (.int .i64 0)).setCell ⟨w.heap.size+1+1+1,0,none⟩ (.bool false));rw[←hV];have v2:CellsAt V (w.heap.size+1+1) 156 #[.int .i64 0,.int .i64 0,.int .i64 0,.int .i64 0]:=by rw[hV];exact(Go.heap_setCell_other _ ⟨w.heap.size+1+1+1,0,none⟩ _ (.bool false) (by simp)).trans s3
  have v3:CellsAt V (w.heap.size+1+1+1) 4 #[.bool false]:=by rw[hV];exact Go.heap_setCell_same _ _ 0 _ _ (.bool false) (b0 _ _ _ (b0 _ _ _ (b0 _ _ _ (b0 _ _ _ HK.o.2.2.1))))
  have vk:V.heap[D]? =some (.deferred (some [])):=by rw[hV];exact dd _ _ _ _ (by omega) (dd _ _ _ _ (by omega) (dd _ _ _ _ (by omega) (dd _ _ _ _ (by omega) (dd _ _ _ _ (by omega) HK.o.2.2.2.2))))
  have vb:Below w.heap.size w V:=by rw[hV];exact bb _ _ _ _ (by omega) (bb _ _ _ _ (by omega) (bb _ _ _ _ (by omega) (bb _ _ _ _ (by omega) (bb _ _ _ _ (by omega) HK.o.2.2.2.1))))
  clear hV s0 s1 s2 s3 b0 bb dd y0 y1 y2 y3 z0 z1 z2 z3 yb zb;have e2:CellsAt (V.putObj D (.deferred none)) (w.heap.size+1+1) 156 _:=(World.putObj_heap_other (show w.heap.size+1+1≠D by omega)).trans v2;have e3:CellsAt (V.putObj D (.deferred none)) (w.heap.size+1+1+1) 4 _:=(World.putObj_heap_other (show w.heap.size+1+1+1≠D by omega)).trans v3;have y0:=cell_of_row _ _ 0 _ _ _ e2;have y1:=cell_of_row _ _ 1 _ _ _ e2;have y2:=cell_of_row _ _ 2 _ _ _ e2;have y3:=cell_of_row _ _ 3 _ _ _ e2;have y4:=cell_of_row _ _ 0 _ _ _ e3;refine⟨by simp,.inl ⟨_,_,rfl,run_takeDeferred vk,?_⟩⟩;refine⟨.tuple #[.agg #[.int .i64 0,.int .i64 0,.int .i64 0,.int .i64 0],.bool false],?_,by rw[HN.o];rfl,vb.trans ?_⟩
  ·simp[results,f86,go_sem,y0,y1,y2,y3,y4]
  ·exact belowK_b (w:=w) (Nat.le_refl _) _ D _ _ (by omega) vk rfl rfl
 case stop=>
  rintro D c pre W hD hpre ⟨⟨rfl,⟨q,p,⟨rfl,hq,hp⟩,q2⟩,q3⟩,hB1⟩ hK;have HF:Hid (Gd.findP k m=some p):=hid (by
   obtain⟨s,hs⟩:=hpre;unfold Gd.findP;rw[←hs,List.append_assoc,List.find?_append,List.find?_eq_none.2 (fun r h=>by rw[hq r h];decide)];simp[hp])
  gi_wp2
  have hs:=hB1.size;have e2:CellsAt (W.putObj D (.deferred none)) (w.heap.size+1+1) 156 _:=(World.putObj_heap_other (show w.heap.size+1+1≠D by omega)).trans q2;have e3:CellsAt (W.putObj D (.deferred none)) (w.heap.size+1+1+1) 4 _:=(World.putObj_heap_other (show w.heap.size+1+1+1≠D by omega)).trans q3;unfold ptC at e2;have y0:=cell_of_row _ _ 0 _ _ _ e2;have y1:=cell_of_row _ _ 1 _ _ _ e2;have y2:=cell_of_row _ _ 2 _ _ _ e2;have y3:=cell_of_row _ _ 3 _ _ _ e2;have y4:=cell_of_row _ _ 0 _ _ _ e3;refine⟨by simp,.inl ⟨_,_,rfl,run_takeDeferred hK,?_⟩⟩;refine⟨.tuple #[ptV p,.bool true],?_,by rw[HF.o];rfl,hB1.trans ?_⟩
  ·simp[results,f86,go_sem,y0,y1,y2,y3,y4,ptV]
  ·exact belowK_b (w:=w) (Nat.le_refl _) _ D _ _ (by omega) hK rfl rfl
end
end Go.Proofs.YtckoobkjpndgnaaGreatDoor
