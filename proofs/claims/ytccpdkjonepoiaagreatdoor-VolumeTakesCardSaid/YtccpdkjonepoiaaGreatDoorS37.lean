/- Arguments of commonslaw17's laws opened: a deed, a row of deeds, picks. -/
import Derived.Test.YtccpdkjonepoiaaGreatDoorS36
import Derived.Deep.Slices
import Derived.Deep.Fields
import Derived.ChangeSame
set_option linter.unusedVariables false
set_option linter.unusedSimpArgs false
set_option linter.unusedSectionVars false
set_option maxHeartbeats 8000000
set_option maxRecDepth 100000
namespace Go.Proofs.YtccpdkjonepoiaaGreatDoor
open Go.RowKit
open Lib(hid)
open Go.Proofs.Tryz
open Go.ChangeShapes Go.WideShapes
theorem qA:prog.cellsOf 3=1:=by kernel_rfl
theorem QK:prog.cellsOf 9=1:=by kernel_rfl
theorem Y7:prog.cellsOf 4=1:=by kernel_rfl
theorem XS:prog.cellsOf 26=1:=by kernel_rfl
theorem Y6:prog.cellsOf 58=1:=by kernel_rfl
theorem uK:prog.cellsOf 46=2:=by kernel_rfl
theorem uJ:prog.cellsOf 57=5:=by kernel_rfl
theorem Ql:prog.cellsOf 48=6:=by kernel_rfl
theorem Qm:prog.cellsOf 60=14:=by kernel_rfl
section
variable {H:Type} {enc:TypeId×Value→H} {W:World} {base:Nat} {spare:Nat→Bool} {held:Bool} {fuel:Nat} {x:DataW H×List MemPlace}
theorem qT{v:Value}(h:DataW.trod enc prog W base spare held fuel 3 [v]=some x):∃n,v= .int .i64 n∧(Lit.int .i64 n).wf=true:=by
 obtain⟨n,hc,_,hw⟩:=DataW.trod_int underlying3 h
 cases hc
 exact⟨n,rfl,hw⟩
theorem XT{v:Value}(h:DataW.trod enc prog W base spare held fuel 26 [v]=some x):∃n,v= .int .i64 n:=by
 obtain⟨n,hc,_,hw⟩:=DataW.trod_int underlying26 h
 cases hc
 exact⟨n,rfl⟩
theorem QL{v:Value}(h:DataW.trod enc prog W base spare held fuel 9 [v]=some x):∃s:ByteArray,v= .string s∧s.size≤9223372036854775807:=by
 obtain⟨s,hc,_,hs⟩:=DataW.trod_string underlying9 h
 cases hc
 exact⟨s,rfl,by unfold maxLen at hs;omega⟩
theorem Y8{v:Value}(h:DataW.trod enc prog W base spare held fuel 4 [v]=some x):∃b,v= .bool b:=by
 obtain⟨b,hc,_⟩:=DataW.trod_bool underlying4 h
 cases hc
 exact⟨b,rfl⟩
theorem Qn{v:Value}(h:DataW.trod enc prog W base spare held fuel 58 [v]=some x):∃A n c,v= .slice A n c∧n≤c∧c≤9223372036854775807∧((∀q∈x.2,q.block<W.heap.size)→jb W A n):=by
 rcases Go.ChangeShapes.open_ints underlying58 underlying3 qA h with⟨hcs,hx⟩|⟨a,len',cap',zs,hcs,_,hl,hm,hz,hx,hcell,_⟩
 ·cases hcs
  exact⟨none,0,0,rfl,by omega,by omega,fun _=>Or.inl rfl⟩
 ·cases hcs
  unfold maxLen at hm;have hz':len'≤zs.length:=by
   rw[hz];split<;>omega
  refine⟨_,_,_,rfl,hl,by omega,fun hlt=> ?_⟩;by_cases h0:len'=0
  ·exact Or.inl h0
  ·obtain⟨b,o,spot⟩:=a;have hspot:spot=none:=by simpa [Addr.add]using World.cell?_spot (hcell 0 (by omega))
   subst hspot;subst hx;refine Or.inr ⟨b,o,rfl,hlt (.cell b o) (MemPlace.mem_row.2 ⟨0,by omega,by simp⟩),fun j hj=> ?_⟩;have h2:=hcell j (by omega);rw[Addr.add_lit]at h2;exact⟨_,h2⟩
theorem Z9{cs:List Value}(h:DataW.trod enc prog W base spare held fuel 46 cs=some x):∃a b:Int,cs=[.int .i64 a,.int .i64 b]:=by
 obtain⟨xs,m,_,hxx,hl,hxl,hg⟩:=DataW.trod_struct underlying46 h;rw[uK]at hl;match cs,hl,xs,hxl,hxx with
 |[c0,c1],_,[y0,y1],_,hxx=>
  have g0:DataW.trod enc prog W base spare held m 26 ((List.drop 0 [c0,c1]).take (prog.cellsOf 26))=some y0:=hg 0 _ rfl;rw[XS]at g0;have g1:DataW.trod enc prog W base spare held m 3 ((List.drop 1 [c0,c1]).take (prog.cellsOf 3))=some y1:=hg 1 _ rfl;rw[qA]at g1;obtain⟨a,rfl⟩:=XT g0;obtain⟨b,rfl,_⟩:=qT g1;exact⟨a,b,rfl⟩
theorem Z8{cs:List Value}(h:DataW.trod enc prog W base spare held fuel 57 cs=some x):∃r:Gd.Rec,cs=[.int .i64 r.call,.int .i64 r.inode,.bool r.tr,.int .i64 r.off,.string ⟨r.d.toArray⟩]∧r.d.length≤9223372036854775807:=by
 obtain⟨xs,m,_,hxx,hl,hxl,hg⟩:=DataW.trod_struct underlying57 h;rw[uJ]at hl;match cs,hl,xs,hxl,hxx with
 |[c0,c1,c2,c3,c4],_,[y0,y1,y2,y3,y4],_,hxx=>
  have g0:DataW.trod enc prog W base spare held m 3 ((List.drop 0 [c0,c1,c2,c3,c4]).take (prog.cellsOf 3))=some y0:=hg 0 _ rfl;rw[qA]at g0;have g1:DataW.trod enc prog W base spare held m 3 ((List.drop 1 [c0,c1,c2,c3,c4]).take (prog.cellsOf 3))=some y1:=hg 1 _ rfl;rw[qA]at g1;have g2:DataW.trod enc prog W base spare held m 4 ((List.drop 2 [c0,c1,c2,c3,c4]).take (prog.cellsOf 4))=some y2:=hg 2 _ rfl;rw[Y7]at g2;have g3:DataW.trod enc prog W base spare held m 3 ((List.drop 3 [c0,c1,c2,c3,c4]).take (prog.cellsOf 3))=some y3:=hg 3 _ rfl;rw[qA]at g3;have g4:DataW.trod enc prog W base spare held m 9 ((List.drop 4 [c0,c1,c2,c3,c4]).take (prog.cellsOf 9))=some y4:=hg 4 _ rfl;rw[QK]at g4;obtain⟨a,rfl,_⟩:=qT g0;obtain⟨b,rfl,_⟩:=qT g1;obtain⟨t,rfl⟩:=Y8 g2;obtain⟨o,rfl,_⟩:=qT g3;obtain⟨s,rfl,hs⟩:=QL g4
  refine⟨⟨a,b,t,o,s.data.toList⟩,?_,by rw[Array.length_toList];exact hs⟩;first|rfl|(dsimp only;rw[vr s])
theorem Xc{cs:List Value}(h:DataW.trod enc prog W base spare held fuel 48 cs=some x):∃a b c d e f:Int,cs=[.int .i64 a,.int .i64 b,.int .i64 c,.int .i64 d,.int .i64 e,.int .i64 f]:=by
 obtain⟨xs,m,_,hxx,hl,hxl,hg⟩:=DataW.trod_struct underlying48 h;rw[Ql]at hl;match cs,hl,xs,hxl,hxx with
 |[c0,c1,c2,c3,c4,c5],_,[y0,y1,y2,y3,y4],_,hxx=>
  have g0:DataW.trod enc prog W base spare held m 3 ((List.drop 0 [c0,c1,c2,c3,c4,c5]).take (prog.cellsOf 3))=some y0:=hg 0 _ rfl;rw[qA]at g0;have g1:DataW.trod enc prog W base spare held m 3 ((List.drop 1 [c0,c1,c2,c3,c4,c5]).take (prog.cellsOf 3))=some y1:=hg 1 _ rfl;rw[qA]at g1;have g2:DataW.trod enc prog W base spare held m 3 ((List.drop 2 [c0,c1,c2,c3,c4,c5]).take (prog.cellsOf 3))=some y2:=hg 2 _ rfl;rw[qA]at g2;have g3:DataW.trod enc prog W base spare held m 46 ((List.drop 3 [c0,c1,c2,c3,c4,c5]).take (prog.cellsOf 46))=some y3:=hg 3 _ rfl;rw[uK]at g3;have g4:DataW.trod enc prog W base spare held m 3 ((List.drop 5 [c0,c1,c2,c3,c4,c5]).take (prog.cellsOf 3))=some y4:=hg 4 _ rfl;rw[qA]at g4;obtain⟨a,rfl,_⟩:=qT g0;obtain⟨b,rfl,_⟩:=qT g1;obtain⟨c,rfl,_⟩:=qT g2;obtain⟨d,e,hc⟩:=Z9 g3
  cases hc
  obtain⟨f,rfl,_⟩:=qT g4;exact⟨a,b,c,d,e,f,rfl⟩
theorem Xd{cs:List Value}(h:DataW.trod enc prog W base spare held fuel 60 cs=some x):∃d:Dd,cs=(ddC d).toList∧(d.pn≤d.pc∧d.pc≤9223372036854775807∧d.r.d.length≤9223372036854775807)∧((∀q∈x.2,q.block<W.heap.size)→jb W d.pA d.pn):=by
 obtain⟨xs,m,_,hxx,hl,hxl,hg⟩:=DataW.trod_struct underlying60 h;rw[Qm]at hl;match cs,hl,xs,hxl,hxx with
 |[c0,c1,c2,c3,c4,c5,c6,c7,c8,c9,c10,c11,c12,c13],_,[y0,y1,y2,y3,y4],_,hxx=>
  have g0:DataW.trod enc prog W base spare held m 3 ((List.drop 0 [c0,c1,c2,c3,c4,c5,c6,c7,c8,c9,c10,c11,c12,c13]).take (prog.cellsOf 3))=some y0:=hg 0 _ rfl;rw[qA]at g0;have g1:DataW.trod enc prog W base spare held m 3 ((List.drop 1 [c0,c1,c2,c3,c4,c5,c6,c7,c8,c9,c10,c11,c12,c13]).take (prog.cellsOf 3))=some y1:=hg 1 _ rfl;rw[qA]at g1;have g2:DataW.trod enc prog W base spare held m 57 ((List.drop 2 [c0,c1,c2,c3,c4,c5,c6,c7,c8,c9,c10,c11,c12,c13]).take (prog.cellsOf 57))=some y2:=hg 2 _ rfl;rw[uJ]at g2;have g3:DataW.trod enc prog W base spare held m 48 ((List.drop 7 [c0,c1,c2,c3,c4,c5,c6,c7,c8,c9,c10,c11,c12,c13]).take (prog.cellsOf 48))=some y3:=hg 3 _ rfl;rw[Ql]at g3
  have g4:DataW.trod enc prog W base spare held m 58 ((List.drop 13 [c0,c1,c2,c3,c4,c5,c6,c7,c8,c9,c10,c11,c12,c13]).take (prog.cellsOf 58))=some y4:=hg 4 _ rfl;rw[Y6]at g4;obtain⟨a,rfl,_⟩:=qT g0;obtain⟨b,rfl,_⟩:=qT g1;obtain⟨r,hr,hrl⟩:=Z8 g2;obtain⟨e,hd,rp,ke,ki,wr,hs⟩:=Xc g3;obtain⟨A,n,c,rfl,h1,h2,h3⟩:=Qn g4
  cases hr
  cases hs
  refine⟨⟨a,b,r,e,hd,rp,ke,ki,wr,A,n,c⟩,rfl,⟨h1,h2,hrl⟩,fun hz=>h3 fun q hq=>hz q ?_⟩;subst hxx;simp[hq]
theorem jb.fewer{A:Option Addr}{n m:Nat}(h:jb W A n)(hm:m≤n):jb W A m:=by
 rcases h with h|⟨b,o,h1,h2,h3⟩
 ·exact Or.inl (by omega)
 ·exact Or.inr ⟨b,o,h1,h2,fun j hj=>h3 j (by omega)⟩
end
theorem open_deeds{H:Type}{enc:TypeId×Value→H}{W:World}{base:Nat}{v:Value}{d:DataW H}{p:List MemPlace}(hv:Value.okWide prog W .any base 55 v)(hd:DataW.Trod enc prog W 0 (fun _=>true) true 55 v d p)(hlt:∀x∈p,x.block<W.heap.size):
 ∃(A:Option Addr) (L:List Dd) (c:Nat),v= .slice A L.length c∧L.length≤9223372036854775807∧Dds W A L∧∀r∈L,Y4 W r:=by
 obtain⟨a0,len,cap,rfl⟩:=Go.WideShapes.okWide_slice underlying55 hv;obtain⟨fuel,hf⟩:=hd;rcases Go.Deep.open_slice underlying55 hf with⟨hcs,_⟩|⟨a,len',cap',m,n,D,Pl,hcs,_,hl,hm,hmm,hx,hi⟩
 ·simp[Value.cells]at hcs;obtain⟨rfl,rfl,rfl⟩:=hcs;exact⟨none,[],0,rfl,by simp,Or.inl rfl,by simp⟩
 ·simp[Value.cells]at hcs;obtain⟨rfl,rfl,rfl⟩:=hcs;simp only[if_true]at hmm;subst hmm;unfold maxLen at hm;rw[Qm]at hi hx;simp only[Prod.mk.injEq]at hx;obtain⟨_,rfl⟩:=hx;obtain⟨b,o,spot⟩:=a;have pick:∀i,i<len→∃k:Dd,(∀(j:Nat) v,(ddC k).toList[j]? =some v→W.cell? (((⟨b,o,spot⟩:Addr).add (i*14)).add j)=some v)∧Y4 W k:=fun i hil=>by
   obtain⟨cs',h1,h2⟩:=hi i (by omega);obtain⟨r,rfl,⟨w1,w2,w3⟩,w0⟩:=Xd h2;obtain⟨_,_,hat⟩:=World.cells?_some h1;refine⟨r,fun j v hj=> ?_,⟨w1,w2,w3,(w0 fun q hq=>hlt q (List.mem_append_right _ (List.mem_flatMap.2 ⟨i,List.mem_range.2 (by omega),hq⟩))).fewer (Nat.min_le_left _ _)⟩⟩;have hj5:j<14:=(List.getElem?_eq_some_iff.1 hj).1;rw[hat j hj5,hj]
  haveI:Inhabited Dd:=⟨⟨0,0,⟨0,0,false,0,[]⟩,0,0,0,0,0,0,none,0,0⟩⟩
  obtain⟨f,hf2⟩:=Go.Deep.choose_lt (α:=Dd) pick;refine⟨some ⟨b,o,spot⟩,(List.range len).map f,m,by simp,by simp;omega,?_,fun a ha=> ?_⟩
  ·by_cases h0:len=0
   ·left
    rw[h0];rfl
   ·right
    have hspot:spot=none:=by simpa [Addr.add]using World.cell?_spot ((hf2 0 (by omega)).1 0 _ rfl)
    subst hspot;refine⟨b,o,rfl,hlt (.cell b o) (List.mem_append_left _ (MemPlace.mem_row.2 ⟨0,by omega,by simp⟩)),fun j a hj=> ?_⟩;rw[List.getElem?_map]at hj
    cases hs:(List.range len)[j]? with
    |none=>rw[hs]at hj;cases hj
    |some y=>
     rw[hs]at hj
     cases hj
     have hjl:j<len:=by simpa using(List.getElem?_eq_some_iff.1 hs).1
     have hy:y=j:=by
      rw[List.getElem?_range hjl]at hs;exact(Option.some.inj hs).symm
     subst hy;exact fun i v hv=>by
      have:=(hf2 y hjl).1 i v hv
      rw[Addr.add_lit,Addr.add_lit]at this;exact this
  ·rw[List.mem_map]at ha;obtain⟨i,hir,rfl⟩:=ha;exact(hf2 i (List.mem_range.1 hir)).2
theorem open_picks{H:Type}{enc:TypeId×Value→H}{W:World}{base:Nat}{v:Value}{d:DataW H}{p:List MemPlace}(hv:Value.okWide prog W .any base 58 v)(hd:DataW.Trod enc prog W 0 (fun _=>true) true 58 v d p)(hlt:∀x∈p,x.block<W.heap.size):
 ∃(A:Option Addr) (n c:Nat),v= .slice A n c∧n≤c∧c≤9223372036854775807∧jb W A n:=by
 obtain⟨a0,len,cap,rfl⟩:=Go.WideShapes.okWide_slice underlying58 hv;obtain⟨fuel,hf⟩:=hd;have hc:(Value.slice a0 len cap).cells.toList=[.slice a0 len cap]:=by simp[Value.cells]
 rw[hc]at hf;obtain⟨A,n,c,he,h1,h2,h3⟩:=Qn hf;exact⟨A,n,c,he,h1,h2,h3 hlt⟩
end Go.Proofs.YtccpdkjonepoiaaGreatDoor
