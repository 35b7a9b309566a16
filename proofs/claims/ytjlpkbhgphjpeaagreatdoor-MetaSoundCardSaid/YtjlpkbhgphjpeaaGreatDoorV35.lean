/- An argument of the laws opened: rows of what clients ask of a volume. -/
import Derived.Test.YtjlpkbhgphjpeaaGreatDoorRow
import Derived.Deep.Slices
import Derived.Deep.Fields
import Derived.ChangeSame
import Derived.Test.YtjlpkbhgphjpeaaGreatDoorV34
import Derived.Test.YtjlpkbhgphjpeaaGreatDoorV33
set_option linter.unusedVariables false
set_option linter.unusedSimpArgs false
set_option linter.unusedSectionVars false
set_option maxHeartbeats 8000000
set_option maxRecDepth 100000
namespace Go.Proofs.YtjlpkbhgphjpeaaGreatDoor
open Go.RowKit
open Lib(hid)
open Go.Proofs.Tryz
section
open Go.ChangeShapes Go.WideShapes Go.ChangeAt
namespace Mq
theorem cells_int:prog.cellsOf 3=1:=by kernel_rfl
theorem cells_string:prog.cellsOf 9=1:=by kernel_rfl
theorem cells_bool:prog.cellsOf 4=1:=by kernel_rfl
theorem cells_call:prog.cellsOf 27=8:=by kernel_rfl
theorem cells_ask:prog.cellsOf 29=11:=by kernel_rfl
section
variable {H:Type} {enc:TypeId×Value→H} {W:World} {base:Nat} {spare:Nat→Bool} {held:Bool} {fuel:Nat} {x:DataW H×List MemPlace}
theorem one_int{v:Value}(h:DataW.trod enc prog W base spare held fuel 3 [v]=some x):∃n,v= .int .i64 n∧(Lit.int .i64 n).wf=true:=by
 obtain⟨n,hc,_,hw⟩:=DataW.trod_int underlying3 h
 cases hc
 exact⟨n,rfl,hw⟩
theorem one_string{v:Value}(h:DataW.trod enc prog W base spare held fuel 9 [v]=some x):∃s,v= .string s:=by
 obtain⟨s,hc,_⟩:=DataW.trod_string underlying9 h
 cases hc
 exact⟨s,rfl⟩
theorem one_bool{v:Value}(h:DataW.trod enc prog W base spare held fuel 4 [v]=some x):∃b,v= .bool b:=by
 obtain⟨b,hc,_⟩:=DataW.trod_bool underlying4 h
 cases hc
 exact⟨b,rfl⟩
theorem open_call{cs:List Value}(h:DataW.trod enc prog W base spare held fuel 27 cs=some x):
 ∃(kind flags fd off n:Int) (p p2 data:ByteArray),cs=[.int .i64 kind,.string p,.string p2,.int .i64 flags,.int .i64 fd,.int .i64 off,.int .i64 n,.string data]∧(Lit.int .i64 fd).wf=true:=by
 obtain⟨xs,m,_,_,hl,hxl,hg⟩:=DataW.trod_struct underlying27 h;rw[cells_call]at hl;match cs,hl,xs,hxl with
 |[c0,c1,c2,c3,c4,c5,c6,c7],_,[y0,y1,y2,y3,y4,y5,y6,y7],_=>
  have g0:DataW.trod enc prog W base spare held m 3 ((List.drop 0 [c0,c1,c2,c3,c4,c5,c6,c7]).take (prog.cellsOf 3))=some y0:=hg 0 _ rfl;rw[cells_int]at g0;have g1:DataW.trod enc prog W base spare held m 9 ((List.drop 1 [c0,c1,c2,c3,c4,c5,c6,c7]).take (prog.cellsOf 9))=some y1:=hg 1 _ rfl;rw[cells_string]at g1;have g2:DataW.trod enc prog W base spare held m 9 ((List.drop 2 [c0,c1,c2,c3,c4,c5,c6,c7]).take (prog.cellsOf 9))=some y2:=hg 2 _ rfl;rw[cells_string]at g2;have g3:DataW.trod enc prog W base spare held m 3 ((List.drop 3 [c0,c1,c2,c3,c4,c5,c6,c7]).take (prog.cellsOf 3))=some y3:=hg 3 _ rfl;rw[cells_int]at g3;have g4:DataW.trod enc prog W base spare held m 3 ((List.drop 4 [c0,c1,c2,c3,c4,c5,c6,c7]).take (prog.cellsOf 3))=some y4:=hg 4 _ rfl;rw[cells_int]at g4
  have g5:DataW.trod enc prog W base spare held m 3 ((List.drop 5 [c0,c1,c2,c3,c4,c5,c6,c7]).take (prog.cellsOf 3))=some y5:=hg 5 _ rfl;rw[cells_int]at g5;have g6:DataW.trod enc prog W base spare held m 3 ((List.drop 6 [c0,c1,c2,c3,c4,c5,c6,c7]).take (prog.cellsOf 3))=some y6:=hg 6 _ rfl;rw[cells_int]at g6;have g7:DataW.trod enc prog W base spare held m 9 ((List.drop 7 [c0,c1,c2,c3,c4,c5,c6,c7]).take (prog.cellsOf 9))=some y7:=hg 7 _ rfl;rw[cells_string]at g7;obtain⟨k0,rfl,_⟩:=one_int g0;obtain⟨k1,rfl⟩:=one_string g1;obtain⟨k2,rfl⟩:=one_string g2;obtain⟨k3,rfl,_⟩:=one_int g3;obtain⟨k4,rfl,w4⟩:=one_int g4;obtain⟨k5,rfl,_⟩:=one_int g5;obtain⟨k6,rfl,_⟩:=one_int g6;obtain⟨k7,rfl⟩:=one_string g7;exact⟨k0,k3,k4,k5,k6,k1,k2,k7,rfl,w4⟩
theorem open_ask{cs:List Value}(h:DataW.trod enc prog W base spare held fuel 29 cs=some x):∃a:Ak,cs=(akC a).toList:=by
 obtain⟨xs,m,_,_,hl,hxl,hg⟩:=DataW.trod_struct underlying29 h;rw[cells_ask]at hl;match cs,hl,xs,hxl with
 |[c0,c1,c2,c3,c4,c5,c6,c7,c8,c9,c10],_,[y0,y1,y2,y3],_=>
  have g0:DataW.trod enc prog W base spare held m 3 ((List.drop 0 [c0,c1,c2,c3,c4,c5,c6,c7,c8,c9,c10]).take (prog.cellsOf 3))=some y0:=hg 0 _ rfl;rw[cells_int]at g0;have g1:DataW.trod enc prog W base spare held m 27 ((List.drop 1 [c0,c1,c2,c3,c4,c5,c6,c7,c8,c9,c10]).take (prog.cellsOf 27))=some y1:=hg 1 _ rfl;rw[cells_call]at g1;have g2:DataW.trod enc prog W base spare held m 3 ((List.drop 9 [c0,c1,c2,c3,c4,c5,c6,c7,c8,c9,c10]).take (prog.cellsOf 3))=some y2:=hg 2 _ rfl;rw[cells_int]at g2;have g3:DataW.trod enc prog W base spare held m 4 ((List.drop 10 [c0,c1,c2,c3,c4,c5,c6,c7,c8,c9,c10]).take (prog.cellsOf 4))=some y3:=hg 3 _ rfl;rw[cells_bool]at g3;obtain⟨k0,rfl,_⟩:=one_int g0;obtain⟨kind,flags,fd,off,n,p,p2,data,hc,_⟩:=open_call g1;obtain⟨k9,rfl,_⟩:=one_int g2;obtain⟨b,rfl⟩:=one_bool g3
  cases hc
  exact⟨⟨k0,kind,p,p2,flags,fd,off,n,data,k9,b⟩,rfl⟩
end
end Mq
def Ua(w:World)(A:Option Addr)(L:List Ak):Prop:=
 L=[]∨∃b o,A=some ⟨b,o,none⟩∧b<w.heap.size∧∀(j:Nat) (a:Ak),L[j]? =some a→∀(i:Nat) (v:Value),(akC a).toList[i]? =some v→w.cell? ⟨b,o+j*11+i,none⟩=some v
theorem Ua.keep{w w':World}{A:Option Addr}{L:List Ak}(h:Ua w A L)(hb:Below w.heap.size w w'):Ua w' A L:=by
 rcases h with h|⟨b,o,h1,h2,h3⟩
 ·exact Or.inl h
 ·exact Or.inr ⟨b,o,h1,Nat.lt_of_lt_of_le h2 hb.size,fun j a ha i v hv=>(hb.cell (p:=⟨b,o+j*11+i,none⟩) h2).trans (h3 j a ha i v hv)⟩
theorem open_aks{H:Type}{enc:TypeId×Value→H}{W:World}{base:Nat}{v:Value}{d:DataW H}{p:List MemPlace}(hv:Value.okWide prog W .any base 22 v)(hd:DataW.Trod enc prog W 0 (fun _=>true) true 22 v d p)(hlt:∀x∈p,x.block<W.heap.size):
 ∃(A:Option Addr) (L:List Ak) (c:Nat),v= .slice A L.length c∧L.length≤9223372036854775807∧Ua W A L:=by
 obtain⟨a0,len,cap,rfl⟩:=Go.WideShapes.okWide_slice underlying22 hv;obtain⟨fuel,hf⟩:=hd;rcases Go.Deep.open_slice underlying22 hf with⟨hcs,_⟩|⟨a,len',cap',m,n,D,Pl,hcs,_,hl,hm,hmm,hx,hi⟩
 ·simp[Value.cells]at hcs;obtain⟨rfl,rfl,rfl⟩:=hcs;exact⟨none,[],0,rfl,by simp,Or.inl rfl⟩
 ·simp[Value.cells]at hcs;obtain⟨rfl,rfl,rfl⟩:=hcs;simp only[if_true]at hmm;subst hmm;unfold maxLen at hm;rw[Mq.cells_ask]at hi hx;simp only[Prod.mk.injEq]at hx;obtain⟨_,rfl⟩:=hx;obtain⟨b,o,spot⟩:=a;have pick:∀i,i<len→∃k:Ak,∀j v,(akC k).toList[j]? =some v→W.cell? (((⟨b,o,spot⟩:Addr).add (i*11)).add j)=some v:=fun i hil=>by
   obtain⟨cs',h1,h2⟩:=hi i (by omega);obtain⟨k,rfl⟩:=Mq.open_ask h2;obtain⟨_,_,hat⟩:=World.cells?_some h1;refine⟨k,fun j v hj=> ?_⟩;have hj10:j<11:=(List.getElem?_eq_some_iff.1 hj).1;rw[hat j hj10,hj]
  haveI:Inhabited Ak:=⟨⟨0,0,⟨#[]⟩,⟨#[]⟩,0,0,0,0,⟨#[]⟩,0,false⟩⟩
  obtain⟨f,hf2⟩:=Go.Deep.choose_lt (α:=Ak) pick;refine⟨some ⟨b,o,spot⟩,(List.range len).map f,m,by simp,by simp;omega,?_⟩;by_cases h0:len=0
  ·left
   rw[h0];rfl
  ·right
   have hspot:spot=none:=by simpa [Addr.add]using World.cell?_spot (hf2 0 (by omega) 0 _ rfl)
   subst hspot;refine⟨b,o,rfl,hlt (.cell b o) (List.mem_append_left _ (MemPlace.mem_row.2 ⟨0,by omega,by simp⟩)),fun j a hj i v hv=> ?_⟩;rw[List.getElem?_map]at hj
   cases hs:(List.range len)[j]? with
   |none=>rw[hs]at hj;cases hj
   |some y=>
    rw[hs]at hj
    cases hj
    have hjl:j<len:=by simpa using(List.getElem?_eq_some_iff.1 hs).1
    have hy:y=j:=by
     rw[List.getElem?_range hjl]at hs;exact(Option.some.inj hs).symm
    subst hy;have:=hf2 y hjl i v hv
    rw[Addr.add_lit,Addr.add_lit]at this;exact this
end
section
open Go.Shelf
theorem Xl[zg]{x t r K g p:Nat}{w:World}(cl kind fl fd off n spare:Int)(s0 s20 data:ByteArray)(dr:Bool)(w0:World)(h:yy x t r p K g w w0)(hM:Mx w)(hg:g≤900)(hK:K<500000000000):
 Calls prog 10 #[.pointer (some ⟨p,0,none⟩),akV ⟨cl,kind,s0,s20,fl,fd,off,n,data,spare,dr⟩] w0 fun e b=>e= .returned (.bool true)∧yy x t r p (K+2000000) (g+3) w b:=by
 obtain⟨S,M,T,D,Z,φ,hP,hS,hG,hF⟩:=h;by_cases hc:cl<1∨8<cl
 ·exact Xk cl hc kind fl fd off n spare s0 s20 data dr w0 hP hM hS hG hg hF hK
 obtain⟨k,rfl⟩:∃k:Nat,cl=(k:Int)+1:=⟨(cl-1).toNat,by omega⟩;have hk:k<8:=by omega
 cases dr with
 |true=>exact JS k hk kind fl fd off n spare s0 s20 data w0 hP hM hS hG hg hF hK
 |false=>
  by_cases hl:j6 kind
  ·exact JT k hk kind fl fd off n spare s0 s20 data w0 hP hM hS hG hg hF hK hl
  ·exact JR k hk kind fl fd off n spare s0 s20 data w0 hP hM hS hG hg hF hK hl
end
section
open Go.Shelf
theorem yy.belowW[zg]{x t r p K g:Nat}{w b:World}(h:yy x t r p K g w b):Below w.heap.size w b:=by
 obtain⟨S,M,T,D,Z,φ,hP,-⟩:=h;exact hP.belowW
theorem Mx.under{w b:World}(h:Mx w)(hb:Below w.heap.size w b):Mx b:=by
 obtain⟨mx,hmx⟩:=h;exact⟨mx,(hb.cell (p:=⟨0,0,none⟩) (uH hmx)).trans hmx⟩
theorem J9[zg]{x t r p:Nat}{S V:List UInt8}{w b:World}(h:PSt x t r S (Gd.freshV V) qu 0 2000000 w b [(p,zL t x r fun _ _=>0)]):yy x t r p 2000000 1 w b:=
 ⟨S,_,_,_,_,_,h,Gd.Sim.fresh V,Pz.new_good.1,Pz.new_good.2⟩
end
end Go.Proofs.YtjlpkbhgphjpeaaGreatDoor
