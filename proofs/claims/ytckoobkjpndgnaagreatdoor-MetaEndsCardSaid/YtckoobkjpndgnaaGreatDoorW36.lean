/- Raw stores into a pair's memory; a pair that goes on. -/
import Derived.Test.YtckoobkjpndgnaaGreatDoorW35
import Derived.SliceStrings
set_option linter.unusedVariables false
set_option linter.unusedSimpArgs false
set_option linter.unusedSectionVars false
set_option maxHeartbeats 8000000
set_option maxRecDepth 100000
namespace Go.Proofs.YtckoobkjpndgnaaGreatDoor
open Go.RowKit
open Lib(hid)
open Go.Proofs.Tryz
open Go.Shelf
attribute [local go_sem] Oper.semAt_some
def RawB(w:World)(A:Option Addr)(L:List UInt8):Prop:=L=[]∨∃b o,A=some ⟨b,o,none⟩∧b<w.heap.size∧∀(j:Nat) (x:UInt8),L[j]? =some x→w.cell? ⟨b,o+j,none⟩=some (.int .u8 x.toNat)
theorem RawB.keep{w w':World}{A:Option Addr}{L:List UInt8}(h:RawB w A L)(hb:Below w.heap.size w w'):RawB w' A L:=by
 rcases h with h|⟨b,o,h1,h2,h3⟩
 ·exact Or.inl h
 ·exact Or.inr ⟨b,o,h1,Nat.lt_of_lt_of_le h2 hb.size,fun j x hx=>(hb.cell (p:=⟨b,o+j,none⟩) h2).trans (h3 j x hx)⟩
theorem RawB.take{w:World}{A:Option Addr}{L:List UInt8}(h:RawB w A L)(n:Nat):RawB w A (L.take n):=by
 rcases h with h|⟨b,o,h1,h2,h3⟩
 ·exact Or.inl (by rw[h];exact List.take_nil)
 ·refine Or.inr ⟨b,o,h1,h2,fun j x hx=>h3 j x ?_⟩;rw[List.getElem?_take]at hx;split at hx
  ·exact hx
  ·cases hx
theorem cellsOf8:prog.cellsOf 5=1:=by kernel_rfl
theorem open_bytesR{H:Type}{enc:TypeId×Value→H}{W:World}{base:Nat}{v:Value}{d:DataW H}{p:List MemPlace}(hv:Value.okWide prog W .any base 23 v)(hd:DataW.Trod enc prog W 0 (fun _=>true) true 23 v d p)(hlt:∀x∈p,x.block<W.heap.size):
 ∃A L c,v= .slice A L.length c∧L.length≤c∧c≤9223372036854775807∧RawB W A L:=by
 obtain⟨a0,len,cap,rfl⟩:=Go.WideShapes.okWide_slice underlying23 hv;obtain⟨fuel,hf⟩:=hd;rcases Go.ChangeShapes.open_ints underlying23 underlying5 cellsOf8 hf with⟨hcs,hx⟩|⟨a,len',cap',zs,hcs,_,hl,hm,hz,hx,hcell,hwz⟩
 ·simp[Value.cells]at hcs;obtain⟨rfl,rfl,rfl⟩:=hcs;exact⟨none,[],0,rfl,Nat.le_refl _,by omega,Or.inl rfl⟩
 ·simp[Value.cells]at hcs;obtain⟨rfl,rfl,rfl⟩:=hcs;simp only[if_true]at hz;simp only[Prod.mk.injEq]at hx;obtain⟨_,rfl⟩:=hx;unfold maxLen at hm;have hll:((zs.take len).map fun n=>UInt8.ofNat n.toNat).length=len:=by simp;omega
  refine⟨some a,(zs.take len).map fun n=>UInt8.ofNat n.toNat,cap,by rw[hll],by rw[hll];exact hl,by omega,?_⟩;by_cases h0:len=0
  ·left
   rw[h0];rfl
  ·right
   obtain⟨b,o,spot⟩:=a;have hspot:spot=none:=by simpa [Addr.add]using World.cell?_spot (hcell 0 (by omega))
   subst hspot;refine⟨b,o,rfl,hlt (.cell b o) (MemPlace.mem_row.2 ⟨0,by omega,by simp⟩),fun j x hj=> ?_⟩;rw[List.getElem?_map]at hj
   cases hs:(zs.take len)[j]? with
   |none=>rw[hs]at hj;cases hj
   |some y=>
    rw[hs]at hj
    cases hj
    rw[List.getElem?_take]at hs;split at hs
    ·have h1:=(List.getElem?_eq_some_iff.1 hs).1;have h2:=hcell j h1;rw[Addr.add_lit,List.getD_eq_getElem?_getD,hs]at h2;rw[h2];have hw:=hwz y (List.mem_of_getElem? hs);have hy:0≤y∧y≤255:=by
      simp[Lit.wf,show IntKind.u8.min=0 from rfl,show IntKind.u8.max=255 from rfl]at hw;exact hw
     simp only[Option.getD_some,UInt8.toNat_ofNat'];congr 2
     omega
    ·cases hs
theorem mstore_none{m sb lb ab n K:Nat}{S:List UInt8}{X:Nat→Prop}(a:Nat)(A:Option Addr)(c:Nat)(w:World)(h:MemX w m sb lb ab n S K X)(ha:a≤S.length):
 Calls prog 6 #[.pointer (some ⟨m,0,none⟩),.int .i64 a,.slice A 0 c] w fun e w'=>e= .returned (.int .i64 0)∧w'=w:=by
 have hl:=h.len;have hs:=h.small;have HW:=hid (within_any (a:Int) 0 (nat_I64 (by omega)) (nat_I64 (n:=0) (by omega)) w h);have hwb:(decide (0≤(a:Int))&&(decide (0≤(0:Int))&&decide ((a:Int)+0≤S.length)))=true:=by simp;omega
 rw[hwb]at HW;clear h hwb hl hs;go_enter func6,ntmps6;go_upto_region 4 with(go_at_call 22;refine HW.o.mono ?_;rintro e w2 ⟨rfl,rfl⟩)
 go_loopw[18] (fun z wr=>z= .int .i64 0∧wr=w2) (fun _ _=>0)
 case atStart=>exact⟨rfl,rfl⟩
 case round=>
  obtain⟨rfl,rfl⟩:=hrel;go_wp2;go_ret
  exact⟨rfl,rfl⟩
theorem KeptE.belowW[MemNo]{x t r p K g:Nat}{w b:World}(h:KeptE x t r p K g w b):Below w.heap.size w b:=by
 obtain⟨D,Z,hP,-⟩:=h;exact hP.belowW
theorem KeptE.more[MemNo]{x t r p K g K2 g2:Nat}{w b:World}(h:KeptE x t r p K g w b)(hK:K≤K2)(hg:g≤g2):KeptE x t r p K2 g2 w b:=by
 obtain⟨D,Z,hP,h1,h2⟩:=h;exact⟨D,Z,hP.more hK,h1.mono hg,h2⟩
theorem kept_beginE[MemNo]{x t r p:Nat}{S V:List UInt8}{w b:World}(h:PSt x t r S (Gd.freshV V) newFS 0 2000000 w b [(p,oPair t x r fun _ _=>0)]):KeptE x t r p 2000000 1 w b:=by
 obtain⟨F',G,h1,h2,h3,h4⟩:=h;refine⟨_,_,⟨F',G,⟨?_,h1.old,h1.only⟩,h2,h3,h4⟩,Pz.new_good.1,Pz.new_good.2⟩;obtain⟨P,hP,-⟩:=h1.inv;exact⟨S,P,hP.more (by omega) (Nat.le_refl _)⟩
def MTs[MemNo](x t:Nat)(S:List UInt8)(K:Nat)(w:World)(F:Nat→Prop):Prop:=∃P,TxnF t S P K w (Fx x F)∧w.heap[x]? =some (.cells #[.pointer (some ⟨t,0,none⟩)] 96 (0,0))∧F x∧S.length=23168∧PaLight P 64∧∀k,F k→k<w.heap.size
theorem MT.s[MemNo]{x t K:Nat}{S:List UInt8}{w:World}{F:Nat→Prop}(h:MT x t S K w F):MTs x t S K w F:=h.elim fun P h=>⟨P,h.txn,h.obj,h.inF,h.len,h.light,h.tight⟩
theorem MTs.t[MemNo]{x t K:Nat}{S:List UInt8}{w:World}{F:Nat→Prop}(h:MTs x t S K w F)(he:Gd.part S 2688 8=Gd.le 0 8):MT x t S K w F:=by
 obtain⟨P,h1,h2,h3,h4,h5,h6⟩:=h;exact⟨P,h1,h2,h3,h4,he,h5,h6⟩
theorem MTs.below[MemNo]{x t K:Nat}{S:List UInt8}{w w':World}{F:Nat→Prop}(h:MTs x t S K w F)(hb:Below w.heap.size w w'):MTs x t S K w' F:=by
 obtain⟨P,h1,h2,h3,h4,h5,h6⟩:=h;exact⟨P,(TxnF.held t S P K).below h1 hb,(hb.block x (lt_get h2)).trans h2,h3,h4,h5,fun k hk=>Nat.lt_of_lt_of_le (h6 k hk) hb.size⟩
theorem MTs.store[MemNo]{x t K:Nat}{S:List UInt8}{F:Nat→Prop}(a:Nat)(A:Option Addr)(c:Nat)(b:List UInt8)(w:World)(h:MTs x t S K w F)(hK:K≤1000000000000)(hb:RawB w A b)(hap:b≠[]→∀q o,A=some ⟨q,o,none⟩→¬F q)(ha:a+b.length≤23168)(hk:b.length≤4000):
 Calls prog 6 #[.pointer (some ⟨MemNo.no,0,none⟩),.int .i64 a,.slice A b.length c] w fun e w'=>e= .returned (.int .i64 0)∧MTs x t (Gd.splice S a b) 1000000000000 w' F∧Only F w w':=by
 obtain⟨P,⟨m,g,pv,⟨sb,lb,ab,n,hM,fm,fsb,flb,fab⟩,hT,hL,ft,fg,fq,hP,hmn⟩,hobj,hin,hS,hl,htt⟩:=h;subst hmn;obtain⟨A2,c2,rfl,hrow⟩:=row_pa hT.row;have hTn:¬Mem3 sb lb ab t:=by
  obtain⟨k,D,_,⟨es,ck,hm,_⟩,_⟩:=hM.away;obtain⟨Z,hZ,hlb⟩:=hM.lasts;have h1:=hT.obj;obtain⟨T2,h2⟩:=hM.seenE;rintro(e|e|e)
  ·rw[e,h2]at h1;exact absurd (Obj.cells.inj (Option.some.inj h1)).2.1 (by decide)
  ·rw[e,hlb]at h1;exact absurd (Obj.cells.inj (Option.some.inj h1)).2.1 (by decide)
  ·rw[e,hm]at h1
   cases h1
 have hQn:∀q,(Value.slice A2 P.length c2).ownBlock=some q→¬Mem3 sb lb ab q:=fun q hq=>by
  rcases hT.row.2 with⟨e,_⟩|⟨q',cap,cur,e,_,hg,_⟩
  ·rw[e]at hq;cases hq
  ·rw[e]at hq;obtain rfl:q'=q:=Option.some.inj hq
   obtain⟨k,D,_,⟨es,ck,hm,_⟩,_⟩:=hM.away;obtain⟨Z,hZ,hlb⟩:=hM.lasts;obtain⟨T2,h2⟩:=hM.seenE;rintro(e|e|e)
   ·rw[e,h2]at hg;exact absurd (Obj.cells.inj (Option.some.inj hg)).2.1 (by decide)
   ·rw[e,hlb]at hg;exact absurd (Obj.cells.inj (Option.some.inj hg)).2.1 (by decide)
   ·rw[e,hm]at hg
    cases hg
 have hsp:(Gd.splice S a b).length=23168:=by rw[Gd.splice_length (by rw[hS];exact ha)];exact hS
 have hfit:Gd.Fit 23168 P:=by have:=hP.fit;rw[hS]at this;exact this
 have hfin:∀w',MemX w' MemNo.no sb lb ab n (Gd.splice S a b) K (fun q=>1000000000000≤K∨touched a b.length q)→Only (fun k=>k=sb∨k=ab) w w'→MTs x t (Gd.splice S a b) 1000000000000 w' F∧Only F w w':=fun w' hX hO=>by
  have hO3:Only (Mem3 sb lb ab) w w':=hO.mono fun k _ e=>e.elim Or.inl fun e=>Or.inr (Or.inr e);have hOF:Only F w w':=hO.mono fun k _ e=>by
   rcases e with rfl|rfl
   ·exact fsb.1
   ·exact fab.1
  have hMA:MemAt w' MemNo.no sb lb ab n (Gd.splice S a b) 1000000000000:=⟨(hX.more hK).wide fun _ _ _=>Nat.le_refl _,fun h=>absurd h (Nat.lt_irrefl _)⟩;refine⟨⟨P,⟨MemNo.no,g,_,⟨sb,lb,ab,n,hMA,fm,fsb,flb,fab⟩,⟨(hO3.block t (lt_get hT.obj) hTn).trans hT.obj,?_⟩,hL.keep hO3 (hL.apart hM),ft,fg,fq,⟨by rw[hsp];exact hfit,hP.len,hP.many⟩,rfl⟩,?_,hin,hsp,hl,fun k hk=>Nat.lt_of_lt_of_le (htt k hk) hO.size⟩,hOF⟩
  ·exact⟨hT.row.1,hT.row.2.imp id fun⟨q,cap,cur,hv,hB,hg,hr⟩=>⟨q,cap,cur,hv,hB,(hO3.block q (lt_get hg) (hQn q (by rw[hv];rfl))).trans hg,hr⟩⟩
  ·refine(hO.block x (lt_get hobj) fun e=> ?_).trans hobj
   rcases e with e|e
   ·exact fsb.2 e.symm
   ·exact fab.2 e.symm
 by_cases h0:b=[]
 ·subst h0;refine(mstore_none a A c w hM.toMemX (by rw[hS];exact Nat.le_trans (Nat.le_add_right _ _) ha)).mono ?_
  rintro e w' ⟨rfl,rfl⟩;refine⟨rfl,hfin w' ?_ (Only.refl _ _)⟩;rw[Gd.splice_nil];exact hM.toMemX.wide fun _ _ e=>Or.inl e
 ·rcases hb with rfl|⟨q,o,rfl,h2,h3⟩
  ·exact absurd rfl h0
  ·have hB:BytesAt w (.slice (some ⟨q,o,none⟩) b.length c) b:=⟨_,_,rfl,Or.inr ⟨q,o,rfl,h2,h3⟩⟩;have hq:=hap h0 q o rfl;refine(mstore_at a _ b w hM.toMemX hB (fun q' hq'=>by
    cases hq'
    exact⟨fun e=>hq (by rw[show q=sb from e];exact fsb.1),fun e=>hq (by rw[show q=ab from e];exact fab.1)⟩) (by rw[hS];exact ha) (by omega)).mono ?_
   rintro e w' ⟨rfl,hX,hO⟩;exact⟨rfl,hfin w' hX hO⟩
def Lx[MemNo](x t r:Nat)(Z:Pz.Fil)(w a:World)(Ls:List (Nat×Obj)):Prop:=
 ∃S F' G,MTs x t S 1000000000000 a F'∧(∀k,k<w.heap.size→¬F' k)∧Only Nof w a∧RefF r Z a G∧(∀k,G k→w.heap.size≤k∧k<a.heap.size∧¬F' k)∧∀p∈Ls,w.heap.size≤p.1∧¬F' p.1∧¬G p.1∧a.heap[p.1]? =some p.2
section
variable [MemNo] {x t r K:Nat} {Z:Pz.Fil} {w a b:World} {Ls:List (Nat×Obj)}
theorem Lx.get(h:Lx x t r Z w a Ls){k:Nat}{o:Obj}(hk:(k,o)∈Ls):a.heap[k]? =some o:=by
 obtain⟨S,F',G,-,-,-,-,-,h4⟩:=h;exact(h4 _ hk).2.2.2
theorem Lx.below(h:Lx x t r Z w a Ls)(hb:Below a.heap.size a b):Lx x t r Z w b Ls:=by
 obtain⟨S,F',G,h1,h1o,h1n,h2,h3,h4⟩:=h;exact⟨S,F',G,h1.below hb,h1o,h1n.trans (below_only hb Nof) fun _ _ e=>e,(RefF.held r Z).below h2 hb,fun k hk=>⟨(h3 k hk).1,Nat.lt_of_lt_of_le (h3 k hk).2.1 hb.size,(h3 k hk).2.2⟩,fun p hp=>⟨(h4 p hp).1,(h4 p hp).2.1,(h4 p hp).2.2.1,(hb.block p.1 (lt_get (h4 p hp).2.2.2)).trans (h4 p hp).2.2.2⟩⟩
theorem Le.raw(h:Le x t r Z K w a Ls)(hK:K≤1000000000000)(at_:Nat)(A:Option Addr)(c:Nat)(X:List UInt8)(hb:RawB a A X)(hap:X≠[]→∀q o,A=some ⟨q,o,none⟩→q<w.heap.size)(ha:at_+X.length≤23168)(hX:X.length≤4000):
 Calls prog 6 #[.pointer (some ⟨MemNo.no,0,none⟩),.int .i64 at_,.slice A X.length c] a fun e b=>e= .returned (.int .i64 0)∧Lx x t r Z w b Ls:=by
 obtain⟨F',G,h1,h2,h3,h4⟩:=h;obtain⟨S,hs⟩:=h1.inv;refine(hs.s.store at_ A c X a hK hb (fun h0 q o hA hF=>h1.old q (hap h0 q o hA) hF) ha hX).mono ?_
 rintro e b ⟨rfl,hm,hO⟩;refine⟨rfl,_,F',G,hm,fun k hk hF=>h1.old k hk hF,h1.only.trans hO fun j hj e=>h1.old j hj e,(RefF.held r Z).apart h2 hO fun k hk hg=>(h3 k hg).2.2,fun k hk=>⟨(h3 k hk).1,Nat.lt_of_lt_of_le (h3 k hk).2.1 hO.size,(h3 k hk).2.2⟩,fun p hp=> ?_⟩;obtain⟨e1,e2,e3,e4⟩:=h4 p hp;exact⟨e1,e2,e3,(hO.block _ (lt_get e4) e2).trans e4⟩
theorem Lx.raw(h:Lx x t r Z w a Ls)(q c:Nat)(hq:a.heap.size≤q)(hb:Below a.heap.size a b)(hB:RawB b (some ⟨q,0,none⟩) (List.replicate 8 0)):
 Calls prog 6 #[.pointer (some ⟨MemNo.no,0,none⟩),.int .i64 2688,.slice (some ⟨q,0,none⟩) 8 c] b fun e b'=>e= .returned (.int .i64 0)∧Le x t r Z 1000000000000 w b' Ls:=by
 obtain⟨S,F',G,h1,h1o,h1n,h2,h3,h4⟩:=h;have htt:∀k,F' k→k<a.heap.size:=h1.choose_spec.2.2.2.2.2;have hS:S.length=23168:=h1.choose_spec.2.2.2.1;have hf:2688+(List.replicate 8 (0:UInt8)).length≤S.length:=by rw[hS];decide
 refine((h1.below hb).store 2688 _ c (List.replicate 8 0) b (Nat.le_refl _) hB (fun _ q' o hA hF=>by
  cases hA
  exact absurd (htt q hF) (Nat.not_lt.2 hq)) (by decide) (by decide)).mono ?_
 rintro e b' ⟨rfl,hm,hO⟩;have hw:=hb.size;have he:Gd.part (Gd.splice S 2688 (List.replicate 8 0)) 2688 8=Gd.le 0 8:=by
  have:=Gd.part_splice_same hf
  rw[List.length_replicate]at this;rw[this];rfl
 have hN2:Only Nof w b':=(h1n.trans (below_only hb Nof) fun _ _ e=>e).trans hO fun j hj e=>h1o j hj e;refine⟨rfl,F',G,⟨⟨_,hm.t he⟩,fun j hj e=>absurd e (h1o j hj),hN2⟩,(RefF.held r Z).apart ((RefF.held r Z).below h2 hb) hO fun k hk hg=>(h3 k hg).2.2,fun k hk=>⟨(h3 k hk).1,Nat.lt_of_lt_of_le (h3 k hk).2.1 (Nat.le_trans hw hO.size),(h3 k hk).2.2⟩,fun p hp=> ?_⟩;obtain⟨e1,e2,e3,e4⟩:=h4 p hp;have e5:=(hb.block p.1 (lt_get e4)).trans e4;exact⟨e1,e2,e3,(hO.block _ (lt_get e5) e2).trans e5⟩
end
end Go.Proofs.YtckoobkjpndgnaaGreatDoor
