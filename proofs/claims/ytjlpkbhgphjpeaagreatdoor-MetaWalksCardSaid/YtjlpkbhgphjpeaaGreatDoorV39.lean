/- What the other laws of commonslaw14 share: a pair in its state, looked at. -/
import Derived.Test.YtjlpkbhgphjpeaaGreatDoorV35
set_option linter.unusedVariables false
set_option linter.unusedSimpArgs false
set_option linter.unusedSectionVars false
set_option maxHeartbeats 8000000
set_option maxRecDepth 100000
namespace Go.Proofs.YtjlpkbhgphjpeaaGreatDoor
open Go.RowKit
open Lib(hid)
open Go.Proofs.Tryz
open Go.Shelf
attribute [local go_sem] Oper.semAt_some
section
variable {x t r c K p:Nat} {S:List UInt8} {M:Gd.Vol} {T:Nat→Gd.Tab} {D:Nat→Nat→Nat} {φ:Nat→Nat} {Z:Pz.Fil} {w w0 a:World} {Ls:List (Nat×Obj)}
theorem PSt.rebase[zg](h:PSt x t r S M Z c K w0 a Ls)(hb:Below w.heap.size w w0){k:Nat}{o:Obj}(hk:w.heap.size≤k)(hk2:w0.heap[k]? =some o):PSt x t r S M Z c K w a ((k,o)::Ls):=by
 have hB:=h.belowW;obtain⟨F',G,h1,h2,h3,h4⟩:=h;have hl:=za hk2;refine⟨F',G,h1.behind hb,h2,fun j hj=>⟨Nat.le_trans hb.size (h3 j hj).1,(h3 j hj).2⟩,fun q hq=> ?_⟩;rcases List.mem_cons.1 hq with rfl|hq
 ·exact⟨hk,fun e=>h1.old k hl e,fun e=>absurd (h3 k e).1 (Nat.not_le.2 hl),(hB.block k hl).trans hk2⟩
 ·exact⟨Nat.le_trans hb.size (h4 q hq).1,(h4 q hq).2⟩
theorem PSt.low[zg](h:PSt x t r S M Z c K w a Ls){k:Nat}{o:Obj}(hk:(k,o)∈Ls):w.heap.size≤k:=by
 obtain⟨_,_,_,_,_,h4⟩:=h;exact(h4 _ hk).1
theorem PSt.commit0[zg](h:PSt x t r S M Z 0 K w a Ls):Calls prog 21 #[.pointer (some ⟨t,0,none⟩)] a fun e b=>e= .returned (.int .i64 0)∧b=a:=by
 obtain⟨F,⟨P,hm,-⟩,-⟩:=h.open;have hP:P=[]:=List.eq_nil_of_length_eq_zero (Nat.le_zero.1 hm.light.many);subst hP;exact Jq a hm.txn
theorem PSt.loads[zg](h:PSt x t r S M Z c K w a Ls):S.length=23168∧Calls prog 19 #[.pointer (some ⟨zg.no,0,none⟩),.int .i64 0,.int .i64 23168] a (xF a S):=by
 obtain⟨F,⟨P,hm,-⟩,-⟩:=h.open;have hl:=hm.len;obtain⟨m,g,pv,hM,-,-,-,-,-,-,hn⟩:=hm.txn;subst hn;have h1:=qO 0 23168 a hM (by omega) (by omega);have h2:Gd.part S 0 23168=S:=by
  unfold Gd.part;rw[List.drop_zero,List.take_of_length_le (by omega)]
 rw[h2]at h1;exact⟨hl,h1⟩
theorem jg[zg]{Kg:Nat}(k:Nat)(hk:k<8)(kind fl fd off n spare:Int)(s s2 data:ByteArray)(drop:Bool)(hs:s.size≤100000)(hs2:s2.size≤100000)(h:PSt x t r S M Z 0 K w w0 Ls)(hp:(p,zL t x r D)∈Ls)(hM:Mx w)(hSim:Gd.Sim M T D Z φ)(hG:Pz.Good Kg Z):
 Calls prog 18 #[.pointer (some ⟨p,0,none⟩),akV ⟨(k:Int)+1,kind,s,s2,fl,fd,off,n,data,spare,drop⟩] w0 fun e b=>∃(q:Pz.Rep) (A:Option Addr) (c i:Nat) (is:Bool) (Lq:List (Nat×Obj)) (N:Gd.Vol) (c2:Nat),e= .returned (.tuple #[xf q A c,.int .i64 i,.bool is])∧(q.errno=0∨i=0)∧PSt x t r S N Z c2 K w b (Lq++Ls):=by
 by_cases hl:j6 kind
 ·refine(Ye k hk kind fl fd off n spare s s2 data drop hl hs hs2 h hp hM hSim hG).mono ?_
  rintro e b ⟨q,A,c,i,Lq,rfl,-,-,hc⟩;rcases hc with⟨-,e2,-,N,c2,hq⟩|⟨-,-,e3,-,hq⟩|⟨e1,-,-,-,N,-,-,hq,-⟩
  ·exact⟨q,A,c,i,true,Lq,N,c2,rfl,Or.inr e2,hq⟩
  ·exact⟨q,A,c,i,true,Lq,M,0,rfl,Or.inr e3,hq⟩
  ·exact⟨q,A,c,i,true,Lq,N,57,rfl,Or.inl e1,hq⟩
 ·refine(Qr (p:=p) ((k:Int)+1) kind fl fd off n spare s s2 data drop w0 (fun e=>hl (by unfold j6;omega)) (fun e=>hl (by unfold j6;omega)) (fun e=>hl (by unfold j6;omega)) (fun e=>hl (by unfold j6;omega)) (fun e=>hl (by unfold j6;omega)) (fun e=>hl (by unfold j6;omega)) (fun e=>hl (by unfold j6;omega)) (fun e=>hl (by unfold j6;omega)) (fun e=>hl (by unfold j6;omega))).mono ?_
  rintro e b ⟨rfl,hb⟩;exact⟨Pz.er 0,none,0,0,false,[],M,0,rfl,Or.inr rfl,h.below hb⟩
end
theorem zV.box{w:World}{B:Nat}{v:Value}{L:List UInt8}(h:zV w B v L)(hL:L≠[]):∃(g cap:Nat) (o:Obj),v= .slice (some ⟨g,0,none⟩) L.length cap∧B≤g∧w.heap[g]? =some o∧∀W:World,W.heap[g]? =some o→zH W (.slice (some ⟨g,0,none⟩) L.length cap) L:=by
 have hr:=h;rcases h.2 with⟨_,h0⟩|⟨g,cap,cur,rfl,hb,hg,hc⟩
 ·exact absurd (List.eq_nil_of_length_eq_zero h0) hL
 ·exact⟨g,cap,_,rfl,hb,hg,fun W hW=>zV.at_ (w:=W) (B:=B) ⟨hr.1,Or.inr ⟨g,cap,cur,rfl,hb,hW,hc⟩⟩⟩
theorem zj(v v2:Value)(L:List UInt8)(w:World)(h1:zH w v L)(h2:zH w v2 L)(hl:L.length≤1000000):
 Calls prog 22 #[v,v2] w fun e w'=>e= .returned (.bool true)∧Below w.heap.size w w':=by
 obtain⟨A,c,rfl,h1⟩:=h1;obtain⟨A2,c2,rfl,h2⟩:=h2;have H1:=hid h1;have H2:=hid h2;clear h1 h2;obtain⟨n,hn⟩:=nm L.length;rw[←hn]at hl⊢;have Hn:=hid hn;clear hn;go_enter func22,ntmps22;go_wp2;go_loopw[5] (fun i wr=>∃k:Nat,k≤n∧i= .int .i64 k∧Below w.heap.size w wr) (fun i _=>n-(intOf i).toNat)
 case atStart=>exact⟨0,by omega,rfl,Below.refl _ _⟩
 case round=>
  obtain⟨k,hk,rfl,hbw⟩:=hrel;by_cases hlt:k<n
  ·have hkL:k<L.length:=by have:=Hn.o;omega
   obtain⟨x,hx⟩:∃x,L[k]? =some x:=⟨_,List.getElem?_eq_getElem hkL⟩;rcases H1.o with⟨-,h,-⟩|⟨b,o,rfl,h3,h4⟩
   ·subst h;simp at hkL
   rcases H2.o with⟨-,h,-⟩|⟨b',o',rfl,h3',h4'⟩
   ·subst h;simp at hkL
   have hc:wr.cell? ⟨b,o+k,none⟩=some (.int .u8 x.toNat):=(hbw.cell (p:=⟨b,o+k,none⟩) h3).trans (h4 k x hx);have hc':wr.cell? ⟨b',o'+k,none⟩=some (.int .u8 x.toNat):=(hbw.cell (p:=⟨b',o'+k,none⟩) h3').trans (h4' k x hx);clear h4 h4' hx hkL;have hk1:(0:Int)≤k:=by omega
   have hk2:(k:Int)<n:=by omega
   go_wp2;go_quiet (fail)
   go_wp2;go_roundw
   case rel=>exact⟨k+1,by omega,by go_num,below_drewN hbw _⟩
   case measure=>simp[intOf];omega
  ·go_wp2;go_ret
   exact⟨rfl,hbw⟩
open Go.ChangeShapes Go.WideShapes Go.ChangeAt in
theorem open_ak{H:Type}{enc:TypeId×Value→H}{W:World}{base:Nat}{v:Value}{d:DataW H}{p:List MemPlace}(hv:Value.okWide prog W .any base 29 v)(hd:DataW.Trod enc prog W 0 (fun _=>true) true 29 v d p):∃a:Ak,v=akV a:=by
 obtain⟨cs,rfl,_⟩:=okWide_struct underlying29 hv;obtain⟨fuel,hf⟩:=hd;obtain⟨a,hc⟩:=Mq.open_ask hf;obtain⟨l⟩:=cs;have e:l=(akC a).toList:=hc;rw[e];exact⟨a,rfl⟩
end Go.Proofs.YtjlpkbhgphjpeaaGreatDoor
