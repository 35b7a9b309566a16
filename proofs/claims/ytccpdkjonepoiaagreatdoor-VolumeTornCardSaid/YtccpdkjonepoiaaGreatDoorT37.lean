/- A commit cut off by a crash: what the law's steps come to. -/
import Derived.Test.YtccpdkjonepoiaaGreatDoorT36
set_option linter.unusedVariables false
set_option linter.unusedSimpArgs false
set_option linter.unusedSectionVars false
set_option maxHeartbeats 8000000
set_option maxRecDepth 100000
namespace Go.Proofs.YtccpdkjonepoiaaGreatDoor
open Go.RowKit
open Lib(hid)
open Go.Proofs.Tryz
open Go.Shelf
structure U1(w:World)(g cap:Nat)(L:List UInt8):Prop where
 lt:g<w.heap.size
 le:L.length≤cap
 cap:cap≤9223372036854775807
 cell:∀(j:Nat) (x:UInt8),L[j]? =some x→w.cell? ⟨g,0+j,none⟩=some (.int .u8 x.toNat)
theorem zA.rowc{w:World}{B:Nat}{v:Value}{L:List UInt8}(h:zA w B v L)(hL:L≠[]):∃(g cap:Nat) (ob:Obj),v= .slice (some ⟨g,0,none⟩) L.length cap∧B≤g∧w.heap[g]? =some ob∧∀W:World,W.heap[g]? =some ob→U1 W g cap L:=by
 have hr:=h;rcases h.2 with⟨-,h0⟩|⟨g,cap,cur,rfl,hb,hg,hn,hm,hc⟩
 ·exact absurd (List.eq_nil_of_length_eq_zero h0) hL
 ·refine⟨g,cap,_,rfl,hb,hg,fun W hW=>⟨za hW,hn,hm,?_⟩⟩;obtain⟨A,c,hv,hA⟩:=zA.at_ (w:=W) (B:=B) (v:= .slice (some ⟨g,0,none⟩) L.length cap) ⟨hr.1,Or.inr ⟨g,cap,cur,rfl,hb,hW,hn,hm,hc⟩⟩;rcases hA with⟨-,h0,-⟩|⟨b,o,hA,hlt,hcell⟩
  ·exact absurd h0 hL
  ·subst hA;injection hv with h1 _ _
   injection h1 with h1
   injection h1 with h1 h2 _
   subst h1;subst h2;exact hcell
theorem U1.keep{w w':World}{g cap:Nat}{L:List UInt8}(h:U1 w g cap L)(hb:Below w.heap.size w w'):U1 w' g cap L:=⟨Nat.lt_of_lt_of_le h.lt hb.size,h.le,h.cap,fun j x hx=>(hb.cell (p:=⟨g,0+j,none⟩) h.lt).trans (h.cell j x hx)⟩
theorem U1.part{w:World}{g cap:Nat}{L:List UInt8}(h:U1 w g cap L)(lo k m:Nat)(hk:lo+k≤L.length):zr w (.slice (some ⟨g,lo,none⟩) k m) (Gd.part L lo k):=by
 have:=yE h.lt h.cell lo m k hk
 rw[Nat.zero_add]at this;exact this
theorem Y4.below{w w1:World}{d:Dd}(h:Y4 w d)(hb:Below w.heap.size w w1):Y4 w1 d:=by
 refine⟨h.pc,h.pl,h.dl,h.pk.imp id fun⟨b,o,h1,h2,h3⟩=>⟨b,o,h1,Nat.lt_of_lt_of_le h2 hb.size,fun j hj=> ?_⟩⟩;obtain⟨x,hx⟩:=h3 j hj;exact⟨x,(hb.cell (p:=⟨b,o+j,none⟩) h2).trans hx⟩
theorem Dds.below{w w1:World}{A:Option Addr}{L:List Dd}(h:Dds w A L)(hb:Below w.heap.size w w1):Dds w1 A L:=
 h.imp id fun⟨b,o,h1,h2,h3⟩=>⟨b,o,h1,Nat.lt_of_lt_of_le h2 hb.size,fun j d hd i v hi=>(hb.cell (p:=⟨b,o+j*14+i,none⟩) h2).trans (h3 j d hd i v hi)⟩
section
variable {o x t f K n p v r:Nat} {R:RvB} {V U:Gd.Vl} {w w1 a b:World} {Ls:List (Nat×Obj)} {S:List UInt8} {P:List Gd.Pa} {c:Nat}
theorem Vp.rebase[zc]{L1 L2:List (Nat×Obj)}(h:Vp o x t f S P c K w1 a (L1++L2))(hb:Below w.heap.size w w1){bd:Nat}{o':Obj}(h1:w.heap.size≤bd)(h2:bd<w1.heap.size)(ho:a.heap[bd]? =some o'):Vp o x t f S P c K w a (L1++(bd,o')::L2):=by
 obtain⟨F',k1,k2⟩:=h;have hs:=hb.size;refine⟨F',⟨k1.inv,fun k hk e=>k1.old k (Nat.lt_of_lt_of_le hk hs) e,(zg hb Nof).trans k1.only fun _ _ e=>e⟩,fun p hp=> ?_⟩;have old:∀p∈(o,qP t x f)::(f,j5 t x)::(L1++L2),w.heap.size≤p.1∧¬F' p.1∧a.heap[p.1]? =some p.2:=fun p hp=>⟨Nat.le_trans hs (k2 p hp).1,(k2 p hp).2⟩;rcases List.mem_cons.1 hp with rfl|hp
 ·exact old _ (List.mem_cons_self ..)
 rcases List.mem_cons.1 hp with rfl|hp
 ·exact old _ (List.mem_cons_of_mem _ (List.mem_cons_self ..))
 rcases List.mem_append.1 hp with hp|hp
 ·exact old p (List.mem_cons_of_mem _ (List.mem_cons_of_mem _ (List.mem_append_left _ hp)))
 rcases List.mem_cons.1 hp with rfl|hp
 ·exact⟨h1,fun e=>k1.old bd h2 e,ho⟩
 ·exact old p (List.mem_cons_of_mem _ (List.mem_cons_of_mem _ (List.mem_append_right _ hp)))
theorem Bv.rebase[zc](h:Bv o x t f R V U K w1 a Ls)(hb:Below w.heap.size w w1){bd:Nat}{o':Obj}(h1:w.heap.size≤bd)(h2:bd<w1.heap.size)(ho:a.heap[bd]? =some o'):Bv o x t f R V U K w a ((bd,o')::Ls):=by
 obtain⟨Lr,k1,⟨S,M,hV,hF,hg⟩,k3⟩:=h;exact⟨Lr,k1,⟨S,M,⟨hV.1.rebase hb h1 h2 ho,hV.2⟩,hF,hg⟩,k3⟩
theorem Bv.high[zc](h:Bv o x t f R V U K w1 a Ls){q:Nat}(hq:R.has q):w1.heap.size≤q:=by
 obtain⟨Lr,k1,⟨S,M,hV,-⟩,-⟩:=h;obtain⟨o',ho⟩:=(k1 q).1 hq;obtain⟨F',-,h2⟩:=hV.1;exact(h2 _ (List.mem_cons_of_mem _ (List.mem_cons_of_mem _ (List.mem_append_left _ ho)))).1
structure UW(S:List UInt8)(c n:Nat)(y:Gd.Slot):Prop where
 len:S.length=23168
 log:Gd.part S 2688 8=Gd.le 0 8
 sound:Gd.SoundV S
 done:Gd.SoundV (Gd.doneS S (Gd.tornP c n y))
 head:Gd.part (Gd.view S [(64*c,Gd.slotB y)]) 0 64=Gd.headB n
 c8:c≤8
theorem UW.fit{y:Gd.Slot}(h:UW S c n y):Gd.Fit 23168 (Gd.tornP c n y):=fun p hp=>by
 have:=Gd.tornP_all h.c8 p hp
 omega
theorem UW.may{y:Gd.Slot}(h:UW S c n y):∀p∈Gd.tornP c n y,Gd.PaMay p:=fun p hp=>by
 have:=Gd.tornP_all h.c8 p hp
 exact⟨by omega,by omega⟩
theorem UW.low{y:Gd.Slot}(h:UW S c n y):∀p∈Gd.tornP c n y,p.1+p.2.length≤2688:=fun p hp=>by
 have:=Gd.tornP_all h.c8 p hp
 omega
theorem UW.len2{y:Gd.Slot}(h:UW S c n y):(Gd.doneS S (Gd.tornP c n y)).length=23168:=Gd.done_length h.len (by rw[Gd.tornR_length];omega) h.fit
theorem UW.rec_{y:Gd.Slot}(h:UW S c n y):Gd.part (Gd.doneS S (Gd.tornP c n y)) 2696 152=Gd.recB (Gd.tornP c n y):=by
 have:=Gd.done_rec h.len h.fit h.low (by rw[Gd.tornR_length];omega)
 rw[Gd.tornR_length]at this;exact this
theorem UW.rec2{y:Gd.Slot}(h:UW S c n y):Gd.Rec2 (Gd.part (Gd.doneS S (Gd.tornP c n y)) 2696 4088) (64*c) 0:=by
 have hl:=h.len2;refine Gd.rec2_of (d0:=Gd.slotB y) (d1:=Gd.headB (n+1)) (Gd.slotB_length y) (Gd.headB_length _) (by have:=h.c8;omega) (by omega) ?_ (Gd.part_length (by omega));rw[Gd.part_take _ _ (by omega)];exact h.rec_
theorem Bv.torn[zc](h:Bv o x t f R V U K w a Ls)(c:Nat)(c1:1≤c)(c8:c≤8)(y:Gd.Slot)(hy:y.May)(hn:V.n+1≤1152921504606846976):
 Calls prog 22 #[.pointer (some ⟨o,0,none⟩),.int .i64 c,zO y] a fun e b=>e= .returned (.int .i64 0)∧∃S,UW S c V.n y∧Vp o x t f S [(64*c,Gd.slotB y)] 1 K w b Ls:=by
 obtain⟨Lr,h1,⟨S,M,hV,hF,hg⟩,h3⟩:=h;have hr:(M.ino 1).k=2:=by rw[hF.root];rfl
 have hlog:Gd.part S 2688 8=Gd.le 0 8:=by
  obtain⟨F',hm,-⟩:=hV.1.metaF;exact hm.log
 have hso:=hV.2.2.sound hV.2.1 hr;have hl:S.length=23168:=hV.2.1.len;refine(hV.setslot c c1 c8 y hy (by omega)).mono ?_
 rintro e b ⟨he,hv⟩;have hG:=hv.2.1.setHead (a:=0) (b:=Gd.headB (V.n+1)) (by rw[Gd.headB_length];omega);have hf:Gd.Fit 23168 (Gd.tornP c V.n y):=fun p hp=>by
  have:=Gd.tornP_all c8 p hp
  omega
 have hR:(Gd.recB (Gd.tornP c V.n y)).length≤4088:=by rw[Gd.tornR_length];omega
 have hvw:Gd.view S (Gd.tornP c V.n y)=Gd.splice (Gd.view S ([]++[(64*c,Gd.slotB y)])) 0 (Gd.headB (V.n+1)):=by
  rw[←Gd.tornP_eq,Gd.view_snoc]
 have hsame:Gd.Good (Gd.doneS S (Gd.tornP c V.n y)) _:=hG.same (W:=Gd.doneS S (Gd.tornP c V.n y)) (by rw[hG.len];exact Gd.done_length hl hR hf) fun i hi=>by
  rw[←hvw];exact Gd.done_get hl hR hf i hi
 refine⟨he,S,⟨hl,hlog,hso,(hv.2.2.commit hn).sound hsame hr,?_,c8⟩,hv.1.less fun p hp=>List.mem_append_right _ hp⟩;exact(hv.at_ (by omega)).trans hv.2.2.head
theorem Vp.tcommit[zc]{y:Gd.Slot}(h:Vp o x t f S [(64*c,Gd.slotB y)] 1 K w a Ls)(hT:UW S c n y)(hK:K<600000000000)(hn:n+1≤1152921504606846976):
 Calls prog 23 #[.pointer (some ⟨o,0,none⟩)] a fun e b=>e= .returned (.int .i64 0)∧Vp o x t f (Gd.doneS S (Gd.tornP c n y)) [] 0 (K+2000000) w b Ls:=
 (h.commitE (by simp) (by omega) hK hn hT.head).mono fun e b ⟨he,_,hv⟩=>⟨he,hv⟩
def Tn[zc](S R E:List UInt8)(s K:Nat)(w a:World):Prop:=
 (s=0∧UX S (Gd.splice S 2696 R) (jL 2696 R.length) K w a)∨(s=1∧Mst (Gd.splice S 2696 R) K w a [])∨
 (s=2∧UX (Gd.splice S 2696 R) (Gd.splice (Gd.splice S 2696 R) 2688 E) (jL 2688 E.length) K w a)∨(3≤s∧Mst (Gd.splice (Gd.splice S 2696 R) 2688 E) K w a [])
theorem Tn.belowW[zc]{R E:List UInt8}{s:Nat}(h:Tn S R E s K w a):Below w.heap.size w a:=by
 rcases h with⟨-,sb,lb,ab,n,-,-,-,h⟩|⟨-,h⟩|⟨-,sb,lb,ab,n,-,-,-,h⟩|⟨-,h⟩
 ·exact h
 ·exact h.belowW
 ·exact h
 ·exact h.belowW
def TnY(S R E:List UInt8)(s:Nat)(Y:List UInt8):Prop:=(2≤s∧Y=Gd.splice (Gd.splice S 2696 R) 2688 E)∨(s≤2∧Y.length=23168∧∀i,i<2696→Y[i]? =S[i]?)
theorem Tn.crash[zc]{R E:List UInt8}{s pn pc:Nat}{pA:Option Addr}(h:Tn S R E s K w a)(hS:S.length=23168)(hR:R.length≤4088)(hE:E.length=8)(hp:jb a pA pn)(hpb:pn≠0→∀b o,pA=some ⟨b,o,none⟩→b<w.heap.size)(hpn:pn≤100000):
 Calls prog 29 #[.pointer (some ⟨zc.no,0,none⟩),.slice pA pn pc] a fun e b=>e= .returned (.tuple #[])∧∃Y,TnY S R E s Y∧Mst Y K w b []:=by
 have hl1:(Gd.splice S 2696 R).length=23168:=(Gd.splice_length (by omega)).trans hS;have hl2:(Gd.splice (Gd.splice S 2696 R) 2688 E).length=23168:=(Gd.splice_length (by omega)).trans hl1;have hag:∀i,i<2696→(Gd.splice S 2696 R)[i]? =S[i]? :=fun i hi=>by
  rw[Gd.splice_get (by omega),if_neg (by omega)]
 rcases h with⟨rfl,h⟩|⟨rfl,h⟩|⟨rfl,h⟩|⟨hs,h⟩
 ·refine(h.crash (pc:=pc) hp hpb hpn).mono ?_
  rintro e b ⟨he,Y,hY,hc,hM⟩;exact⟨he,Y,Or.inr ⟨by omega,by omega,U6 hS hR (by omega) fun k hk=>hc k (by omega)⟩,hM⟩
 ·refine(h.dirty.crash (pc:=pc) hp hpb hpn).mono ?_
  rintro e b ⟨he,Y,hY,hc,hM⟩;have hYS:Y=Gd.splice S 2696 R:=QB (n:=2896) (by omega) (by omega) fun j hj=>((hc j (by omega)).elim id id).symm;exact⟨he,Y,Or.inr ⟨by omega,by omega,by rw[hYS];exact hag⟩,hM⟩
 ·refine(h.crash (pc:=pc) hp hpb hpn).mono ?_
  rintro e b ⟨he,Y,hY,hc,hM⟩;rcases U7 hl1 hE (by omega) fun k hk=>hc k (by omega)with e1|e1
  ·exact⟨he,Y,Or.inl ⟨by omega,e1⟩,hM⟩
  ·exact⟨he,Y,Or.inr ⟨by omega,by omega,by rw[e1];exact hag⟩,hM⟩
 ·refine(h.dirty.crash (pc:=pc) hp hpb hpn).mono ?_
  rintro e b ⟨he,Y,hY,hc,hM⟩;have hYS:Y=Gd.splice (Gd.splice S 2696 R) 2688 E:=QB (n:=2896) (by omega) (by omega) fun j hj=>((hc j (by omega)).elim id id).symm;exact⟨he,Y,Or.inl ⟨by omega,hYS⟩,hM⟩
theorem U3[zc]{y:Gd.Slot}{s:Nat}{Y:List UInt8}(h:Mst Y K w a [])(hT:UW S c n y)(hY:TnY S (Gd.recB (Gd.tornP c n y)) (Gd.le 152 8) s Y)(hK:K<100000000000):
 Calls prog 10 #[.pointer (some ⟨zc.no,0,none⟩)] a fun e b=>∃(o:Nat) (S2:List UInt8) (K2:Nat),e= .returned (.tuple #[.pointer (some ⟨o,0,none⟩),.int .i64 0])∧S2.length=23168∧Mst S2 K2 w b []∧((2≤s∧Gd.part S2 0 2688=Gd.part (Gd.doneS S (Gd.tornP c n y)) 0 2688)∨(s≤2∧Gd.part S2 0 2688=Gd.part S 0 2688)):=by
 have hR:=Gd.tornR_length (c:=c) (n:=n) (y:=y);rcases hY with⟨hs,rfl⟩|⟨hs,hl,hag⟩
 ·have h':Mst (Gd.splice (Gd.splice S 2696 (Gd.recB (Gd.tornP c n y))) 2688 (Gd.le (Gd.recB (Gd.tornP c n y)).length 8)) K w a []:=by rw[hR];exact h
  refine(U0 h' hT.fit hT.may (by show 2≤64;omega) hT.len (by omega) hK hT.done).mono ?_
  rintro e b ⟨o,x,t,f,he,hv⟩;exact⟨o,_,_,he,hT.len2,hv.mst,Or.inl ⟨hs,rfl⟩⟩
 ·refine(yc h hl hK).mono ?_
  rintro e b ⟨S2,hl2,-,hs2,hor⟩;have hp:∀k m,k+m≤2696→Gd.part Y k m=Gd.part S k m:=fun k m hk=>Gd.part_ext (by omega) (by rw[hT.len];omega) fun i _ h2=>hag i (by omega);obtain rfl:=hs2 ((hp 2688 8 (by omega)).trans hT.log)
  rcases hor with⟨-,o,x,t,f,he,hv⟩|⟨hno,-⟩
  ·exact⟨o,_,_,he,hl,hv.mst,Or.inr ⟨hs,hp 0 2688 (by omega)⟩⟩
  ·exact absurd (hT.sound.same (by rw[hT.len];omega) (by omega) fun i hi=>(hag i (by omega)).symm) hno
end
end Go.Proofs.YtccpdkjonepoiaaGreatDoor
