/- Walks: a client's log is taken over: Take. -/
import Derived.Test.YtccpdkjonepoiaaGreatDoorS30
set_option linter.unusedVariables false
set_option linter.unusedSimpArgs false
set_option linter.unusedSectionVars false
set_option maxHeartbeats 8000000
set_option maxRecDepth 100000
namespace Go.Proofs.YtccpdkjonepoiaaGreatDoor
open Go.RowKit
open Lib(hid)
open Go.Proofs.Tryz
section
open Go.Shelf
attribute [local go_sem] Oper.semAt_some
section
variable {o x t f c K n:Nat} {S:List UInt8} {P:List Gd.Pa} {M:Gd.Vol} {s:Nat→Gd.Slot} {w a b:World} {Ls:List (Nat×Obj)}
theorem Vp.drop[zc](h:Vp o x t f S P c K w a Ls):
 Calls prog 31 #[.pointer (some ⟨t,0,none⟩)] a fun e b=>e= .returned (.tuple #[])∧Vp o x t f S [] 0 K w b Ls:=by
 obtain⟨F',h,-,-,hC⟩:=h.metaF;refine(yR a h.txn).mono ?_
 rintro e b ⟨he,hT,hO⟩;exact⟨he,hC _ _ _ _ _ F' ⟨⟨hT,(hO.block x (za h.obj) fun e=>e.2 rfl).trans h.obj,h.inF,h.len,h.log,jM.nil 0,fun k hk=>Nat.lt_of_lt_of_le (h.tight k hk) hO.size⟩,fun _ _ e=>e,hO.mono fun _ _ e=>e.1⟩⟩
end
theorem qX{W:World}{B:Nat}{u v:Value}{l:List (Gd.Rec×Nat)}(h:jx B W u v l):∃bu cu bv cv,u= .slice bu l.length cu∧v= .slice bv l.length cv∧∀k p,l[k]? =some p→∃qu qv,bu=some ⟨qu,0,none⟩∧bv=some ⟨qv,0,none⟩∧(qu<W.heap.size∧qv<W.heap.size)∧W.rangeAt qu (k*5) (zN p.1).toList∧W.cell? ⟨qv,k,none⟩=some (.int .i64 p.2):=by
 obtain⟨h1,h2⟩:=h;obtain⟨A,c,e1⟩:=qE h1;obtain⟨A',c',e2⟩:=qE h2;refine⟨A,c,A',c',e1,e2,fun k p hp=> ?_⟩;have hk:=(List.getElem?_eq_some_iff.1 hp).1;rcases h1.2 with⟨_,h0⟩|⟨g,cap,cur,e3,_,hg,-⟩
 ·omega
 rcases h2.2 with⟨_,h0⟩|⟨g',cap',cur',e4,_,hg',-⟩
 ·omega
 rw[e1]at e3;rw[e2]at e4;have e5:A=some ⟨g,0,none⟩:=by injection e3
 have e6:A'=some ⟨g',0,none⟩:=by injection e4
 refine⟨g,g',e5,e6,⟨za hg,za hg'⟩,fun j u hj=> ?_,?_⟩
 ·have hj5:j<5:=(List.getElem?_eq_some_iff.1 hj).1;rw[e1,e5]at h1;rw[h1.cellAt (k*5+j) (by omega),j8 (p:=p.1) j (by rw[List.getElem?_map,hp];rfl) hj5,hj]
 ·rw[e2,e6]at h2;rw[h2.cellAt k (by omega)];unfold xI;rw[List.getElem?_map,List.getElem?_map,hp];rfl
section
variable {o x t f c K n B m:Nat} {V:Gd.Vl} {w a b:World} {Ls Lu:List (Nat×Obj)} {l:List (Gd.Rec×Nat)} {v:Value}
def TkI[zc](o x t f B:Nat)(V:Gd.Vl)(c:Nat)(l:List (Gd.Rec×Nat))(K:Nat)(w:World)(Ls:List (Nat×Obj))(k:Nat)(v:Value)(a:World):Prop:=
 ∃Lo,Vs o x t f (V.steps c (l.take k)) (K+2000000*k) w a (Lo++Ls)∧(∀q,v.ownBlock=some q→∃C,(q,Obj.cells C 57 (0,0))∈Lo)∧(∀p∈Lo,v.ownBlock=some p.1)∧a.ownsRow B 57 5 v (Gd.Vl.outs c V (l.take k)).length (jd (Gd.Vl.outs c V (l.take k)))
theorem X8{v:Value}{n e size:Nat}{xs:List Value}{Lo:List (Nat×Obj)}(h:a.ownsRow B e size v n xs)(h1:∀q,v.ownBlock=some q→∃C,(q,Obj.cells C e (0,0))∈Lo)(ha:∀p∈Lo,a.heap[p.1]? =some p.2)(hb:∀p∈Lo,b.heap[p.1]? =some p.2):b.ownsRow B e size v n xs:=
 zT h fun q cur hq hc=>by
  obtain⟨C,hC⟩:=h1 q hq;rw[hb _ hC,ha _ hC]
theorem yF(c:Nat):∀(l:List (Gd.Rec×Nat)) (V:Gd.Vl),(Gd.Vl.outs c V l).length≤l.length
 |[],_=>Nat.le_refl _
 |p::l,V=>by
  show(_++Gd.Vl.outs c (V.step c p) l).length≤l.length+1
  have:=yF c l (V.step c p)
  rw[List.length_append];split
  ·rw[List.length_singleton];omega
  ·rw[List.length_nil];omega
theorem Vs.slotB[zc](h:Vs o x t f V K w a Ls)(c:Nat)(c1:1≤c)(c2:c≤8):
 Calls prog 17 #[.pointer (some ⟨o,0,none⟩),.int .i64 c] a fun e b=>e= .returned (.tuple #[zO (V.s c),.int .i64 0])∧Below a.heap.size a b:=by
 obtain⟨S,M,hV,-⟩:=h;exact hV.1.slot c c1 c2 (hV.2.2.may c c1 c2) ((hV.at_ (by omega)).trans (hV.2.2.slot c c1 c2))
def Vm[zc](o x t f:Nat)(V:Gd.Vl)(c K:Nat)(w a:World)(Ls:List (Nat×Obj)):Prop:=
 ∃S P M,Vq o x t f S P M V.n V.s c K w a Ls∧Gd.Fils M V.fs∧∀c,1≤c→c≤8→Gd.part M.logs (1024*(c-1)) 1024=V.lg c
theorem Vs.vm[zc](h:Vs o x t f V K w a Ls)(c:Nat):Vm o x t f V c K w a Ls:=by
 obtain⟨S,M,hV,h2⟩:=h;exact⟨S,[],M,hV.more (Nat.zero_le _) (Nat.le_refl _),h2⟩
theorem Vm.below[zc](h:Vm o x t f V m K w a Ls)(hb:Below a.heap.size a b):Vm o x t f V m K w b Ls:=by
 obtain⟨S,P,M,h1,h2⟩:=h;exact⟨S,P,M,h1.below hb,h2⟩
theorem Vm.get[zc](h:Vm o x t f V m K w a Ls){k:Nat}{o':Obj}(hk:(k,o')∈Ls):a.heap[k]? =some o':=by
 obtain⟨S,P,M,h1,h2⟩:=h;exact h1.get hk
theorem Vm.vol[zc](h:Vm o x t f V m K w a Ls):jU a o t x f:=by
 obtain⟨S,P,M,h1,h2⟩:=h;exact h1.1.vol
theorem Vm.slotB[zc](h:Vm o x t f V m K w a Ls)(c:Nat)(c1:1≤c)(c2:c≤8):
 Calls prog 17 #[.pointer (some ⟨o,0,none⟩),.int .i64 c] a fun e b=>e= .returned (.tuple #[zO (V.s c),.int .i64 0])∧Below a.heap.size a b:=by
 obtain⟨S,P,M,hV,-⟩:=h;exact hV.1.slot c c1 c2 (hV.2.2.may c c1 c2) ((hV.at_ (by omega)).trans (hV.2.2.slot c c1 c2))
theorem Vm.drop[zc](h:Vs o x t f V K w a Ls):
 Calls prog 31 #[.pointer (some ⟨t,0,none⟩)] a fun e b=>e= .returned (.tuple #[])∧Vs o x t f V K w b Ls:=by
 obtain⟨S,M,hV,h2⟩:=h;refine hV.1.drop.mono ?_;rintro e b ⟨he,hv⟩;exact⟨he,S,M,⟨hv,hV.2⟩,h2⟩
theorem Vm.setslot[zc](h:Vm o x t f V m K w a Ls)(c:Nat)(c1:1≤c)(c2:c≤8)(y:Gd.Slot)(hy:y.May)(hm:m≤50):
 Calls prog 22 #[.pointer (some ⟨o,0,none⟩),.int .i64 c,zO y] a fun e b=>e= .returned (.int .i64 0)∧∃S P M,P≠[]∧Vq o x t f S P M V.n (Gd.updS V.s c y) (m+1) K w b Ls∧Gd.Fils M V.fs∧∀c,1≤c→c≤8→Gd.part M.logs (1024*(c-1)) 1024=V.lg c:=by
 obtain⟨S,P,M,hV,hF,hg⟩:=h;refine(hV.setslot c c1 c2 y hy (by omega)).mono ?_
 rintro e b ⟨he,hv⟩;exact⟨he,S,_,_,by simp,hv,hF.same rfl rfl rfl,hg⟩
theorem uq[zc]{y:Gd.Slot}(h:∃S P M,P≠[]∧Vq o x t f S P M V.n (Gd.updS V.s c y) m K w a Ls∧Gd.Fils M V.fs∧∀c,1≤c→c≤8→Gd.part M.logs (1024*(c-1)) 1024=V.lg c)(hm:m≤56)(hK:K<600000000000)(hn:V.n+1≤1152921504606846976):
 Calls prog 23 #[.pointer (some ⟨o,0,none⟩)] a fun e b=>e= .returned (.int .i64 0)∧Vs o x t f (V.sets c y) (K+2000000) w b Ls:=by
 obtain⟨S,P,M,hP,hV,hF,hg⟩:=h;refine(hV.commit hP hm hK hn).mono ?_
 rintro e b ⟨he,S',hv⟩;exact⟨he,S',_,hv,hF.same rfl rfl rfl,hg⟩
theorem Vs.applyR[zc](h:Vs o x t f V K w a Ls)(hok:V.Ok)(r:Gd.Rec)(hm:r.may=true):
 Calls prog 78 #[.pointer (some ⟨f,0,none⟩),qq r,.int .i64 0] a fun e b=>∃E:Int,e= .returned (.int .i64 E)∧((V.got r=true∧E=0∧Vm o x t f (V.setf r) 13 K w b Ls)∨(V.got r=false∧E≠0∧V.setf r=V∧Vs o x t f V K w b Ls)):=by
 obtain⟨S,M,hV,hF,hg⟩:=h;refine(hV.apply hF hok.file r hm).mono ?_
 rintro e b (⟨hi,hc,he,P,N,hv,hN,hl⟩|⟨hno,E,hE,he,hv⟩)
 ·have hgot:V.got r=true:=by
   unfold Gd.Vl.got;rw[decide_eq_true hi,decide_eq_true hc];rfl
  refine⟨0,he,Or.inl ⟨hgot,rfl,?_⟩⟩;unfold Gd.Vl.setf;rw[if_pos hgot];exact⟨S,P,N,hv,hN,fun c h1 h2=>by rw[hl];exact hg c h1 h2⟩
 ·have hgot:V.got r=false:=by
   cases hh:V.got r with
   |true=>exact absurd (Gd.Vl.got_ok hh) hno
   |false=>rfl
  refine⟨E,he,Or.inr ⟨hgot,hE,?_,S,M,hv,hF,hg⟩⟩;unfold Gd.Vl.setf;rw[if_neg (by rw[hgot];decide)]
theorem Y9(V:Gd.Vl)(c:Nat)(p:Gd.Rec×Nat):V.step c p=(V.setf p.1).sets c (Gd.tookS (V.s c) p):=rfl
theorem jN{α:Type}{P:List α}{i:Nat}{p:α}(h:P[i]? =some p):P.take (i+1)=P.take i++[p]:=by
 rw[List.take_add_one,h];rfl
theorem TkI.row[zc]{k:Nat}(h:TkI o x t f B V c l K w Ls k v a):a.ownsRow B 57 5 v (Gd.Vl.outs c V (l.take k)).length (jd (Gd.Vl.outs c V (l.take k))):=by
 obtain⟨Lo,h1,h2,h3,h4⟩:=h;exact h4
theorem Ux[zc]{k:Nat}{p:Gd.Rec×Nat}{Lo:List (Nat×Obj)}{a0:World}{G:List (Nat×Obj)}(hp:l[k]? =some p)(hg:(V.steps c (l.take k)).got p.1=false)(h1:Vs o x t f (V.steps c (l.take k)) (K+2000000*k) w a0 (Lo++Ls))(h2:∀q,v.ownBlock=some q→∃C,(q,Obj.cells C 57 (0,0))∈Lo)(h3:∀p∈Lo,v.ownBlock=some p.1)(h4:a0.ownsRow B 57 5 v (Gd.Vl.outs c V (l.take k)).length (jd (Gd.Vl.outs c V (l.take k))))
 (h5:Vs o x t f ((V.steps c (l.take k)).step c p) (K+2000000*k+2000000) w a (G++(Lo++Ls))):TkI o x t f B V c l K w Ls (k+1) v a:=by
 have e1:V.steps c (l.take (k+1))=(V.steps c (l.take k)).step c p:=by rw[jN hp,Gd.Vl.steps_snoc]
 have e2:Gd.Vl.outs c V (l.take (k+1))=Gd.Vl.outs c V (l.take k):=by rw[jN hp,Gd.Vl.outs_snoc,hg];simp
 refine⟨Lo,?_,h2,h3,?_⟩
 ·rw[e1];exact(h5.less fun p hp=>List.mem_append_right _ hp).more (by omega)
 ·rw[e2];exact X8 h4 h2 (fun p hp=>h1.get (List.mem_append_left _ hp)) fun p hp=>h5.get (List.mem_append_right _ (List.mem_append_left _ hp))
theorem VX[zc]{k g cap:Nat}{p:Gd.Rec×Nat}{Lo:List (Nat×Obj)}{a1:World}{G:List (Nat×Obj)}(hp:l[k]? =some p)(hg:(V.steps c (l.take k)).got p.1=true)(h2:∀q,v.ownBlock=some q→∃C,(q,Obj.cells C 57 (0,0))∈Lo)(h3:∀p∈Lo,v.ownBlock=some p.1)
 (h5:Vs o x t f ((V.steps c (l.take k)).step c p) (K+2000000*k+2000000) w a1 (G++(Lo++Ls)))(hn:∀q∈Ls,v.ownBlock≠some q.1)(h6:a.ownsRow B 57 5 (.slice (some ⟨g,0,none⟩) ((Gd.Vl.outs c V (l.take k)).length+1) cap) ((Gd.Vl.outs c V (l.take k)).length+1) (jd (Gd.Vl.outs c V (l.take k))++(zN p.1).toList))(h7:a1.grownBy a v.ownBlock)(h8:v.ownBlock=some g∨g=a1.heap.size):TkI o x t f B V c l K w Ls (k+1) (.slice (some ⟨g,0,none⟩) ((Gd.Vl.outs c V (l.take k)).length+1) cap) a:=by
 have e1:V.steps c (l.take (k+1))=(V.steps c (l.take k)).step c p:=by rw[jN hp,Gd.Vl.steps_snoc]
 have e2:Gd.Vl.outs c V (l.take (k+1))=Gd.Vl.outs c V (l.take k)++[p.1]:=by rw[jN hp,Gd.Vl.outs_snoc,hg];rfl
 obtain⟨L2,r1,r2,r3,-⟩:=xB h6;refine⟨L2,?_,r2,r3,?_⟩
 ·rw[e1];refine((h5.less fun p hp=>List.mem_append_right _ hp).own (G:=fun q=>v.ownBlock=some q) (zK h7 fun q e=>e) (fun q _ hq=> ?_) (Ls':=L2++Ls) fun p hp=> ?_).more (by omega)
  ·obtain⟨C,hC⟩:=h2 q hq;exact⟨_,List.mem_append_left _ hC,fun e=>absurd (Obj.cells.inj e).2.1 (by decide),fun e=>absurd (Obj.cells.inj e).2.1 (by decide)⟩
  ·rcases List.mem_append.1 hp with hp|hp
   ·have e3:g=p.1:=by
     have:=r3 p hp
     injection this
    refine Or.inr ⟨?_,(r1 p hp).2.1⟩;rw[←e3];rcases h8 with e|e
    ·obtain⟨C,hC⟩:=h2 g e;exact Or.inr ⟨_,List.mem_append_left _ hC⟩
    ·exact Or.inl (by omega)
   ·exact Or.inl ⟨List.mem_append_right _ hp,hn p hp⟩
 ·rw[e2,List.length_append,List.length_singleton,xe];exact h6
theorem Vs.take[zc](h:Vs o x t f V K w a Ls)(hok:V.Ok)(c:Nat)(c1:1≤c)(c2:c≤8)(hK:K<500000000000)(hn:V.n≤1000000):
 Calls prog 34 #[.pointer (some ⟨o,0,none⟩),.int .i64 c] a fun e b=>∃u,e= .returned (.tuple #[u,.int .i64 0])∧b.ownsRow a.heap.size 57 5 u (V.taken c).length (jd (V.taken c))∧Vs o x t f (V.take c) (K+200000000) w b Ls:=by
 have hfew:(V.pend c).length≤59:=Gd.scanL_few _ _ _;have hmem:∀p∈V.pend c,p.1.may=true∧p.2≤1016:=fun p hp=>Gd.scanL_mem hp;have HVs:=hid h;have HOk:=hid hok;have HC:=hid (And.intro c1 (And.intro c2 (And.intro hK hn)));unfold Gd.Vl.take Gd.Vl.taken;have HSl:=hid (h.slotB c c1 c2);have HSc:=hid (fun W (hW:Below a.heap.size a W)=>(h.below hW).scan hok c c1 c2);obtain⟨l,hl⟩:=nm (V.pend c);rw[←hl]at hfew hmem HSc⊢;have HF:=hid hmem;obtain⟨⟨e0,h0,r0,ke0,ki0,s0⟩,hsk⟩:∃y,y=V.s c:=⟨_,rfl⟩;rw[←hsk]at HSl;unfold zO zm at HSl;dsimp only at HSl;clear h hok c1 c2 hK hn hmem hl hsk;obtain⟨i0,hi,hz0,hz1,hz2⟩:=info_parts infoRec;go_enter func34,ntmps34;go_wp2_with fail
 refine HSl.o.mono ?_;rintro e w1 ⟨rfl,hb1⟩;have hb2:=hb1.alloc hb1.size (.cells #[.int .i64 e0,.int .i64 h0,.int .i64 r0,.int .i64 ke0,.int .i64 ki0,.int .i64 s0] 48);have HSd:=hid (HSc.o _ hb2);have HB2:=hid hb2;clear hb1 hb2 HSl HSc;go_wp2_with fail
 refine HSd.o.mono ?_;rintro e w3 ⟨u,v,rfl,hs3,hb3⟩;have HB3:=HB2.t hb3;have hs3:=hs3.base HB2.o.size;obtain⟨Lu,hLu1,hLu2,hLu3,hLu4⟩:=xB hs3.1;obtain⟨Lv,hLv1,hLv2,hLv3,hLv4⟩:=xB hs3.2;have HScan:Hid (∀W,(∀p∈Lu++(Lv++Ls),W.heap[p.1]? =some p.2)→jx a.heap.size W u v l):=hid fun W hW=>⟨hLu4 W fun p hp=>hW p (List.mem_append_left _ hp),hLv4 W fun p hp=>hW p (List.mem_append_right _ (List.mem_append_left _ hp))⟩;have HV3:Hid (Vs o x t f V K w w3 (Lu++(Lv++Ls))):=hid (by
  have h1:=HVs.o.news HB3.o (Lu:=Lu++Lv) fun p hp=>by
   rcases List.mem_append.1 hp with hp|hp
   ·exact⟨(hLu1 p hp).1,(hLu1 p hp).2.1⟩
   ·exact⟨(hLv1 p hp).1,(hLv1 p hp).2.1⟩
  rw[List.append_assoc]at h1;exact h1)
 obtain⟨bu,cu,bv,cv,rfl,rfl,-⟩:=qX hs3;obtain⟨Lx,hLx⟩:=nm (Lu++(Lv++Ls));have HLs:Hid (∀p∈Ls,p∈Lx):=hid fun p hp=>by rw[hLx];exact List.mem_append_right _ (List.mem_append_right _ hp)
 rw[←hLx]at HScan HV3;have HW3:Hid (∀p∈Lx,p.1<w3.heap.size):=hid fun p hp=>za (HV3.o.get hp);obtain⟨n,hn⟩:=nm l.length;rw[←hn]at hfew;rw[←hn];have Hn:=hid hn;clear hs3 hb3 hLu1 hLu2 hLu3 hLu4 hLv1 hLv2 hLv3 hLv4 hLx hn HSd HB2;go_upto_region 7 with fail
 go_loopw[10,34] (fun z i wr=>∃k:Nat,i= .int .i64 k∧k≤n∧Hid (TkI o x t f w3.heap.size V c l K w Lx k z wr∧w3.heap.size≤wr.heap.size)) (fun _ i _=>n-(intOf i).toNat)
 case atStart=>
  refine⟨0,rfl,by omega,hid ⟨⟨[],⟨HV3.o,fun q hq=> ?_,fun p hp=> ?_,World.ownsRow_nil _ _ _ _⟩⟩,Nat.le_refl _⟩⟩
  ·cases hq
  ·cases hp
 case round=>
  obtain⟨k,rfl,hkn,HI⟩:=hrel;by_cases hlt:k<n
  ·obtain⟨p,hp⟩:∃p,l[k]? =some p:=⟨_,List.getElem?_eq_getElem (by have:=Hn.o;omega)⟩;have HP:=hid hp;obtain⟨Lo,hV,hL1,hL2,hrow⟩:=HI.o.1;have HLo:=hid (And.intro hL1 (And.intro hL2 hrow));have HVr:=hid hV;have HSg:=hid HI.o.2;have hsc:=HScan.o wr fun q hq=>hV.get (List.mem_append_right _ hq);obtain⟨bu2,cu2,bv2,cv2,eu,ev,hget⟩:=qX hsc
   cases eu
   cases ev
   obtain⟨qu,qv,rfl,rfl,hql,hru,hcv⟩:=hget k p hp;obtain⟨r,en⟩:=p;have hmay:=(HF.o _ (List.mem_of_getElem? hp)).1;have hen:=(HF.o _ (List.mem_of_getElem? hp)).2;have hcall:=Gd.may_rec hmay;dsimp only at hru hcv hmay hen hcall;have HMay:=hid (And.intro hmay (And.intro hen hcall));obtain⟨Vk,hVk⟩:=nm (V.steps c (l.take k));have HVk:=hid hVk;rw[←hVk]at HVr;have HOkk:Hid Vk.Ok:=hid (by rw[hVk];exact Gd.Vl.Ok.steps HC.o.1 HC.o.2.1 _ HOk.o fun q hq=>HF.o q (List.mem_of_mem_take hq));have HNk:Hid (Vk.n≤1000059):=hid (by rw[hVk,Gd.Vl.steps_n,List.length_take];have:=HC.o.2.2.2;omega);obtain⟨s8,hs8⟩:∃s:ByteArray,s=⟨r.d.toArray⟩:=⟨_,rfl⟩;have hrv:(zN r)=#[.int .i64 r.call,.int .i64 r.inode,.bool r.tr,.int .i64 r.off,.string s8]:=by rw[hs8];rfl
   rw[hrv]at hru;have HRv:=hid hrv;obtain⟨rc,hrc⟩:=nm r.call;obtain⟨ri,hri⟩:=nm r.inode;obtain⟨rt,hrt⟩:=nm r.tr;obtain⟨ro,hro⟩:=nm r.off;rw[←hrc,←hri,←hrt,←hro]at HRv hru;have HRc:=hid hrc;obtain⟨w4,hw4⟩:=nm (wr.alloc (.cells #[.int .i64 rc,.int .i64 ri,.bool rt,.int .i64 ro,.string s8] 57));obtain⟨rb,hrb⟩:=nm wr.heap.size;have hba:Below wr.heap.size wr w4:=by rw[hw4];exact(Below.refl _ _).alloc (Nat.le_refl _) _
   have hV4:=(HVr.o.news hba (Lu:=[(rb,.cells #[.int .i64 rc,.int .i64 ri,.bool rt,.int .i64 ro,.string s8] 57 (0,0))]) fun q hq=>by
    rw[List.mem_singleton.1 hq,hrb,hw4];exact⟨Nat.le_refl _,heap_alloc_new _ _⟩).below (Below.refl _ _).drew
   have HV4:=hid hV4;have HAp:=hid (hV4.applyR HOkk.o r hmay);unfold qq Fl.recV at HAp;rw[←hs8,←hrc,←hri,←hrt,←hro]at HAp;have HTr:Hid (∀W V' c' K',Vm o x t f V' c' K' w W ([(rb,.cells #[.int .i64 rc,.int .i64 ri,.bool rt,.int .i64 ro,.string s8] 57 (0,0))]++(Lo++Lx))→(W.cell? ⟨o,2,none⟩=some (.pointer (some ⟨f,0,none⟩))∧W.cell? ⟨rb,0,none⟩=some (.int .i64 rc)∧W.cell? ⟨rb,1,none⟩=some (.int .i64 ri)∧W.cell? ⟨rb,2,none⟩=some (.bool rt)∧W.cell? ⟨rb,3,none⟩=some (.int .i64 ro)∧W.cell? ⟨rb,4,none⟩=some (.string s8))∧W.cell? ⟨qv,k,none⟩=some (.int .i64 en)∧qv<W.heap.size∧rb<W.heap.size):=hid fun W V' c' K' h=>by
    have hg:=h.get (List.mem_append_left _ (List.mem_singleton.2 rfl));have hsw:=HScan.o W fun q hq=>h.get (List.mem_append_right _ (List.mem_append_right _ hq));obtain⟨bu3,cu3,bv3,cv3,eu3,ev3,hget3⟩:=qX hsw
    cases eu3
    cases ev3
    obtain⟨qu3,qv3,x1,x2,x3,x4,x5⟩:=hget3 k _ HP.o
    cases x2
    exact⟨⟨(zl h.vol).2.2,cell_of_row W rb 0 _ _ _ hg,cell_of_row W rb 1 _ _ _ hg,cell_of_row W rb 2 _ _ _ hg,cell_of_row W rb 3 _ _ _ hg,cell_of_row W rb 4 _ _ _ hg⟩,x5,x3.2,za hg⟩
   have HW4:=hid hw4.symm;have Hrb:=hid hrb.symm;have h1:(k:Int)<n:=by omega
   have h0:(0:Int)≤k:=by omega
   have hru2:wr.rangeAt qu (k*5) [.int .i64 rc,.int .i64 ri,.bool rt,.int .i64 ro,.string s8]:=hru;have hs0:=(HTr.o _ _ 0 _ (HV4.o.vm 0)).1;clear hp hV hL1 hL2 hrow hsc hget hmay hen hcall hVk hs8 hrv hrc hri hrt hro hw4 hrb hba hV4 hlt hcv hru;go_upto_region 9 with(refine wpList_load_mid rfl 57 _ rfl qu (k*5) rfl [.int .i64 rc,.int .i64 ri,.bool rt,.int .i64 ro,.string s8] _ hru2 underlying57 rfl sizeRec ?_)
   rw[HW4.o,Hrb.o];refine wp_region_held_drew (S:=(fun W=>W.cell? ⟨o,2,none⟩=some (.pointer (some ⟨f,0,none⟩))∧W.cell? ⟨rb,0,none⟩=some (.int .i64 rc)∧W.cell? ⟨rb,1,none⟩=some (.int .i64 ri)∧W.cell? ⟨rb,2,none⟩=some (.bool rt)∧W.cell? ⟨rb,3,none⟩=some (.int .i64 ro)∧W.cell? ⟨rb,4,none⟩=some (.string s8))) (by kernel_rfl) ?_ (fun hHeld=> ?_)
   ·exact hs0
   refine tk 0 ?_;refine tk 1 ?_;refine tk 2 ?_;refine tk 3 ?_;refine tk 4 ?_;refine rd 5 (fun K hK=> ?_);go_simp
   refine HAp.o.mono ?_;rintro e w5 ⟨E,rfl,hor⟩;have HOr:=hid hor;have hs5:=(hor.elim (fun h=>HTr.o w5 _ _ _ h.2.2) (fun h=>HTr.o w5 _ 0 _ (h.2.2.2.vm 0))).1;clear hor;try dsimp only
   refine hK.o _ _ hs5 (fun hHeld=> ?_);clear hK K;try simp only[put]
   refine tk 6 ?_;refine dn ?_
   (try simp only[Exit.then])
   clear hs0 HAp hru2;have HE:Hid ((Vk.got r=true∧E=0)∨(Vk.got r=false∧E≠0)):=hid (HOr.o.imp (fun h=>⟨h.1,h.2.1⟩) (fun h=>⟨h.1,h.2.1⟩));go_upto_if 46 with fail
   obtain⟨q,hq⟩:=nm (E !=0);rw[←hq];have HQ:=hid hq;clear hq;go_cut[13] from 47 to 53 (fun z wx=>z= .int .i64 E∧Hid (Vm o x t f (Vk.setf r) 13 (K+2000000*k) w wx ([(rb,.cells #[.int .i64 rc,.int .i64 ri,.bool rt,.int .i64 ro,.string s8] 57 (0,0))]++(Lo++Lx))))
   case first=>
    clear hs5;rcases HOr.o with⟨hg,hE,hm⟩|⟨hg,hE,hse,hv⟩
    ·obtain rfl:q=false:=by rw[HQ.o,hE];rfl
     have HM:=hid hm;clear hm hg;go_wp2_with fail
     go_meet
     exact⟨rfl,HM⟩
    ·obtain rfl:q=true:=by rw[HQ.o];simpa using hE
     obtain⟨v0,-,-⟩:=zl hv.vol;have HDr:=hid (Vm.drop hv);have HSe:=hid hse;clear hg hE hse hv;go_wp2_with fail
     refine HDr.o.mono ?_;rintro e w6 ⟨rfl,h6⟩;have H6:=hid h6;clear h6 HDr v0;go_wp2_with fail
     go_meet
     exact⟨rfl,hid (by rw[HSe.o];exact H6.o.vm 13)⟩
   case rest=>
   obtain⟨w6,rfl⟩:=nm wc;obtain⟨rfl,HM6⟩:=hcut;clear hs5;have hse:=(Vk.setf_s r).1;have HSl6:=HM6.o.slotB c HC.o.1 HC.o.2.1;rw[hse]at HSl6;obtain⟨⟨e1,h2,r1,ke1,ki1,s1⟩,hy⟩:∃y,y=Vk.s c:=⟨_,rfl⟩;rw[←hy]at HSl6;unfold zO zm at HSl6;dsimp only at HSl6;have HS6:=hid HSl6;have HY:=hid hy;clear HSl6 hse hy;go_wp2_with fail
   refine HS6.o.mono ?_;rintro e w7 ⟨rfl,hb7⟩;have hM7:=HM6.o.below hb7;have HM7:=hid hM7;have hs7:∀W:World,Below w7.heap.size w7 W→W.cell? ⟨qv,k,none⟩=some (.int .i64 en)∧W.cell? ⟨rb,0,none⟩=some (.int .i64 rc):=fun W hW=>by
    have:=HTr.o W _ _ _ (hM7.below hW)
    exact⟨this.2.1,this.1.2.1⟩
   have hsA:=fun C:Array Value=>hs7 _ (((Below.refl _ w7).alloc (Nat.le_refl _) (.cells C 48)).drew);clear hb7 HS6 hM7;go_upto_region 13 with fail
   refine wp_region_held_drew (S:=(fun W=>W.cell? ⟨qv,k,none⟩=some (.int .i64 en)∧W.cell? ⟨rb,0,none⟩=some (.int .i64 rc))) (by kernel_rfl) ?_ (fun hHeld=> ?_)
   ·exact(hsA _)
   refine tk 0 ?_;refine tk 1 ?_;refine tk 2 ?_;refine tk 3 ?_;refine tk 4 ?_;refine tk 5 ?_;refine tk 6 ?_;refine rd 7 (fun K hK=> ?_);go_simp
   try dsimp only
   refine hK.o _ _ (hsA _) (fun hHeld=> ?_);clear hK K;try simp only[put]
   refine tk 8 ?_;refine rd 9 (fun K hK=> ?_);go_simp
   try dsimp only
   refine hK.o _ _ (hsA _) (fun hHeld=> ?_);clear hK K;try simp only[put]
   refine dn ?_
   (try simp only[Exit.then])
   clear hsA hs7;have hbA:=((Below.refl _ w7).alloc (Nat.le_refl _) (.cells #[.int .i64 e1,.int .i64 en,.int .i64 r1,.int .i64 ke1,.int .i64 ki1,.int .i64 rc] 48)).drew;have HSs:=(HM7.o.below hbA).setslot c HC.o.1 HC.o.2.1 (Gd.tookS ⟨e1,h2,r1,ke1,ki1,s1⟩ (r,en)) (Gd.tookS_may (by have:=HOkk.o.may c HC.o.1 HC.o.2.1;rw[←HY.o]at this;exact this) HMay.o.1 HMay.o.2.1) (by omega);unfold Gd.tookS zO zm at HSs;dsimp only at HSs;rw[show((r.call.toNat:Nat):Int)=rc by rw[HRc.o];have:=HMay.o.2.2;omega]at HSs;have HS7:=hid HSs;clear HSs hbA;go_wp2_with fail
   refine HS7.o.mono ?_;rintro e w10 ⟨rfl,h10⟩;have HCm:=hid (uq h10 (by omega) (by have:=HC.o.2.2.1;omega) (by rw[(Vk.setf_s r).2.1];have:=HNk.o;omega));clear h10 HS7;go_wp2_with fail
   refine HCm.o.mono ?_;rintro e w11 ⟨rfl,h11⟩;have H11:Hid (Vs o x t f ((V.steps c (l.take k)).step c (r,en)) (K+2000000*k+2000000) w w11 ([(rb,.cells #[.int .i64 rc,.int .i64 ri,.bool rt,.int .i64 ro,.string s8] 57 (0,0))]++(Lo++Lx))):=hid (by
    rw[Y9,←HVk.o,←HY.o];exact h11)
   clear h11 HCm;have hr11:=za (H11.o.get (List.mem_append_left _ (List.mem_singleton.2 rfl)));have HR11:Hid (w3.heap.size≤w11.heap.size):=hid (by have:=HSg.o;have:=Hrb.o;omega);clear hr11;rcases HE.o with⟨hgot,rfl⟩|⟨hgot,hE⟩
   ·have HGo:=hid hgot;clear hgot;have hg11:=H11.o.get (List.mem_append_left _ (List.mem_singleton.2 rfl));have x0:=cell_of_row w11 rb 0 _ _ _ hg11;have x1:=cell_of_row w11 rb 1 _ _ _ hg11;have x2:=cell_of_row w11 rb 2 _ _ _ hg11;have x3:=cell_of_row w11 rb 3 _ _ _ hg11;have x4:=cell_of_row w11 rb 4 _ _ _ hg11;have hrow11:=X8 HLo.o.2.2 HLo.o.1 (fun p hp=>HVr.o.get (List.mem_append_left _ hp)) (fun p hp=>H11.o.get (List.mem_append_right _ (List.mem_append_left _ hp)));have hM:(Gd.Vl.outs c V (l.take k)).length≤59:=by
     have:=yF c (l.take k) V
     rw[List.length_take]at this;omega
    have HNn:Hid (∀q∈Lx,u10.ownBlock≠some q.1):=hid fun q hq e=>by
     have h1:=HW3.o q hq;have h2:=(zE hrow11 q.1 e).1;omega
    go_upto_region 20 with(at_builtin;go_loud (refine wpList_append_lies _ rfl _ _ 81 rfl w3.heap.size 57 i0 _ 5 48 underlying81 hi hz0 hz1 hz2 rfl (by decide) u10 _ (jd (Gd.Vl.outs c V (l.take k))) rfl (zx hrow11 ((Below.refl _ _).alloc (Nat.le_refl _) _)) ⟨w11.heap.size,0,none⟩ 1 1 [.int .i64 rc,.int .i64 ri,.bool rt,.int .i64 ro,.string s8] rfl rfl (xn w11 _ _ _ _ _ _) (by intro u hu;simp at hu;rcases hu with rfl|rfl|rfl|rfl|rfl<;>rfl) (by decide) (by unfold maxLen;omega) (by omega) (by have:=HR11.o;simp;omega) _ rfl ?_);intro g cap w12 h1 h2 h3 h4)
    have HA1:=hid h1;have HA2:=hid (And.intro h2 h3);clear hg11 x0 x1 x2 x3 x4 hrow11 h1 h2 h3 h4;go_wp2;go_roundw
    case rel=>
     refine⟨k+1,by go_num,by omega,hid ⟨VX HP.o (by rw[←HVk.o];exact HGo.o) HLo.o.1 HLo.o.2.1 (H11.o.below ((Below.refl _ _).alloc (Nat.le_refl _) _)) HNn.o ?_ HA2.o.1 HA2.o.2,?_⟩⟩
     ·have:=HA1.o
      rw[HRv.o];exact this
     ·have e1:=HA2.o.1.size;have e2:=HR11.o;simp at e1
      omega
    case measure=>simp[intOf];omega
   ·have HGo:=hid hgot;have hEb:(E==0)=false:=by simpa using hE
    have hE1:¬E=0:=hE;clear hgot hE;go_wp2_with fail
    go_roundw
    case rel=>exact⟨k+1,by go_num,by omega,hid ⟨Ux HP.o (by rw[←HVk.o];exact HGo.o) (by have:=HVr.o;rw[HVk.o]at this;exact this) HLo.o.1 HLo.o.2.1 HLo.o.2.2 H11.o,HR11.o⟩⟩
    case measure=>simp[intOf];omega
  ·obtain rfl:k=n:=by omega
   clear hlt;have hlk:l.take k=l:=List.take_of_length_le (by have:=Hn.o;omega);have hI:=HI.o.1;have hrow:=hI.row;obtain⟨Lo,hV,-⟩:=hI;rw[hlk]at hV hrow;have HFin:=hid (And.intro (yz hrow HB3.o.size) ((hV.less fun p hp=>List.mem_append_right _ (HLs.o p hp)).more (L:=K+200000000) (by omega)));clear hlk hrow hV;go_wp2_with fail
   go_ret2
   exact⟨_,rfl,HFin.o.1,HFin.o.2⟩
end
end
section
open Go.Shelf
attribute [local go_sem] Oper.semAt_some
namespace Gd
theorem Vl.recov_succ(V:Vl)(k:Nat)(h:(V.recov k).2=true):V.recov (k+1)=(((V.recov k).1.take (k+1)).fence (k+1),decide ((((V.recov k).1.take (k+1)).s (k+1)).e<1073741824)):=by
 rw[Vl.recov]
 cases hr:Vl.recov k V with
 |mk W b=>
  rw[hr]at h;dsimp only at h;subst h;rfl
theorem Vl.recov_stop(V:Vl){k:Nat}(h:(V.recov k).2=false):∀j,V.recov (k+j)=V.recov k
 |0=>rfl
 |j+1=>by
  have ih:=Vl.recov_stop V h j;rw[←Nat.add_assoc,Vl.recov,ih]
  cases hr:Vl.recov k V with
  |mk W b=>
   rw[hr]at h;dsimp only at h;subst h;rfl
end Gd
section
variable {o x t f K n:Nat} {V:Gd.Vl} {w a b:World} {Ls:List (Nat×Obj)}
theorem JF[zc](h:Vs o x t f V K w a Ls)(c:Nat)(c1:1≤c)(c2:c≤8)(he:1073741824≤(V.s c).e):
 Calls prog 36 #[.pointer (some ⟨o,0,none⟩),.int .i64 c] a fun e b=>e= .returned (.int .i64 1)∧Below a.heap.size a b:=by
 have HSl:=h.slotB c c1 c2;obtain⟨⟨e0,h0,r0,ke0,ki0,w0⟩,hsk⟩:∃y,y=V.s c:=⟨_,rfl⟩;rw[←hsk]at HSl he;unfold zO zm at HSl;dsimp only at HSl he;have hlt:decide ((1073741824:Int)≤(e0:Int))=true:=by rw[decide_eq_true_iff];omega
 have HSl2:=hid HSl;clear h he hsk HSl c1 c2;go_enter func36,ntmps36;go_wp2_with fail
 refine HSl2.o.mono ?_;rintro e w1 ⟨rfl,hb1⟩;have HB1:=hid hb1;clear hb1 HSl2;go_wp2_with fail
 go_ret
 exact⟨rfl,HB1.o.alloc HB1.o.size _⟩
theorem QJ{o t x f:Nat}(m:Int)(w:World)(hv:jU w o t x f)(hm:¬(1≤m∧m≤8)):
 Calls prog 36 #[.pointer (some ⟨o,0,none⟩),.int .i64 m] w fun e w'=>e= .returned (.int .i64 1)∧Below w.heap.size w w':=by
 have HSl:=hid (ZC m w hv hm);unfold zO zm at HSl;dsimp only at HSl;clear hv hm;go_enter func36,ntmps36;go_wp2_with fail
 refine HSl.o.mono ?_;rintro e w1 ⟨rfl,hb1⟩;have HB1:=hid hb1;clear hb1 HSl;go_wp2_with fail
 go_ret
 exact⟨rfl,HB1.o.alloc HB1.o.size _⟩
theorem Vs.fence[zc](h:Vs o x t f V K w a Ls)(c:Nat)(c1:1≤c)(c2:c≤8)(hK:K<600000000000)(hn:V.n≤2000000):
 Calls prog 36 #[.pointer (some ⟨o,0,none⟩),.int .i64 c] a fun e b=>e= .returned (.int .i64 (if(V.s c).e<1073741824 then 0 else 1))∧Vs o x t f (V.fence c) (K+2000000) w b Ls:=by
 unfold Gd.Vl.fence;by_cases he:(V.s c).e<1073741824
 ·rw[if_pos he,if_pos he];obtain⟨S,M,hV,hF,hg⟩:=h;refine(hV.fence c c1 c2 hK (by omega) he).mono ?_
  rintro e b ⟨hr,S',M',hv,h1,h2,h3,h4⟩;exact⟨hr,S',M',hv,hF.same h1 h2 h3,fun d d1 d2=>by rw[h4];exact hg d d1 d2⟩
 ·rw[if_neg he,if_neg he];refine(JF h c c1 c2 (by omega)).mono ?_
  rintro e b ⟨hr,hb⟩;exact⟨hr,(h.below hb).more (by omega)⟩
theorem Vs.recover[zc](h:Vs o x t f V K w a Ls)(hok:V.Ok)(hK:K<400000000000)(hn:V.n≤900000):
 Calls prog 38 #[.pointer (some ⟨o,0,none⟩)] a fun e b=>e= .returned (.int .i64 (if(V.recov 8).2 then 0 else 1))∧Vs o x t f (V.recov 8).1 (K+1700000000) w b Ls:=by
 have H:=hid h;have HOk:=hid hok;obtain⟨E,hE⟩:∃E:Int,E=(if(V.recov 8).2 then 0 else 1):=⟨_,rfl⟩;rw[←hE];have HE:=hid hE;clear h hok hE;go_enter func38,ntmps38;go_upto_region 2 with fail
 go_loopw[7] (fun z wr=>∃k:Nat,z= .int .i64 k∧k≤8∧Hid ((V.recov k).2=true)∧Hid (Vs o x t f (V.recov k).1 (K+210000000*k) w wr Ls)) (fun z _=>8-(intOf z).toNat)
 case atStart=>exact⟨0,rfl,by omega,hid rfl,H⟩
 case round=>
  obtain⟨k,rfl,hk,HT,HV⟩:=hrel;by_cases hlt:k<8
  ·have h1:(k:Int)<8:=by omega
   have hn1:=V.recov_n k;have hn2:=(V.recov k).1.take_n (k+1);have HTk:=hid (HV.o.take (HOk.o.recov k (by omega)) (k+1) (by omega) (by omega) (by omega) (by omega));have HFe:=hid (fun W (hW:Vs o x t f ((V.recov k).1.take (k+1)) (K+210000000*k+200000000) w W Ls)=>hW.fence (k+1) (by omega) (by omega) (by omega) (by omega));have hsu:=V.recov_succ k HT.o;have HSu:=hid hsu;obtain⟨q,hq⟩:∃q:Int,q=((k+1:Nat):Int):=⟨_,rfl⟩;have hq2:(k:Int)+1=q:=by omega
   obtain⟨Vk,hVk⟩:=nm ((V.recov k).1.take (k+1));rw[←hVk]at HTk HFe HSu;have hlt8:=hid hlt;rw[show((k+1:Nat):Int)=(k:Int)+1 by omega]at HTk HFe;clear hlt hn1 hn2 hsu hq hq2 hVk;go_wp2_with fail
   refine HTk.o.mono ?_;rintro e w1 ⟨u,rfl,-,hv1⟩;have HFf:=hid (HFe.o w1 hv1);clear hv1 HTk HFe;by_cases he:(Vk.s (k+1)).e<1073741824
   ·rw[if_pos he]at HFf;rw[decide_eq_true he]at HSu;clear he;go_wp2_with fail
    refine HFf.o.mono ?_;rintro e w2 ⟨rfl,hv2⟩;have HV2:=hid hv2;clear hv2 HFf;go_wp2_with fail
    go_roundw
    case rel=>
     refine⟨k+1,by go_num,by have:=hlt8.o;omega,hid (by rw[HSu.o]),hid ?_⟩;rw[HSu.o];exact HV2.o.more (by omega)
    case measure=>simp[intOf];have:=hlt8.o;omega
   ·rw[if_neg he]at HFf;rw[decide_eq_false he]at HSu;clear he;go_wp2_with fail
    refine HFf.o.mono ?_;rintro e w2 ⟨rfl,hv2⟩;have HV2:=hid hv2;clear hv2 HFf;go_wp2_with fail
    go_ret
    have h8:=V.recov_stop (k:=k+1) (by rw[HSu.o]) (7-k);rw[show k+1+(7-k)=8 by have:=hlt8.o;omega,HSu.o]at h8;refine⟨by rw[HE.o,h8];rfl,?_⟩;rw[h8];exact HV2.o.more (by have:=hlt8.o;omega)
  ·obtain rfl:k=8:=by omega
   clear hlt;go_wp2_with fail
   go_ret
   exact⟨by rw[HE.o,HT.o];rfl,HV.o.more (by omega)⟩
end
end
section
open Go.Shelf
attribute [local go_sem] Oper.semAt_some
section
variable {o x t f K n p r:Nat} {V U:Gd.Vl} {w a b:World} {Ls L:List (Nat×Obj)}
theorem Vs.again[zc]{pn pc:Nat}{pA:Option Addr}(h:Vs o x t f V K w a L)(hp:(p,zo o r)∈L)(hk:jb a pA pn)(hkb:pn≠0→∀b o,pA=some ⟨b,o,none⟩→b<w.heap.size)(hpn:pn≤100000)(hK:K<100000000000):
 Calls prog 37 #[.pointer (some ⟨p,0,none⟩),.slice pA pn pc] a fun e b=>e= .returned (.bool true)∧∃o2 x2 t2 f2:Nat,∀L':List (Nat×Obj),(∀q∈L',q=(p,zo o2 r)∨(q∈L∧q.1≠p))→Vs o2 x2 t2 f2 V (K+700000000) w b L':=by
 obtain⟨S,M,hV,hF,hg⟩:=h;have hSl:S.length=23168:=hV.2.1.len;have hlog:Gd.part S 2688 8=Gd.le 0 8:=by
  obtain⟨F',hm,-⟩:=hV.1.metaF;exact hm.log
 have hsound:Gd.SoundV S:=hV.2.2.sound hV.2.1 (by rw[hF.root];rfl);have hst:Mst S K w a L:=hV.mst;obtain⟨c0,c1,c2⟩:=zl (hst.get hp);have HCr:=hid (hst.crash (pc:=pc) hk hkb hpn);have HK:=hid (And.intro hSl (And.intro hK (And.intro hlog hsound)));have HV:=hid (And.intro hV.2.1 (And.intro hV.2.2 (And.intro hF hg)));have HP:=hid hp;clear hV hF hg hSl hlog hsound hst hk hkb hpn hK hp;go_enter func37,ntmps37;go_wp2_with fail
 refine HCr.o.mono ?_;rintro e w1 ⟨rfl,h1⟩;have H1:=hid h1;clear c0 c1 c2 h1 HCr;obtain⟨c0,c1,c2⟩:=zl (H1.o.get HP.o);have HMo:=hid (yc H1.o HK.o.1 HK.o.2.1);go_wp2_with fail
 refine HMo.o.mono ?_;rintro e w2 ⟨S2,hl2,he2,hs2,hor⟩;obtain rfl:=hs2 HK.o.2.2.1
 rcases hor with⟨-,o2,x2,t2,f2,rfl,h2⟩|⟨hno,-⟩
 rotate_left
 ·exact absurd HK.o.2.2.2 hno
 have H2:=hid h2;have hp2:=h2.get HP.o;have f1:=frozen_of_row w2 p 1 _ _ hp2;clear c0 c1 c2 hl2 he2 hs2 h2 HMo;obtain⟨c0,c1,c2⟩:=zl hp2;clear hp2;go_upto_region 4 with fail
 obtain⟨w3,hw3⟩:=nm (w2.setCell ⟨p,1,none⟩ (.pointer (some ⟨o2,0,none⟩)));rw[←hw3];have HW3:=hid hw3;clear hw3 c0 c1 c2 f1;go_wp2_with fail
 go_ret
 refine⟨rfl,o2,x2,t2,f2,fun L' hL'=>⟨S2,M,?_,HV.o.2.2.1,HV.o.2.2.2⟩⟩;have hq:Vq o2 x2 t2 f2 S2 [] M V.n V.s 0 (K+654100000) w w2 L:=⟨H2.o,HV.o.1,HV.o.2.1⟩;refine(hq.own (G:=fun q=>q=p) (b:=w3) (by rw[HW3.o];exact zq _ _ _ rfl) (fun q _ hq=> ?_) (Ls':=L') fun q hq=> ?_).more (Nat.le_refl _) (by omega)
 ·subst hq;exact⟨_,HP.o,fun e=>absurd (Obj.cells.inj e).2.1 (by decide),fun e=>absurd (Obj.cells.inj e).2.1 (by decide)⟩
 ·rcases hL' q hq with rfl|⟨h1,h2⟩
  ·refine Or.inr ⟨Or.inr ⟨_,HP.o⟩,?_⟩;rw[HW3.o];exact Go.heap_setCell_same w2 p 1 _ _ _ (H2.o.get HP.o)
  ·exact Or.inl ⟨h1,h2⟩
theorem Bv.again[zc]{R:RvB}{pn pc:Nat}{pA:Option Addr}(h:Bv o x t f R V U K w a ((p,zo o r)::Ls))(hne:∀q∈Ls,q.1≠p)(hk:jb a pA pn)(hkb:pn≠0→∀b o,pA=some ⟨b,o,none⟩→b<w.heap.size)(hpn:pn≤100000)(hK:K<100000000000):
 Calls prog 37 #[.pointer (some ⟨p,0,none⟩),.slice pA pn pc] a fun e b=>e= .returned (.bool true)∧∃o2 x2 t2 f2:Nat,Bv o2 x2 t2 f2 R V U (K+700000000) w b ((p,zo o2 r)::Ls):=by
 have hap:=h.apart (List.mem_cons_self ..);obtain⟨Lr,h1,h2,h3⟩:=h;refine(h2.again (List.mem_append_right _ (List.mem_cons_self ..)) hk hkb hpn hK).mono ?_
 rintro e b ⟨he,o2,x2,t2,f2,hL⟩;refine⟨he,o2,x2,t2,f2,Bv.carry h1 h2 h3 (hL (Lr++(p,zo o2 r)::Ls) fun q hq=> ?_)⟩;rcases List.mem_append.1 hq with hq|hq
 ·exact Or.inr ⟨List.mem_append_left _ hq,fun e=>hap ((h1 p).2 ⟨q.2,by rw[←e];exact hq⟩)⟩
 ·rcases List.mem_cons.1 hq with rfl|hq
  ·exact Or.inl rfl
  ·exact Or.inr ⟨List.mem_append_right _ (List.mem_cons_of_mem _ hq),hne q hq⟩
end
end
section
open Go.Shelf
attribute [local go_sem] Oper.semAt_some
theorem yr(x:Int)(h1:0≤x)(h2:x<9223372036854775808):IntKind.i64.wrap x=x:=by
 rw[IntKind.wrap_i64];omega
theorem Yn(x y:Nat)(hx:x<256)(hy:y<256):IntKind.i64.wrap (IntKind.i64.wrap (x:Int)+IntKind.i64.wrap (256*IntKind.i64.wrap (y:Int)))=((x+256*y:Nat):Int):=by
 rw[yr (y:Int) (by omega) (by omega),yr (256*(y:Int)) (by omega) (by omega),yr (x:Int) (by omega) (by omega),yr ((x:Int)+256*(y:Int)) (by omega) (by omega)];omega
theorem V6(v:Value)(L:List UInt8)(w:World)(h:jD w v L)(hl:L.length<13):Calls prog 148 #[v] w (xW L w):=by
 have HD:=hid (xT (L:=L) (by omega));obtain⟨b,o,c,rfl,hc,hc2,hb,hcell⟩:=h;obtain⟨n,hn⟩:=nm L.length;rw[←hn]at hl⊢;have hli:(n:Int)<13:=by omega
 have hld:decide ((n:Int)<13)=true:=decide_eq_true hli;clear hn hcell hc;go_enter func148,ntmps148;go_wp2_with fail
 refine bodyPost_ret (zF rfl _ _ w.heap.size 57 (zN z6) (0,0) _ rfl (heap_alloc_new w _) underlying57 rfl sizeRec) rfl ?_;exact⟨(Below.refl _ w).alloc (Nat.le_refl _) _,z6,0,3,rfl,Or.inr ⟨HD.o,by decide⟩⟩
theorem V5(v:Value)(L:List UInt8)(w:World)(h:jD w v L)(hl:13≤L.length)(hl2:L.length≤2000):Calls prog 148 #[v] w (xW L w):=by
 have HV:=hid h;obtain⟨b,o,c,rfl,hc,hc2,hb,hcell⟩:=h;have HC:=hid hcell;obtain⟨y12,hy12⟩:∃x,L[12]? =some x:=⟨_,List.getElem?_eq_getElem (by omega)⟩;have HNo:Hid (y12.toNat=Gd.nOf L):=hid (by unfold Gd.nOf;rw[List.getD_eq_getElem?_getD,hy12];rfl);have hc12:=hcell 12 y12 hy12;have hn8:=y12.toNat_lt;obtain⟨N,hN⟩:=nm y12.toNat;rw[←hN]at HNo hc12 hn8;obtain⟨W0,hW0⟩:=nm (w.alloc (.cells (zN z6) 57));have hb0:Below w.heap.size w W0:=by rw[hW0];exact(Below.refl _ w).alloc (Nat.le_refl _) _
 have hg0:W0.heap[w.heap.size]? =some (.cells (zN z6) 57 (0,0)):=by rw[hW0];exact heap_alloc_new w _
 have c12:=(hb0.cell (p:=⟨b,o+12,none⟩) hb).trans hc12;have HG0:=hid hg0;have HB0:=hid hb0;have HV0:=hid (HV.o.keep hb0);have HGet:=hid (yA _ L ((13+N:Nat):Int) 4 (Or.inr (Or.inr (Or.inl rfl))) (zu (by omega)) W0 HV0.o.at_ (by omega));rw[Qw]at HGet;obtain⟨n,hn⟩:=nm L.length;have HN:=hid hn;rw[←hn]at hl hl2 hc HGet HV HV0⊢;clear hcell hy12 hN hb0 hg0 hn hc12;obtain⟨g,hg⟩:=nm w.heap.size;have HGs:=hid hg;rw[←hg]at HG0;have h13:decide ((n:Int)<13)=false:=decide_eq_false (by omega);have h13b:(12:Int)<n:=by omega
 go_enter func148,ntmps148;go_upto_region 1 with fail
 have hW1:=hW0;unfold zN z6 at hW1;rw[←hW1,←hg];clear hW0 hW1 hg;by_cases h17:13+N+4≤n
 ·rw[decide_eq_true h17]at HGet;obtain⟨s,hs⟩:=nm (Gd.getN L (13+N) 4);have hgs:Gd.get L ((13+N:Nat):Int) 4=(s:Int):=by
   unfold Gd.get;rw[Qw,if_pos (by rw[←HN.o];exact decide_eq_true h17),hs];rfl
  rw[hgs]at HGet;have HS:=hid hs;have h17d:decide ((n:Int)<17+N)=false:=decide_eq_false (by omega);have h17i:¬(n:Int)<17+N:=by omega
  have hN2:(13:Int)+N≤c:=by omega
  have hN3:13+N≤c:=by omega
  have HCr:=hid (ZP (.slice (some ⟨b,o,none⟩) (13+N) c) (L.take (13+N)) W0 (by
   have:=yE (Nat.lt_of_lt_of_le hb HB0.o.size) (fun j x hx=>(HB0.o.cell (p:=⟨b,o+j,none⟩) hb).trans (HC.o j x hx)) 0 c (13+N) (by rw[←HN.o];omega)
   rw[Nat.add_zero,List.drop_zero]at this;exact this) (by rw[List.length_take];omega))
  obtain⟨q,hq⟩:=nm (Gd.crc (L.take (13+N)));rw[←hq]at HCr;have HQ:=hid hq;clear hs hgs hq;go_upto_region 5 with(go_at_call 66;refine HGet.o.mono ?_;rintro e w2 ⟨rfl,rfl⟩)
  by_cases hsq:s=q
  ·have hsqi:(s:Int)=q:=by omega
   have HSQ:=hid hsq;clear hsq;obtain⟨W0,hW⟩:=nm w2;subst hW;obtain⟨y8,hy8⟩:∃x,L[8]? =some x:=⟨_,List.getElem?_eq_getElem (by rw[←HN.o];omega)⟩;obtain⟨y9,hy9⟩:∃x,L[9]? =some x:=⟨_,List.getElem?_eq_getElem (by rw[←HN.o];omega)⟩;obtain⟨ya,hya⟩:∃x,L[10]? =some x:=⟨_,List.getElem?_eq_getElem (by rw[←HN.o];omega)⟩;obtain⟨yb,hyb⟩:∃x,L[11]? =some x:=⟨_,List.getElem?_eq_getElem (by rw[←HN.o];omega)⟩;have hb8:=y8.toNat_lt;have hb9:=y9.toNat_lt;have hba:=ya.toNat_lt;have hbb:=yb.toNat_lt;go_upto_region 7 with(go_at_call 67;refine HCr.o.mono ?_;rintro e w3 ⟨rfl,rfl⟩)
   have hb3:=Nat.lt_of_lt_of_le hb HB0.o.size;have k8:=(HB0.o.cell (p:=⟨b,o+8,none⟩) hb).trans (HC.o 8 y8 hy8);have k9:=(HB0.o.cell (p:=⟨b,o+9,none⟩) hb).trans (HC.o 9 y9 hy9);obtain⟨ca,hca⟩:=nm (Gd.get L ((0:Nat):Int) 8);obtain⟨cb,hcb⟩:=nm (Gd.getB L ((0:Nat):Int) 8);have HCell:Hid (∀(C:Array Value) (j:Nat) (y:UInt8),L[j]? =some y→(w3.alloc (.cells C 57)).cell? ⟨b,o+j,none⟩=some (.int .u8 y.toNat)):=hid fun C j y hy=>(((HB0.o.alloc HB0.o.size _).cell (p:=⟨b,o+j,none⟩) hb)).trans (HC.o j y hy);have HGa:=hid (yA _ L ((0:Nat):Int) 8 (Or.inr (Or.inr (Or.inr rfl))) (zu (by omega)) (w3.alloc (.cells #[.int .i64 0,.int .i64 0,.bool false,.int .i64 0,.string ⟨#[]⟩] 57)) ((HV0.o.keep ((Below.refl _ w3).alloc (Nat.le_refl _) _)).at_) (by rw[←HN.o];omega));rw[←hca,←hcb]at HGa;have HCa:=hid (And.intro hca hcb);clear hca hcb
   have e8:=HCell.o #[.int .i64 ca,.int .i64 0,.bool false,.int .i64 0,.string ⟨#[]⟩] 8 y8 hy8;have e9:=HCell.o #[.int .i64 ca,.int .i64 y8.toNat,.bool false,.int .i64 0,.string ⟨#[]⟩] 9 y9 hy9;have h8i:(8:Int)<n:=by omega
   have h9i:(9:Int)<n:=by omega
   clear k8 k9;go_upto_region 12 with(go_at_call 66;refine HGa.o.mono ?_;rintro e w4 ⟨rfl,rfl⟩)
   have hsAll:∀W:World,Below w3.heap.size w3 W→W.cell? ⟨b,o+10,none⟩=some (.int .u8 ya.toNat)∧W.cell? ⟨b,o+11,none⟩=some (.int .u8 yb.toNat):=fun W hW=>
    ⟨(hW.cell (p:=⟨b,o+10,none⟩) hb3).trans ((HB0.o.cell (p:=⟨b,o+10,none⟩) hb).trans (HC.o 10 ya hya)),(hW.cell (p:=⟨b,o+11,none⟩) hb3).trans ((HB0.o.cell (p:=⟨b,o+11,none⟩) hb).trans (HC.o 11 yb hyb))⟩
   have h10i:(10:Int)<n:=by omega
   have h11i:(11:Int)<n:=by omega
   clear e8 e9;refine wp_region_held_drew (S:=(fun W=>W.cell? ⟨b,o+10,none⟩=some (.int .u8 ya.toNat)∧W.cell? ⟨b,o+11,none⟩=some (.int .u8 yb.toNat))) (by kernel_rfl) ?_ (fun hHeld=> ?_)
   ·exact(hsAll _ ((Below.refl _ w3).alloc (Nat.le_refl _) _).drew)
   refine tk 0 ?_;refine tk 1 ?_;refine tk 2 ?_;refine tk 3 ?_;refine tk 4 ?_;refine tk 5 ?_;refine tk 6 ?_;refine tk 7 ?_;refine tk 8 ?_;refine tk 9 ?_;refine tk 10 ?_;refine rd 11 (fun K hK=> ?_);go_simp
   try dsimp only
   refine hK.o _ _ (hsAll _ ((Below.refl _ w3).alloc (Nat.le_refl _) _).drew) (fun hHeld=> ?_);clear hK K;try simp only[put]
   refine dn ?_
   (try simp only[Exit.then])
   have hoff:IntKind.i64.wrap (IntKind.i64.wrap (ya.toNat:Int)+IntKind.i64.wrap (256*IntKind.i64.wrap (yb.toNat:Int)))=((ya.toNat+256*yb.toNat:Nat):Int):=by
    exact Yn _ _ hba hbb
   rw[hoff];obtain⟨oa,hoa⟩:∃x:Int,x=((ya.toNat+256*yb.toNat:Nat):Int):=⟨_,rfl⟩;rw[←hoa];have HOa:=hid hoa;obtain⟨sd,hsd⟩:∃x:ByteArray,x=⟨((L.drop 13).take N).toArray⟩:=⟨_,rfl⟩;have hcv:=jJ (.slice (some ⟨b,o+13,none⟩) N (c-13)) ((L.drop 13).take N) (w3.alloc (.cells #[.int .i64 ca,.int .i64 y8.toNat,.bool ((y9.toNat:Int)==1),.int .i64 oa,.string ⟨#[]⟩] 57)).drew (yE (Nat.lt_of_lt_of_le hb (by have:=HB0.o.size;simp;omega)) (fun j x hx=>(((HB0.o.alloc HB0.o.size _).drew.cell (p:=⟨b,o+j,none⟩) hb)).trans (HC.o j x hx)) 13 (c-13) N (by rw[←HN.o];omega));rw[←hsd]at hcv;have HSd:=hid hsd;have hc13:¬c=13:=by omega
   have h13t:((13:Int)+N).toNat-13=N:=by omega
   have h13i:(13:Int)≤13+N:=by omega
   clear hoff hoa hsd hsAll;go_upto_region 14 with fail
   obtain⟨r,hr⟩:∃r:Gd.Rec,r=Gd.recOf L:=⟨_,rfl⟩;have HRr:=hid hr;have hov:=Gd.off_val hya hyb;have hrc:zN r=#[.int .i64 ca,.int .i64 y8.toNat,.bool ((y9.toNat:Int)==1),.int .i64 oa,.string sd]:=by
    have hd9:decide (y9=1)=((y9.toNat:Int)==1):=by
     rw[Bool.eq_iff_iff,beq_iff_eq,decide_eq_true_iff];exact⟨fun h=>by rw[h];rfl,fun h=>UInt8.toNat_inj.mp (by show y9.toNat=1;omega)⟩
    rw[hr,HSd.o,HOa.o,←hov];unfold Gd.recOf zN;rw[←HNo.o,List.getD_eq_getElem?_getD,List.getD_eq_getElem?_getD,hy8,hy9,HCa.o.1];show(#[_,_,.bool (decide (y9=1)),_,_]:Array Value)=_
    rw[hd9];rfl
   obtain⟨wm,hwm⟩:=nm ((w3.alloc (.cells #[.int .i64 ca,.int .i64 y8.toNat,.bool ((y9.toNat:Int)==1),.int .i64 oa,.string sd] 57)).drew);rw[←hwm];obtain⟨rb,hrb⟩:=nm w3.heap.size;rw[←hrb];have hbm:Below w3.heap.size w3 wm:=by rw[hwm];exact((Below.refl _ w3).alloc (Nat.le_refl _) _).drew
   have HRm:Hid (wm.heap[rb]? =some (.cells (zN r) 57 (0,0))):=hid (by rw[hwm,hrb,hrc];exact heap_alloc_new w3 _);have HBm:=HB0.t hbm;have HGm:=hid ((hbm.block g (za HG0.o)).trans HG0.o);have HMy:Hid (Calls prog 145 #[.agg (zN r)] wm fun e w'=>e= .returned (.bool r.may)∧Below wm.heap.size wm w'):=hid (Fl.rmay_any r.call r.inode r.tr r.off ⟨r.d.toArray⟩ wm (by
    show r.d.toArray.size≤_
    rw[hr,List.size_toArray,Gd.recOf_len (by rw[←HNo.o,←HN.o];omega),←HNo.o];omega))
   obtain⟨mb,hmb⟩:=nm r.may;have HMb:=hid hmb;rw[←hmb]at HMy;have HY9:=hid hy9;clear hr hov hrc hwm hrb hbm hmb hcv hya hyb hy8 hy9;go_upto_region 15 with(first|(refine wpList_load_row rfl 57 _ rfl rb rfl 57 (zN r) (0,0) _ HRm.o underlying57 rfl sizeRec ?_)|(go_at_call 145;with_reducible refine HMy.o.mono ?_;rintro e w5 ⟨rfl,hb5⟩))
   have HB5:=HBm.t hb5;have HG5:=hid ((hb5.block g (za HGm.o)).trans HGm.o);have HR5:=hid ((hb5.block rb (za HRm.o)).trans HRm.o);clear hb5 HMy HGet HCr HGa HCell c12;obtain⟨m,hm⟩:=nm (Gd.up8 (17+N));have hup:=Gd.up8_le (17+N);rw[←hm]at hup;have HM:=hid hm;clear hm;go_upto_region 16 with fail
   go_loopw[11] (fun z wr=>∃k:Nat,z= .int .i64 k∧17+N≤k∧k≤m∧wr=w5) (fun z _=>m-(intOf z).toNat)
   case atStart=>exact⟨17+N,by go_num,by omega,by omega,rfl⟩
   case round=>
    obtain⟨k,rfl,hk1,hk2,rfl⟩:=hrel;by_cases hk8:k % 8=0
    ·obtain rfl:m=k:=by omega
     have hk8i:((m:Int) % 8 !=0)=false:=by
      rw[bne_eq_false_iff_eq];omega
     have hc9:wr.cell? ⟨b,o+9,none⟩=some (.int .u8 y9.toNat):=(HB5.o.cell (p:=⟨b,o+9,none⟩) hb).trans (HC.o 9 y9 HY9.o);have HGd:Hid (L.getD 9 0=y9):=hid (by rw[List.getD_eq_getElem?_getD,HY9.o];rfl);clear hk1 hk2 hk8
     cases cb with
     |false=>
      have HD:=hid (Gd.decR_not (L:=L) fun hh=>by
       have h:Gd.getB L 0 8=false:=HCa.o.2.symm;rw[h]at hh
       cases hh.1)
      go_wp2_with(refine wpList_store_mid rfl 57 _ _ rfl g 0 (zN z6) rfl rfl (zf HG5.o rfl) sizeRec (jm _) ?_;obtain⟨hbw,hbg⟩:=zh HG5.o (vs:=(zN z6).toList) (B:=w.heap.size) rfl (by have:=HGs.o;omega);generalize (World.setCells _ _ _ _)=wf at hbw hbg⊢)
      refine bodyPost_ret (zF rfl _ _ g 57 (zN z6) (0,0) _ rfl hbg underlying57 rfl sizeRec) rfl ?_;exact⟨HB5.o.trans hbw,z6,0,2,rfl,Or.inr ⟨HD.o,by decide⟩⟩
     |true=>
      cases mb with
      |false=>
       have HD:=hid (QA (L:=L) (by rw[←HRr.o,←HMb.o];decide));go_wp2_with(refine wpList_store_mid rfl 57 _ _ rfl g 0 (zN z6) rfl rfl (zf HG5.o rfl) sizeRec (jm _) ?_;obtain⟨hbw,hbg⟩:=zh HG5.o (vs:=(zN z6).toList) (B:=w.heap.size) rfl (by have:=HGs.o;omega);generalize (World.setCells _ _ _ _)=wf at hbw hbg⊢)
       refine bodyPost_ret (zF rfl _ _ g 57 (zN z6) (0,0) _ rfl hbg underlying57 rfl sizeRec) rfl ?_;exact⟨HB5.o.trans hbw,z6,0,2,rfl,Or.inr ⟨HD.o,by decide⟩⟩
      |true=>
       by_cases h9:y9.toNat≤1
       ·have h9i:¬(1:Int)<y9.toNat:=by omega
        by_cases hmn:m≤n
        ·have hmni:¬(n:Int)<m:=by omega
         clear h9;have H9:Hid ((L.getD 9 0).toNat≤1):=hid (by rw[HGd.o];omega);go_upto_region 21 with fail
         clear hc9;go_loopw[12] (fun z wq=>∃i:Nat,z= .int .i64 i∧17+N≤i∧i≤m∧Hid (∀j,17+N≤j→j<i→L[j]? =some 0)∧wq=wr) (fun z _=>m-(intOf z).toNat)
         case atStart=>exact⟨17+N,by go_num,by omega,by omega,hid (fun j h1 h2=>by omega),rfl⟩
         case round=>
          obtain⟨i,rfl,hi1,hi2,HF,rfl⟩:=hrel;by_cases hlt:i<m
          ·obtain⟨y,hy⟩:∃x,L[i]? =some x:=⟨_,List.getElem?_eq_getElem (by rw[←HN.o];omega)⟩;have hci:=(HB5.o.cell (p:=⟨b,o+i,none⟩) hb).trans (HC.o i y hy);have hin:(i:Int)<n:=by omega
           have him:(i:Int)<m:=by omega
           have hi0:(0:Int)≤i:=by omega
           have HYi:=hid hy;by_cases hy0:y.toNat=0
           ·have hy0i:((y.toNat:Int) !=0)=false:=by
             rw[bne_eq_false_iff_eq];omega
            have HF2:Hid (∀j,17+N≤j→j<i+1→L[j]? =some 0):=hid fun j h1 h2=>by
             by_cases e:j=i
             ·rw[e,hy,show y=0 from UInt8.toNat_inj.mp hy0]
             ·exact HF.o j h1 (by omega)
            clear hy hy0;go_wp2_with fail
            go_roundw
            case rel=>exact⟨i+1,by go_num,by omega,by omega,HF2,trivial⟩
            case measure=>simp[intOf];omega
           ·have hy0i:((y.toNat:Int) !=0)=true:=by
             rw[bne_iff_ne];omega
            have HD:=hid (Gd.decR_not (L:=L) fun hh=>by
             have:=hh.2.2.2 i (by rw[←HNo.o];exact hi1) (by rw[←HNo.o,←HM.o];exact hlt)
             rw[hy]at this;exact hy0 (by rw[Option.some.inj this];rfl))
            clear hy hy0;go_wp2_with(refine wpList_store_mid rfl 57 _ _ rfl g 0 (zN z6) rfl rfl (zf HG5.o rfl) sizeRec (jm _) ?_;obtain⟨hbw,hbg⟩:=zh HG5.o (vs:=(zN z6).toList) (B:=w.heap.size) rfl (by have:=HGs.o;omega);generalize (World.setCells _ _ _ _)=wf at hbw hbg⊢)
            refine bodyPost_ret (zF rfl _ _ g 57 (zN z6) (0,0) _ rfl hbg underlying57 rfl sizeRec) rfl ?_;exact⟨HB5.o.trans hbw,z6,0,2,rfl,Or.inr ⟨HD.o,by decide⟩⟩
          ·obtain rfl:m=i:=by omega
           have HD:Hid (Gd.decR L=some (r,m)):=hid (by
            have:=Gd.decR_some (L:=L) (by rw[←HNo.o,←HN.o];omega) (by rw[←HNo.o,←HS.o,←HQ.o];exact HSQ.o) (by rw[←HRr.o,←HMb.o]) HCa.o.2.symm H9.o (by rw[←HNo.o,←HM.o,←HN.o];exact hmn) (fun j h1 h2=>HF.o j (by rw[HNo.o];exact h1) (by rw[HM.o,HNo.o];exact h2))
            rw[this,←HRr.o,←HNo.o,←HM.o])
           have him:¬(m:Int)<m:=by omega
           clear hlt;go_wp2_with(first|(refine wpList_load_row rfl 57 _ rfl rb rfl 57 (zN r) (0,0) _ HR5.o underlying57 rfl sizeRec ?_)|(refine wpList_store_mid rfl 57 _ _ rfl g 0 (zN r) rfl rfl (zf HG5.o rfl) sizeRec (jm _) ?_;obtain⟨hbw,hbg⟩:=zh HG5.o (vs:=(zN r).toList) (B:=w.heap.size) rfl (by have:=HGs.o;omega);generalize (World.setCells _ _ _ _)=wf at hbw hbg⊢))
           refine bodyPost_ret (zF rfl _ _ g 57 (zN r) (0,0) _ rfl hbg underlying57 rfl sizeRec) rfl ?_;exact⟨HB5.o.trans hbw,r,m,0,rfl,Or.inl ⟨m,HD.o,rfl,rfl⟩⟩
        ·have hmni:(n:Int)<m:=by omega
         have HD:=hid (Gd.decR_not (L:=L) fun hh=>by
          have:=hh.2.2.1
          rw[←HNo.o,←HM.o,←HN.o]at this;exact hmn this)
         clear hmn;go_wp2_with(refine wpList_store_mid rfl 57 _ _ rfl g 0 (zN z6) rfl rfl (zf HG5.o rfl) sizeRec (jm _) ?_;obtain⟨hbw,hbg⟩:=zh HG5.o (vs:=(zN z6).toList) (B:=w.heap.size) rfl (by have:=HGs.o;omega);generalize (World.setCells _ _ _ _)=wf at hbw hbg⊢)
         refine bodyPost_ret (zF rfl _ _ g 57 (zN z6) (0,0) _ rfl hbg underlying57 rfl sizeRec) rfl ?_;exact⟨HB5.o.trans hbw,z6,0,2,rfl,Or.inr ⟨HD.o,by decide⟩⟩
       ·have h9i:(1:Int)<y9.toNat:=by omega
        have HD:=hid (Gd.decR_not (L:=L) fun hh=>by
         have:=hh.2.1
         rw[HGd.o]at this;exact h9 this)
        clear h9;go_wp2_with(refine wpList_store_mid rfl 57 _ _ rfl g 0 (zN z6) rfl rfl (zf HG5.o rfl) sizeRec (jm _) ?_;obtain⟨hbw,hbg⟩:=zh HG5.o (vs:=(zN z6).toList) (B:=w.heap.size) rfl (by have:=HGs.o;omega);generalize (World.setCells _ _ _ _)=wf at hbw hbg⊢)
        refine bodyPost_ret (zF rfl _ _ g 57 (zN z6) (0,0) _ rfl hbg underlying57 rfl sizeRec) rfl ?_;exact⟨HB5.o.trans hbw,z6,0,2,rfl,Or.inr ⟨HD.o,by decide⟩⟩
    ·have hk8i:((k:Int) % 8 !=0)=true:=by
      rw[bne_iff_ne];omega
     go_wp2_with fail
     go_roundw
     case rel=>exact⟨k+1,by go_num,by omega,by omega,trivial⟩
     case measure=>simp[intOf];omega
  ·have HD:=hid (Qz (L:=L) (by rw[←HNo.o,←HS.o,←HQ.o];exact hsq));have hsqi:¬(s:Int)=q:=by omega
   clear hsq;go_wp2_with(first|(go_at_call 67;refine HCr.o.mono ?_;rintro e w3 ⟨rfl,rfl⟩)|(refine wpList_store_mid rfl 57 _ _ rfl g 0 (zN z6) rfl rfl (zf HG0.o rfl) sizeRec (jm _) ?_;obtain⟨hbw,hbg⟩:=zh HG0.o (vs:=(zN z6).toList) (B:=w.heap.size) rfl (by have:=HGs.o;omega);generalize (World.setCells _ _ _ _)=wf at hbw hbg⊢))
   refine bodyPost_ret (zF rfl _ _ g 57 (zN z6) (0,0) _ rfl hbg underlying57 rfl sizeRec) rfl ?_;exact⟨HB0.o.trans hbw,z6,0,4,rfl,Or.inr ⟨HD.o,by decide⟩⟩
 ·have HD:=hid (xT (L:=L) (by rw[←HNo.o,←HN.o];omega));have h17d:decide ((n:Int)<17+N)=true:=decide_eq_true (by omega);have h17i:(n:Int)<17+N:=by omega
  clear h17 HGet;go_wp2_with(refine wpList_store_mid rfl 57 _ _ rfl g 0 (zN z6) rfl rfl (zf HG0.o rfl) sizeRec (jm _) ?_;obtain⟨hbw,hbg⟩:=zh HG0.o (vs:=(zN z6).toList) (B:=w.heap.size) rfl (by have:=HGs.o;omega);generalize (World.setCells _ _ _ _)=wf at hbw hbg⊢)
  refine bodyPost_ret (zF rfl _ _ g 57 (zN z6) (0,0) _ rfl hbg underlying57 rfl sizeRec) rfl ?_;exact⟨HB0.o.trans hbw,z6,0,3,rfl,Or.inr ⟨HD.o,by decide⟩⟩
theorem Yd(v:Value)(L:List UInt8)(w:World)(h:jD w v L)(hl2:L.length≤2000):Calls prog 148 #[v] w (xW L w):=by
 by_cases hl:L.length<13
 ·exact V6 v L w h hl
 ·exact V5 v L w h (by omega) hl2
end
end Go.Proofs.YtccpdkjonepoiaaGreatDoor
