/- Walks: commonslaw17: like: both sides are alike. -/
import Derived.Test.YtccpdkjonepoiaaGreatDoorT33
set_option linter.unusedVariables false
set_option linter.unusedSimpArgs false
set_option linter.unusedSectionVars false
set_option maxHeartbeats 8000000
set_option maxRecDepth 100000
namespace Go.Proofs.YtccpdkjonepoiaaGreatDoor
open Go.RowKit
open Lib(hid)
open Go.Proofs.Tryz
section
open Go.Shelf
attribute [local go_sem] Oper.semAt_some
section
variable {o x t f K n p v r:Nat} {R:RvB} {V U:Gd.Vl} {w a b:World} {Ls:List (Nat×Obj)}
theorem Bv.commits[zc](h:Bv o x t f R V U K w a Ls):
 Calls prog 30 #[.pointer (some ⟨o,0,none⟩)] a fun e b=>e= .returned (.int .i64 V.n)∧Below a.heap.size a b:=by
 obtain⟨Lr,h1,⟨S,M,hV,-⟩,h3⟩:=h;exact hV.1.commits hV.2.2.few ((hV.at_ (by omega)).trans hV.2.2.head)
theorem Bv.slotB[zc](h:Bv o x t f R V U K w a Ls)(c:Nat)(c1:1≤c)(c2:c≤8):
 Calls prog 17 #[.pointer (some ⟨o,0,none⟩),.int .i64 c] a fun e b=>e= .returned (.tuple #[zO (V.s c),.int .i64 0])∧Below a.heap.size a b:=by
 obtain⟨Lr,h1,h2,h3⟩:=h;exact h2.slotB c c1 c2
theorem Bv.vol[zc](h:Bv o x t f R V U K w a Ls):jU a o t x f:=h.vs.vol
end
end
section
open Go.Shelf
attribute [local go_sem] Oper.semAt_some
def Dd.sl(d:Dd):Gd.Slot:=⟨d.e.toNat,d.h.toNat,d.rp.toNat,d.ke.toNat,d.ki.toNat,d.wr.toNat⟩
def Dd.may(d:Dd):Bool:=jE d.e d.h d.rp d.ke d.ki d.wr
def Dd.inC(d:Dd):Bool:=decide (1≤d.cl∧d.cl≤8)
theorem Dd.may_sl{d:Dd}(h:d.may=true):d.sl.May∧jr d.e d.h d.rp d.ke d.ki d.wr=zm d.sl:=by
 unfold Dd.may jE at h;simp only[Bool.and_eq_true,decide_eq_true_eq]at h;obtain⟨⟨⟨⟨⟨⟨⟨⟨⟨⟨⟨h1,h2⟩,h3⟩,h4⟩,h5⟩,h6⟩,h7⟩,h8⟩,h9⟩,h10⟩,h11⟩,h12⟩:=h;refine⟨⟨by show d.e.toNat≤_;omega,by show d.h.toNat≤_;omega,by show d.rp.toNat≤_;omega,by show d.ke.toNat≤_;omega,by show d.ki.toNat≤_;omega,by show d.wr.toNat≤_;omega⟩,?_⟩;unfold jr zm Dd.sl;dsimp only;rw[show((d.e.toNat:Nat):Int)=d.e by omega,show((d.h.toNat:Nat):Int)=d.h by omega,show((d.rp.toNat:Nat):Int)=d.rp by omega,show((d.ke.toNat:Nat):Int)=d.ke by omega,show((d.ki.toNat:Nat):Int)=d.ki by omega,show((d.wr.toNat:Nat):Int)=d.wr by omega]
def doD(V:Gd.Vl)(d:Dd):Gd.Vl:=
 if d.kd=0 then V.appD d.cl {d.r with d:=d.r.d.take 80}
 else if d.kd=1 then(if d.inC=true∧d.may=true then V.sets d.cl.toNat d.sl else V)
 else if d.kd=2 then(if d.inC=true then V.take d.cl.toNat else V)
 else if d.kd=3 then(if d.inC=true then V.fence d.cl.toNat else V)
 else if d.kd=4 then(V.recov 8).1
 else V
theorem YN{V:Gd.Vl}(h:V.Ok)(d:Dd):(doD V d).Ok:=by
 unfold doD;split
 ·exact h.appD _ _
 split
 ·split
  ·rename_i hh
   exact h.sets _ (Dd.may_sl hh.2).1
  ·exact h
 split
 ·split
  ·rename_i hh
   have:=of_decide_eq_true hh
   exact h.take (by omega) (by omega)
  ·exact h
 split
 ·split
  ·rename_i hh
   have:=of_decide_eq_true hh
   exact h.fence (by omega) (by omega)
  ·exact h
 split
 ·exact h.recov 8 (by omega)
 ·exact h
theorem VR(V:Gd.Vl)(d:Dd):V.n≤(doD V d).n∧(doD V d).n≤V.n+480:=by
 unfold doD;split
 ·rw[Gd.Vl.appD_n];omega
 split
 ·split
  ·show V.n≤V.n+1∧V.n+1≤V.n+480;omega
  ·omega
 split
 ·split
  ·have:=V.take_n d.cl.toNat;omega
  ·omega
 split
 ·split
  ·have:=V.fence_n d.cl.toNat;omega
  ·omega
 split
 ·have:=V.recov_n 8;omega
 ·omega
section
variable {o x t f K n p v r m:Nat} {R:RvB} {V U U2:Gd.Vl} {w a b:World} {Ls Lr:List (Nat×Obj)}
theorem QO(h1:∀q,R.has q↔∃o',(q,o')∈Lr)(hget:∀p∈Lr,a.heap[p.1]? =some p.2)(h3:RvC R U a)(hC:RvC R U2 b)(hn:∀p∈Ls,¬R.has p.1)(t x f:Nat):∃Lr':List (Nat×Obj),(∀q,R.has q↔∃o',(q,o')∈Lr')∧(∀q,q<a.heap.size→R.has q→∃o',(q,o')∈Lr++Ls∧o'≠qP t x f∧o'≠j5 t x)∧∀p∈Lr'++Ls,(p∈Lr++Ls∧¬R.has p.1)∨((a.heap.size≤p.1∨∃o',(p.1,o')∈Lr++Ls)∧b.heap[p.1]? =some p.2):=by
 have hbq:∀q,R.has q→∃o',b.heap[q]? =some o':=fun q hq=>by
  obtain⟨C,ty,h,-⟩:=hC.typ hq;exact⟨_,h⟩
 refine⟨Lr.map fun p=>(p.1,(b.heap[p.1]?).getD p.2),fun q=>⟨fun hq=> ?_,fun⟨o',ho⟩=> ?_⟩,fun q _ hq=> ?_,fun p hp=> ?_⟩
 ·obtain⟨o',ho⟩:=(h1 q).1 hq;exact⟨_,List.mem_map.2 ⟨_,ho,rfl⟩⟩
 ·obtain⟨p,hp,e⟩:=List.mem_map.1 ho;have:p.1=q:=congrArg (·.1) e
  exact(h1 q).2 ⟨p.2,by rw[←this];exact hp⟩
 ·obtain⟨o',ho⟩:=(h1 q).1 hq;obtain⟨C,ty,hg,n1,n2,-⟩:=h3.typ hq;have:=hget _ ho
  dsimp only at this;rw[hg]at this;refine⟨o',List.mem_append_left _ ho,fun e=> ?_,fun e=> ?_⟩
  ·rw[e]at this;exact n1 (Obj.cells.inj (Option.some.inj this)).2.1
  ·rw[e]at this;exact n2 (Obj.cells.inj (Option.some.inj this)).2.1
 ·rcases List.mem_append.1 hp with hp|hp
  ·obtain⟨p',hp',rfl⟩:=List.mem_map.1 hp;refine Or.inr ⟨Or.inr ⟨p'.2,List.mem_append_left _ hp'⟩,?_⟩;obtain⟨o',ho⟩:=hbq p'.1 ((h1 _).2 ⟨_,hp'⟩);show b.heap[p'.1]? =some ((b.heap[p'.1]?).getD p'.2)
   rw[ho];rfl
  ·exact Or.inl ⟨List.mem_append_right _ hp,hn p hp⟩
def Bn[zc](o x t f:Nat)(R:RvB)(V:Gd.Vl)(c:Nat)(y:Gd.Slot)(U:Gd.Vl)(K:Nat)(w a:World)(Ls:List (Nat×Obj)):Prop:=
 ∃Lr:List (Nat×Obj),(∀q,R.has q↔∃o',(q,o')∈Lr)∧(∃S P M,P≠[]∧Vq o x t f S P M V.n (Gd.updS V.s c y) 1 K w a (Lr++Ls)∧Gd.Fils M V.fs∧∀c,1≤c→c≤8→Gd.part M.logs (1024*(c-1)) 1024=V.lg c)∧RvC R U a
theorem Bv.setslot[zc](h:Bv o x t f R V U K w a Ls)(c:Nat)(c1:1≤c)(c2:c≤8)(y:Gd.Slot)(hy:y.May):
 Calls prog 22 #[.pointer (some ⟨o,0,none⟩),.int .i64 c,zO y] a fun e b=>e= .returned (.int .i64 0)∧Bn o x t f R V c y U K w b Ls:=by
 obtain⟨Lr,h1,h2,h3⟩:=h;refine((h2.vm 0).setslot c c1 c2 y hy (by omega)).mono ?_
 rintro e b ⟨he,S,P,M,hP,hV,hr⟩;refine⟨he,Lr,h1,⟨S,P,M,hP,hV,hr⟩,h3.keep fun q hq=> ?_⟩;obtain⟨o',ho⟩:=(h1 q).1 hq;rw[h2.get (List.mem_append_left _ ho),hV.get (List.mem_append_left _ ho)]
theorem Bn.get[zc]{c:Nat}{y:Gd.Slot}(h:Bn o x t f R V c y U K w a Ls){k:Nat}{o':Obj}(hk:(k,o')∈Ls):a.heap[k]? =some o':=by
 obtain⟨Lr,h1,⟨S,P,M,hP,hV,hr⟩,h3⟩:=h;exact hV.get (List.mem_append_right _ hk)
theorem Bn.ref[zc]{c:Nat}{y:Gd.Slot}(h:Bn o x t f R V c y U K w a Ls):RvC R U a:=by
 obtain⟨Lr,h1,h2,h3⟩:=h;exact h3
theorem Bn.below[zc]{c:Nat}{y:Gd.Slot}(h:Bn o x t f R V c y U K w a Ls)(hb:Below a.heap.size a b):Bn o x t f R V c y U K w b Ls:=by
 obtain⟨Lr,h1,⟨S,P,M,hP,hV,hr⟩,h3⟩:=h;exact⟨Lr,h1,⟨S,P,M,hP,hV.below hb,hr⟩,h3.below hb⟩
theorem Bn.turn[zc]{c:Nat}{y:Gd.Slot}(h:Bn o x t f R V c y U K w a Ls)(hO:zi R.has a b)(hC:RvC R U2 b)(hn:∀p∈Ls,¬R.has p.1):Bn o x t f R V c y U2 K w b Ls:=by
 obtain⟨Lr,h1,⟨S,P,M,hP,hV,hr⟩,h3⟩:=h;obtain⟨Lr',k1,k2,k3⟩:=QO h1 (fun p hp=>hV.get (List.mem_append_left _ hp)) h3 hC hn t x f;exact⟨Lr',k1,⟨S,P,M,hP,hV.own hO k2 k3,hr⟩,hC⟩
theorem Bn.commit[zc]{c:Nat}{y:Gd.Slot}(h:Bn o x t f R V c y U K w a Ls)(hK:K<600000000000)(hn:V.n+1≤1152921504606846976):
 Calls prog 23 #[.pointer (some ⟨o,0,none⟩)] a fun e b=>e= .returned (.int .i64 0)∧Bv o x t f R (V.sets c y) U (K+2000000) w b Ls:=by
 obtain⟨Lr,h1,h2,h3⟩:=h;have hg:∀p∈Lr,a.heap[p.1]? =some p.2:=fun p hp=>by
  obtain⟨S,P,M,hP,hV,hr⟩:=h2;exact hV.get (List.mem_append_left _ hp)
 refine(uq h2 (by omega) hK hn).mono ?_
 rintro e b ⟨he,hv⟩;refine⟨he,Lr,h1,hv,h3.keep fun q hq=> ?_⟩;obtain⟨o',ho⟩:=(h1 q).1 hq;rw[hg _ ho,hv.get (List.mem_append_left _ ho)]
theorem Bv.commit0[zc](h:Bv o x t f R V U K w a Ls):
 Calls prog 23 #[.pointer (some ⟨o,0,none⟩)] a fun e b=>e= .returned (.int .i64 0)∧Bv o x t f R V U K w b Ls:=by
 obtain⟨Lr,h1,⟨S,M,hV,hF,hg⟩,h3⟩:=h;refine hV.1.commit0.mono ?_;rintro e b ⟨he,hv⟩;have hs:Vs o x t f V K w b (Lr++Ls):=⟨S,M,⟨hv,hV.2⟩,hF,hg⟩;exact⟨he,Bv.carry h1 ⟨S,M,hV,hF,hg⟩ h3 hs⟩
def Bp[zc](o x t f:Nat)(R:RvB)(V U:Gd.Vl)(K:Nat)(w a:World)(Ls:List (Nat×Obj)):Prop:=
 ∃Lr:List (Nat×Obj),(∀q,R.has q↔∃o',(q,o')∈Lr)∧(∃S P c M,Vp o x t f S P c K w a (Lr++Ls)∧(Gd.Good (Gd.view S []) M∧Gd.HeadIs M V.n V.s)∧Gd.Fils M V.fs∧∀c,1≤c→c≤8→Gd.part M.logs (1024*(c-1)) 1024=V.lg c)∧RvC R U a
theorem Bp.get[zc](h:Bp o x t f R V U K w a Ls){k:Nat}{o':Obj}(hk:(k,o')∈Ls):a.heap[k]? =some o':=by
 obtain⟨Lr,h1,⟨S,P,c,M,hV,hr⟩,h3⟩:=h;exact hV.get (List.mem_append_right _ hk)
theorem Bp.vol[zc](h:Bp o x t f R V U K w a Ls):jU a o t x f:=by
 obtain⟨Lr,h1,⟨S,P,c,M,hV,hr⟩,h3⟩:=h;exact hV.vol
theorem Bv.bp[zc](h:Bv o x t f R V U K w a Ls):Bp o x t f R V U K w a Ls:=by
 obtain⟨Lr,h1,⟨S,M,hV,hF,hg⟩,h3⟩:=h;exact⟨Lr,h1,⟨S,[],0,M,hV.1,hV.2,hF,hg⟩,h3⟩
theorem Bp.below[zc](h:Bp o x t f R V U K w a Ls)(hb:Below a.heap.size a b):Bp o x t f R V U K w b Ls:=by
 obtain⟨Lr,h1,⟨S,P,c,M,hV,hr⟩,h3⟩:=h;exact⟨Lr,h1,⟨S,P,c,M,hV.below hb,hr⟩,h3.below hb⟩
theorem Bp.drop[zc](h:Bp o x t f R V U K w a Ls):
 Calls prog 31 #[.pointer (some ⟨t,0,none⟩)] a fun e b=>e= .returned (.tuple #[])∧Bv o x t f R V U K w b Ls:=by
 obtain⟨Lr,h1,⟨S,P,c,M,hV,hG,hF,hg⟩,h3⟩:=h;refine hV.drop.mono ?_;rintro e b ⟨he,hv⟩;refine⟨he,Lr,h1,⟨S,M,⟨hv,hG⟩,hF,hg⟩,h3.keep fun q hq=> ?_⟩;obtain⟨o',ho⟩:=(h1 q).1 hq;rw[hV.get (List.mem_append_left _ ho),hv.get (List.mem_append_left _ ho)]
theorem Bv.setany[zc](h:Bv o x t f R V U K w a Ls)(d:Dd):
 Calls prog 22 #[.pointer (some ⟨o,0,none⟩),.int .i64 d.cl,.agg (jr d.e d.h d.rp d.ke d.ki d.wr)] a fun e b=>(∃E:Int,e= .returned (.int .i64 E))∧Bp o x t f R V U K w b Ls:=by
 by_cases hm:d.may=true
 ·obtain⟨hy,hc⟩:=Dd.may_sl hm;rw[hc];by_cases hi:1≤d.cl∧d.cl≤8
  ·have hcl:d.cl=((d.cl.toNat:Nat):Int):=by omega
   rw[hcl];obtain⟨Lr,h1,⟨S,M,hV,hF,hg⟩,h3⟩:=h;refine(hV.1.setslot d.cl.toNat (by omega) (by omega) d.sl hy (by omega)).mono ?_
   rintro e b ⟨he,hv⟩;refine⟨⟨_,he⟩,Lr,h1,⟨S,_,_,M,hv,hV.2,hF,hg⟩,h3.keep fun q hq=> ?_⟩;obtain⟨o',ho⟩:=(h1 q).1 hq;rw[hV.get (List.mem_append_left _ ho),hv.get (List.mem_append_left _ ho)]
  ·refine(vi d.cl d.sl a h.vol hy hi).mono ?_
   rintro e b ⟨he,hb⟩;exact⟨⟨_,he⟩,h.bp.below hb⟩
 ·refine(yt (t:=t) (x:=x) (f:=f) d.cl d.e d.h d.rp d.ke d.ki d.wr a (by unfold Dd.may at hm;simpa using hm)).mono ?_
  rintro e b ⟨he,hb⟩;exact⟨⟨_,he⟩,h.bp.below hb⟩
theorem Zg{o t x f:Nat}(d:Dd)(w:World)(hv:jU w o t x f)(hb:¬(d.inC=true∧d.may=true)):
 Calls prog 22 #[.pointer (some ⟨o,0,none⟩),.int .i64 d.cl,.agg (jr d.e d.h d.rp d.ke d.ki d.wr)] w fun e w'=>e= .returned (.int .i64 1)∧Below w.heap.size w w':=by
 by_cases hm:d.may=true
 ·obtain⟨hy,hc⟩:=Dd.may_sl hm;rw[hc];exact vi d.cl d.sl w hv hy fun h=>hb ⟨decide_eq_true h,hm⟩
 ·exact yt (t:=t) (x:=x) (f:=f) d.cl d.e d.h d.rp d.ke d.ki d.wr w (by unfold Dd.may at hm;simpa using hm)
theorem Bv.takeV[zc](h:Bv o x t f R V U K w a Ls)(hok:V.Ok)(c:Nat)(c1:1≤c)(c2:c≤8)(hK:K<500000000000)(hn:V.n≤1000000):
 Calls prog 34 #[.pointer (some ⟨o,0,none⟩),.int .i64 c] a fun e b=>∃u,e= .returned (.tuple #[u,.int .i64 0])∧b.ownsRow a.heap.size 57 5 u (V.taken c).length (jd (V.taken c))∧Bv o x t f R (V.take c) U (K+200000000) w b Ls:=by
 obtain⟨Lr,h1,h2,h3⟩:=h;refine(h2.take hok c c1 c2 hK hn).mono ?_
 rintro e b ⟨u,he,hr,hv⟩;exact⟨u,he,hr,Bv.carry h1 h2 h3 hv⟩
theorem Bv.fenceV[zc](h:Bv o x t f R V U K w a Ls)(c:Nat)(c1:1≤c)(c2:c≤8)(hK:K<600000000000)(hn:V.n≤2000000):
 Calls prog 36 #[.pointer (some ⟨o,0,none⟩),.int .i64 c] a fun e b=>e= .returned (.int .i64 (if(V.s c).e<1073741824 then 0 else 1))∧Bv o x t f R (V.fence c) U (K+2000000) w b Ls:=by
 obtain⟨Lr,h1,h2,h3⟩:=h;refine(h2.fence c c1 c2 hK hn).mono ?_
 rintro e b ⟨he,hv⟩;exact⟨he,Bv.carry h1 h2 h3 hv⟩
theorem Bv.recoverV[zc](h:Bv o x t f R V U K w a Ls)(hok:V.Ok)(hK:K<400000000000)(hn:V.n≤900000):
 Calls prog 38 #[.pointer (some ⟨o,0,none⟩)] a fun e b=>e= .returned (.int .i64 (if(V.recov 8).2 then 0 else 1))∧Bv o x t f R (V.recov 8).1 U (K+1700000000) w b Ls:=by
 obtain⟨Lr,h1,h2,h3⟩:=h;refine(h2.recover hok hK hn).mono ?_
 rintro e b ⟨he,hv⟩;exact⟨he,Bv.carry h1 h2 h3 hv⟩
theorem XQ{o t x f:Nat}(m:Int)(w:World)(hv:jU w o t x f)(hm:¬(1≤m∧m≤8)):
 Calls prog 34 #[.pointer (some ⟨o,0,none⟩),.int .i64 m] w fun e w'=>e= .returned (.tuple #[.slice none 0 0,.int .i64 1])∧Below w.heap.size w w':=by
 have HSl:=hid (ZC m w hv hm);unfold zO zm at HSl;dsimp only at HSl;clear hv hm;go_enter func34,ntmps34;go_wp2_with fail
 refine HSl.o.mono ?_;rintro e w1 ⟨rfl,hb1⟩;have HB1:=hid hb1;clear hb1 HSl;go_wp2_with fail
 go_ret2
 exact⟨rfl,HB1.o.alloc HB1.o.size _⟩
theorem X7(c:Int)(hc:¬(1≤c∧c≤8))(r:Nat)(w:World):
 Calls prog 59 #[.pointer (some ⟨r,0,none⟩),.int .i64 c] w fun e w'=>e= .returned (.tuple #[.slice none 0 0,.int .i64 1])∧w'=w:=by
 by_cases h1:c<1
 ·clear hc;go_enter func59,ntmps59;go_wp2_with fail
  go_ret2
  exact⟨rfl,rfl⟩
 ·have h8:8<c:=by omega
  clear hc;go_enter func59,ntmps59;go_wp2_with fail
  go_ret2
  exact⟨rfl,rfl⟩
end
end
section
open Go.Shelf
attribute [local go_sem] Oper.semAt_some
section
variable {o x t f K n p v r m:Nat} {R:RvB} {V U U2:Gd.Vl} {w a b:World} {Ls Lr:List (Nat×Obj)}
theorem Uk[zc](h:Bv o x t f R V V K w a [(p,zo o R.r)])(hok:V.Ok)(d:Dd)(hkd:d.kd=0)(hpc:d.pn≤d.pc)(hpl:d.pc≤9223372036854775807)(hdl:d.r.d.length≤9223372036854775807)(hk:jb w d.pA (min d.pn 300))(hK:K<90000000000)(hn:V.n≤100000):
 Calls prog 20 #[.pointer (some ⟨p,0,none⟩),.agg (ddC d)] a fun e b=>e= .returned (.bool true)∧∃o2 x2 t2 f2:Nat,Bv o2 x2 t2 f2 R (doD V d) (doD V d) (K+2000000000) w b [(p,zo o2 R.r)]:=by
 obtain⟨w1,hw1⟩:=nm (a.alloc (.cells (ddC d) 60));obtain⟨bd,hbd⟩:=nm a.heap.size;have hb1:Below a.heap.size a w1:=by rw[hw1];exact(Below.refl _ _).alloc (Nat.le_refl _) _
 have hg1:w1.heap[bd]? =some (.cells (ddC d) 60 (0,0)):=by rw[hw1,hbd];exact heap_alloc_new _ _
 have HCu:=hid (qk d w1 hpc hpl hdl);have HB:=hid h;have HOk:=hid hok;have HKd:=hid (And.intro hkd (And.intro hK (And.intro hn hk)));have HW1:=hid hw1.symm;have Hbd:=hid hbd.symm;have HB1:=hid hb1;have HG1:=hid hg1;have hrow:=jF hg1;obtain⟨VD,hVD⟩:=nm (doD V d);rw[←hVD];have HVD:=hid hVD;unfold ddC at HW1;clear h hok hkd hpc hpl hdl hk hK hn hw1 hbd hb1 hg1 hVD;go_enter func20,ntmps20;unfold ddC;go_upto_region 1 with fail
 rw[HW1.o,Hbd.o];go_wp2_with(refine wpList_load_mid rfl 60 _ rfl bd 0 rfl (ddC d).toList _ hrow underlying60 rfl sizeDd ?_)
 refine HCu.o.mono ?_;rintro e w2 ⟨rfl,hb2⟩;have HG2:=hid ((hb2.block bd (za HG1.o)).trans HG1.o);have HB2:=HB1.t hb2;clear hrow hb2 HCu;go_upto_region 2 with(refine wpList_store_mid rfl 60 _ _ rfl bd 0 (ddC d.cut) rfl rfl (zf HG2.o rfl) sizeDd (qs _) ?_;obtain⟨hbw,hbg⟩:=zh HG2.o (vs:=(ddC d.cut).toList) (B:=a.heap.size) rfl (by have:=Hbd.o;omega);generalize (World.setCells _ _ _ _)=w3 at hbw hbg⊢)
 have HB3:=hid (HB2.o.trans hbw);obtain⟨kd,cl,r,ee,hh,rp,ke,ki,wr,pA,pn0,pc⟩:=d;obtain⟨rc,ri,rt,ro,dd⟩:=r;unfold Dd.cut ddC at hbg;dsimp only at hbg HKd HVD;obtain⟨s8,hs8⟩:∃s:ByteArray,s=⟨(dd.take 80).toArray⟩:=⟨_,rfl⟩;obtain⟨pn,hpn⟩:=nm (min pn0 300);have hbg':w3.heap[bd]? =some (.cells #[.int .i64 kd,.int .i64 cl,.int .i64 rc,.int .i64 ri,.bool rt,.int .i64 ro,.string s8,.int .i64 ee,.int .i64 hh,.int .i64 rp,.int .i64 ke,.int .i64 ki,.int .i64 wr,.slice pA pn pc] 60 (0,0)):=by rw[hs8,hpn];exact hbg
 have HV3:Hid (Bv o x t f R V V K w w3 [(bd,.cells #[.int .i64 kd,.int .i64 cl,.int .i64 rc,.int .i64 ri,.bool rt,.int .i64 ro,.string s8,.int .i64 ee,.int .i64 hh,.int .i64 rp,.int .i64 ke,.int .i64 ki,.int .i64 wr,.slice pA pn pc] 60 (0,0)),(p,zo o R.r)]):=hid (HB.o.news (Lu:=[(bd,.cells #[.int .i64 kd,.int .i64 cl,.int .i64 rc,.int .i64 ri,.bool rt,.int .i64 ro,.string s8,.int .i64 ee,.int .i64 hh,.int .i64 rp,.int .i64 ke,.int .i64 ki,.int .i64 wr,.slice pA pn pc] 60 (0,0))]) HB3.o fun q hq=>by
  rw[List.mem_singleton.1 hq];exact⟨by show a.heap.size≤bd;have:=Hbd.o;omega,hbg'⟩)
 have HNo:Hid (∀q∈([(bd,.cells #[.int .i64 kd,.int .i64 cl,.int .i64 rc,.int .i64 ri,.bool rt,.int .i64 ro,.string s8,.int .i64 ee,.int .i64 hh,.int .i64 rp,.int .i64 ke,.int .i64 ki,.int .i64 wr,.slice pA pn pc] 60 (0,0)),(p,zo o R.r)]:List (Nat×Obj)),¬R.has q.1):=hid fun q hq hR=>by
  have hl:=HB.o.ref.lt hR;have hbe:=Hbd.o;rcases List.mem_cons.1 hq with rfl|hq
  ·dsimp only at hl;omega
  ·rw[List.mem_singleton.1 hq]at hR;exact HB.o.apart (List.mem_singleton.2 rfl) hR
 have HS8:=hid (And.intro hs8 hpn)
 have HCl:Hid (∀W:World,W.heap[p]? =some (zo o R.r)→W.heap[bd]? =some (.cells #[.int .i64 kd,.int .i64 cl,.int .i64 rc,.int .i64 ri,.bool rt,.int .i64 ro,.string s8,.int .i64 ee,.int .i64 hh,.int .i64 rp,.int .i64 ke,.int .i64 ki,.int .i64 wr,.slice pA pn pc] 60 (0,0))→W.cell? ⟨p,1,none⟩=some (.pointer (some ⟨o,0,none⟩))∧W.cell? ⟨p,2,none⟩=some (.pointer (some ⟨R.r,0,none⟩))∧W.cell? ⟨bd,1,none⟩=some (.int .i64 cl)∧(W.cell? ⟨bd,7,none⟩=some (.int .i64 ee)∧W.cell? ⟨bd,8,none⟩=some (.int .i64 hh)∧W.cell? ⟨bd,9,none⟩=some (.int .i64 rp)∧W.cell? ⟨bd,10,none⟩=some (.int .i64 ke)∧W.cell? ⟨bd,11,none⟩=some (.int .i64 ki)∧W.cell? ⟨bd,12,none⟩=some (.int .i64 wr))):=hid fun W q1 q2=>⟨(zl q1).2.1,(zl q1).2.2,cell_of_row W bd 1 _ _ _ q2,cell_of_row W bd 7 _ _ _ q2,cell_of_row W bd 8 _ _ _ q2,cell_of_row W bd 9 _ _ _ q2,cell_of_row W bd 10 _ _ _ q2,cell_of_row W bd 11 _ _ _ q2,cell_of_row W bd 12 _ _ _ q2⟩
 have HGp:Hid (w3.heap[p]? =some (zo o R.r)):=hid (HV3.o.get (List.mem_cons_of_mem _ (List.mem_singleton.2 rfl)));have HGb:=hid hbg';have kd0:=cell_of_row w3 bd 0 _ _ _ hbg';clear hbw hbg hbg' hs8 hpn HG1 HG2 HB1 HB2 HW1;obtain rfl:kd=0:=HKd.o.1
 have HVe:Hid (VD=V.appD cl ⟨rc,ri,rt,ro,dd.take 80⟩):=hid HVD.o;have hrec:w3.rangeAt bd 2 [.int .i64 rc,.int .i64 ri,.bool rt,.int .i64 ro,.string s8]:=fun j u hj=>by
  have hj5:j<5:=(List.getElem?_eq_some_iff.1 hj).1;rw[cell_of_row w3 bd (2+j) _ _ _ HGb.o];match j,hj5,hj with
  |0,_,hj=>exact hj
  |1,_,hj=>exact hj
  |2,_,hj=>exact hj
  |3,_,hj=>exact hj
  |4,_,hj=>exact hj
 have HAp:=(HV3.o.less (Ls':=[(p,zo o R.r)]) fun q hq=>List.mem_cons_of_mem _ hq).append HOk.o cl ⟨rc,ri,rt,ro,dd.take 80⟩ (by show(dd.take 80).length≤1000;rw[List.length_take];omega) (by have:=HKd.o.2.1;omega);unfold qq Fl.recV at HAp;dsimp only at HAp;rw[←HS8.o.1,←HVe.o]at HAp;have HA:=hid HAp;obtain⟨-,-,q3,-⟩:=HCl.o w3 HGp.o HGb.o;clear HAp;go_wp2_with(refine wpList_load_mid rfl 57 _ rfl bd 2 rfl [.int .i64 rc,.int .i64 ri,.bool rt,.int .i64 ro,.string s8] _ hrec underlying57 rfl sizeRec ?_)
 refine HA.o.mono ?_;rintro e w4 ⟨rfl,h4⟩;have H4:=hid h4;clear hrec h4 q3 HA;go_wp2_with fail
 go_ret
 exact⟨rfl,o,x,t,f,H4.o.more (by omega)⟩
end
end
section
open Go.Shelf
attribute [local go_sem] Oper.semAt_some
section
variable {o x t f K n p v r m:Nat} {R:RvB} {V U U2:Gd.Vl} {w a b:World} {Ls Lr:List (Nat×Obj)}
theorem Uj[zc](h:Bv o x t f R V V K w a [(p,zo o R.r)])(hok:V.Ok)(d:Dd)(hkd:d.kd=1)(hpc:d.pn≤d.pc)(hpl:d.pc≤9223372036854775807)(hdl:d.r.d.length≤9223372036854775807)(hk:jb w d.pA (min d.pn 300))(hK:K<90000000000)(hn:V.n≤100000):
 Calls prog 20 #[.pointer (some ⟨p,0,none⟩),.agg (ddC d)] a fun e b=>e= .returned (.bool true)∧∃o2 x2 t2 f2:Nat,Bv o2 x2 t2 f2 R (doD V d) (doD V d) (K+2000000000) w b [(p,zo o2 R.r)]:=by
 obtain⟨w1,hw1⟩:=nm (a.alloc (.cells (ddC d) 60));obtain⟨bd,hbd⟩:=nm a.heap.size;have hb1:Below a.heap.size a w1:=by rw[hw1];exact(Below.refl _ _).alloc (Nat.le_refl _) _
 have hg1:w1.heap[bd]? =some (.cells (ddC d) 60 (0,0)):=by rw[hw1,hbd];exact heap_alloc_new _ _
 have HCu:=hid (qk d w1 hpc hpl hdl);have HB:=hid h;have HOk:=hid hok;have HKd:=hid (And.intro hkd (And.intro hK (And.intro hn hk)));have HW1:=hid hw1.symm;have Hbd:=hid hbd.symm;have HB1:=hid hb1;have HG1:=hid hg1;have hrow:=jF hg1;obtain⟨VD,hVD⟩:=nm (doD V d);rw[←hVD];have HVD:=hid hVD;unfold ddC at HW1;clear h hok hkd hpc hpl hdl hk hK hn hw1 hbd hb1 hg1 hVD;go_enter func20,ntmps20;unfold ddC;go_upto_region 1 with fail
 rw[HW1.o,Hbd.o];go_wp2_with(refine wpList_load_mid rfl 60 _ rfl bd 0 rfl (ddC d).toList _ hrow underlying60 rfl sizeDd ?_)
 refine HCu.o.mono ?_;rintro e w2 ⟨rfl,hb2⟩;have HG2:=hid ((hb2.block bd (za HG1.o)).trans HG1.o);have HB2:=HB1.t hb2;clear hrow hb2 HCu;go_upto_region 2 with(refine wpList_store_mid rfl 60 _ _ rfl bd 0 (ddC d.cut) rfl rfl (zf HG2.o rfl) sizeDd (qs _) ?_;obtain⟨hbw,hbg⟩:=zh HG2.o (vs:=(ddC d.cut).toList) (B:=a.heap.size) rfl (by have:=Hbd.o;omega);generalize (World.setCells _ _ _ _)=w3 at hbw hbg⊢)
 have HB3:=hid (HB2.o.trans hbw);obtain⟨kd,cl,r,ee,hh,rp,ke,ki,wr,pA,pn0,pc⟩:=d;obtain⟨rc,ri,rt,ro,dd⟩:=r;unfold Dd.cut ddC at hbg;dsimp only at hbg HKd HVD;obtain⟨s8,hs8⟩:∃s:ByteArray,s=⟨(dd.take 80).toArray⟩:=⟨_,rfl⟩;obtain⟨pn,hpn⟩:=nm (min pn0 300);have hbg':w3.heap[bd]? =some (.cells #[.int .i64 kd,.int .i64 cl,.int .i64 rc,.int .i64 ri,.bool rt,.int .i64 ro,.string s8,.int .i64 ee,.int .i64 hh,.int .i64 rp,.int .i64 ke,.int .i64 ki,.int .i64 wr,.slice pA pn pc] 60 (0,0)):=by rw[hs8,hpn];exact hbg
 have HV3:Hid (Bv o x t f R V V K w w3 [(bd,.cells #[.int .i64 kd,.int .i64 cl,.int .i64 rc,.int .i64 ri,.bool rt,.int .i64 ro,.string s8,.int .i64 ee,.int .i64 hh,.int .i64 rp,.int .i64 ke,.int .i64 ki,.int .i64 wr,.slice pA pn pc] 60 (0,0)),(p,zo o R.r)]):=hid (HB.o.news (Lu:=[(bd,.cells #[.int .i64 kd,.int .i64 cl,.int .i64 rc,.int .i64 ri,.bool rt,.int .i64 ro,.string s8,.int .i64 ee,.int .i64 hh,.int .i64 rp,.int .i64 ke,.int .i64 ki,.int .i64 wr,.slice pA pn pc] 60 (0,0))]) HB3.o fun q hq=>by
  rw[List.mem_singleton.1 hq];exact⟨by show a.heap.size≤bd;have:=Hbd.o;omega,hbg'⟩)
 have HNo:Hid (∀q∈([(bd,.cells #[.int .i64 kd,.int .i64 cl,.int .i64 rc,.int .i64 ri,.bool rt,.int .i64 ro,.string s8,.int .i64 ee,.int .i64 hh,.int .i64 rp,.int .i64 ke,.int .i64 ki,.int .i64 wr,.slice pA pn pc] 60 (0,0)),(p,zo o R.r)]:List (Nat×Obj)),¬R.has q.1):=hid fun q hq hR=>by
  have hl:=HB.o.ref.lt hR;have hbe:=Hbd.o;rcases List.mem_cons.1 hq with rfl|hq
  ·dsimp only at hl;omega
  ·rw[List.mem_singleton.1 hq]at hR;exact HB.o.apart (List.mem_singleton.2 rfl) hR
 have HS8:=hid (And.intro hs8 hpn)
 have HCl:Hid (∀W:World,W.heap[p]? =some (zo o R.r)→W.heap[bd]? =some (.cells #[.int .i64 kd,.int .i64 cl,.int .i64 rc,.int .i64 ri,.bool rt,.int .i64 ro,.string s8,.int .i64 ee,.int .i64 hh,.int .i64 rp,.int .i64 ke,.int .i64 ki,.int .i64 wr,.slice pA pn pc] 60 (0,0))→W.cell? ⟨p,1,none⟩=some (.pointer (some ⟨o,0,none⟩))∧W.cell? ⟨p,2,none⟩=some (.pointer (some ⟨R.r,0,none⟩))∧W.cell? ⟨bd,1,none⟩=some (.int .i64 cl)∧(W.cell? ⟨bd,7,none⟩=some (.int .i64 ee)∧W.cell? ⟨bd,8,none⟩=some (.int .i64 hh)∧W.cell? ⟨bd,9,none⟩=some (.int .i64 rp)∧W.cell? ⟨bd,10,none⟩=some (.int .i64 ke)∧W.cell? ⟨bd,11,none⟩=some (.int .i64 ki)∧W.cell? ⟨bd,12,none⟩=some (.int .i64 wr))):=hid fun W q1 q2=>⟨(zl q1).2.1,(zl q1).2.2,cell_of_row W bd 1 _ _ _ q2,cell_of_row W bd 7 _ _ _ q2,cell_of_row W bd 8 _ _ _ q2,cell_of_row W bd 9 _ _ _ q2,cell_of_row W bd 10 _ _ _ q2,cell_of_row W bd 11 _ _ _ q2,cell_of_row W bd 12 _ _ _ q2⟩
 have HGp:Hid (w3.heap[p]? =some (zo o R.r)):=hid (HV3.o.get (List.mem_cons_of_mem _ (List.mem_singleton.2 rfl)));have HGb:=hid hbg';have kd0:=cell_of_row w3 bd 0 _ _ _ hbg';clear hbw hbg hbg' hs8 hpn HG1 HG2 HB1 HB2 HW1;obtain rfl:kd=1:=HKd.o.1
 have HVe:Hid (VD=if(⟨1,cl,⟨rc,ri,rt,ro,dd⟩,ee,hh,rp,ke,ki,wr,pA,pn0,pc⟩:Dd).inC=true∧(⟨1,cl,⟨rc,ri,rt,ro,dd⟩,ee,hh,rp,ke,ki,wr,pA,pn0,pc⟩:Dd).may=true then V.sets cl.toNat (⟨1,cl,⟨rc,ri,rt,ro,dd⟩,ee,hh,rp,ke,ki,wr,pA,pn0,pc⟩:Dd).sl else V):=hid HVD.o;have hs0:=HCl.o w3.drew HGp.o HGb.o;by_cases hgd:(⟨1,cl,⟨rc,ri,rt,ro,dd⟩,ee,hh,rp,ke,ki,wr,pA,pn0,pc⟩:Dd).inC=true∧(⟨1,cl,⟨rc,ri,rt,ro,dd⟩,ee,hh,rp,ke,ki,wr,pA,pn0,pc⟩:Dd).may=true
 ·obtain⟨hin,hmy⟩:=hgd;have hin2:=of_decide_eq_true hin;dsimp only at hin2;obtain⟨hy,hsl⟩:=Dd.may_sl hmy;have hVe:=HVe.o;rw[if_pos ⟨hin,hmy⟩]at hVe;dsimp only at hsl;obtain⟨y,hye⟩:=nm ((⟨1,cl,⟨rc,ri,rt,ro,dd⟩,ee,hh,rp,ke,ki,wr,pA,pn0,pc⟩:Dd).sl);rw[←hye]at hy hsl hVe;obtain⟨d,hd⟩:∃d:Nat,cl=(d:Int)+1:=⟨(cl-1).toNat,by omega⟩;have hcd:cl.toNat=d+1:=by omega
  have hd8:d<8:=by omega
  rw[hcd]at hVe;have hsv:zO y= .agg #[.int .i64 ee,.int .i64 hh,.int .i64 rp,.int .i64 ke,.int .i64 ki,.int .i64 wr]:=by
   unfold zO;rw[←hsl];rfl
  have h1:=(HV3.o.below (Below.refl _ _).drew).setslot (d+1) (by omega) (by omega) y hy;rw[show((d+1:Nat):Int)=cl by omega,hsv]at h1;have HS1:=hid h1;have HY:=hid (And.intro hy (And.intro hsv (And.intro hd hd8)));have HVf:=hid hVe;clear h1 hin hmy hin2 hy hsl hVe hye hd hcd hd8 hsv kd0;have kd0:=cell_of_row w3 bd 0 _ _ _ HGb.o;go_upto_region 6 with fail
  refine wp_region_held_drew (S:=(fun W=>W.cell? ⟨p,1,none⟩=some (.pointer (some ⟨o,0,none⟩))∧W.cell? ⟨p,2,none⟩=some (.pointer (some ⟨R.r,0,none⟩))∧W.cell? ⟨bd,1,none⟩=some (.int .i64 cl)∧(W.cell? ⟨bd,7,none⟩=some (.int .i64 ee)∧W.cell? ⟨bd,8,none⟩=some (.int .i64 hh)∧W.cell? ⟨bd,9,none⟩=some (.int .i64 rp)∧W.cell? ⟨bd,10,none⟩=some (.int .i64 ke)∧W.cell? ⟨bd,11,none⟩=some (.int .i64 ki)∧W.cell? ⟨bd,12,none⟩=some (.int .i64 wr)))) (by kernel_rfl) ?_ (fun hHeld=> ?_)
  ·exact hs0
  refine tk 0 ?_;refine tk 1 ?_;refine tk 2 ?_;refine tk 3 ?_;refine tk 4 ?_;refine tk 5 ?_;refine tk 6 ?_;refine tk 7 ?_;refine rd 8 (fun K hK=> ?_);go_simp
  refine HS1.o.mono ?_;rintro e w4 ⟨rfl,h4⟩;have H4:=hid h4;have hs1:=HCl.o w4 (h4.get (List.mem_cons_of_mem _ (List.mem_singleton.2 rfl))) (h4.get (List.mem_cons_self ..));clear h4;try dsimp only
  refine hK.o _ _ hs1 (fun hHeld=> ?_);clear hK K;try simp only[put]
  refine tk 9 ?_;refine dn ?_
  (try simp only[Exit.then])
  clear hs0 hs1 HS1 kd0;have hs2:=HCl.o w4.drew (H4.o.get (List.mem_cons_of_mem _ (List.mem_singleton.2 rfl))) (H4.o.get (List.mem_cons_self ..));have h2:=ZQ (H4.o.below (Below.refl _ _).drew).ref cl d HY.o.2.2.1 HY.o.2.2.2 y HY.o.1 (by have:=HKd.o.2.2.1;omega);rw[HY.o.2.1]at h2;have HS2:=hid h2;clear h2;go_upto_region 7 with fail
  refine wp_region_held_drew (S:=(fun W=>W.cell? ⟨p,1,none⟩=some (.pointer (some ⟨o,0,none⟩))∧W.cell? ⟨p,2,none⟩=some (.pointer (some ⟨R.r,0,none⟩))∧W.cell? ⟨bd,1,none⟩=some (.int .i64 cl)∧(W.cell? ⟨bd,7,none⟩=some (.int .i64 ee)∧W.cell? ⟨bd,8,none⟩=some (.int .i64 hh)∧W.cell? ⟨bd,9,none⟩=some (.int .i64 rp)∧W.cell? ⟨bd,10,none⟩=some (.int .i64 ke)∧W.cell? ⟨bd,11,none⟩=some (.int .i64 ki)∧W.cell? ⟨bd,12,none⟩=some (.int .i64 wr)))) (by kernel_rfl) ?_ (fun hHeld=> ?_)
  ·exact hs2
  refine tk 0 ?_;refine tk 1 ?_;refine tk 2 ?_;refine tk 3 ?_;refine tk 4 ?_;refine tk 5 ?_;refine tk 6 ?_;refine tk 7 ?_;refine rd 8 (fun K hK=> ?_);go_simp
  refine HS2.o.mono ?_;rintro e w5 ⟨rfl,hC5,hO5⟩;have H5:=hid ((H4.o.below (Below.refl _ _).drew).turn hO5 hC5 HNo.o);have hs3:=HCl.o w5 (H5.o.get (List.mem_cons_of_mem _ (List.mem_singleton.2 rfl))) (H5.o.get (List.mem_cons_self ..));clear hC5 hO5;try dsimp only
  refine hK.o _ _ hs3 (fun hHeld=> ?_);clear hK K;try simp only[put]
  refine tk 9 ?_;refine dn ?_
  (try simp only[Exit.then])
  have HCm:=hid (H5.o.commit (by have:=HKd.o.2.1;omega) (by have:=HKd.o.2.2.1;omega));obtain⟨q1,-,-,-⟩:=hs3;clear hs2 HS2;go_wp2_with fail
  refine HCm.o.mono ?_;rintro e w6 ⟨rfl,h6⟩;have H6:=hid h6;clear h6 q1 HCm;go_wp2_with fail
  go_ret
  rw[HVf.o];exact⟨rfl,o,x,t,f,(H6.o.less fun q hq=>List.mem_cons_of_mem _ hq).more (by omega)⟩
 ·have hVe:=HVe.o;rw[if_neg hgd]at hVe;have HVf:=hid hVe;have h1:=Zg (⟨1,cl,⟨rc,ri,rt,ro,dd⟩,ee,hh,rp,ke,ki,wr,pA,pn0,pc⟩:Dd) w3.drew (HV3.o.below (Below.refl _ _).drew).vol hgd;unfold jr at h1;dsimp only at h1;have HS1:=hid h1;have HNg:Hid (¬((1≤cl∧cl≤8)∧jE ee hh rp ke ki wr=true)):=hid fun hg=>hgd ⟨decide_eq_true hg.1,hg.2⟩;clear hgd hVe h1;go_upto_region 6 with fail
  refine wp_region_held_drew (S:=(fun W=>W.cell? ⟨p,1,none⟩=some (.pointer (some ⟨o,0,none⟩))∧W.cell? ⟨p,2,none⟩=some (.pointer (some ⟨R.r,0,none⟩))∧W.cell? ⟨bd,1,none⟩=some (.int .i64 cl)∧(W.cell? ⟨bd,7,none⟩=some (.int .i64 ee)∧W.cell? ⟨bd,8,none⟩=some (.int .i64 hh)∧W.cell? ⟨bd,9,none⟩=some (.int .i64 rp)∧W.cell? ⟨bd,10,none⟩=some (.int .i64 ke)∧W.cell? ⟨bd,11,none⟩=some (.int .i64 ki)∧W.cell? ⟨bd,12,none⟩=some (.int .i64 wr)))) (by kernel_rfl) ?_ (fun hHeld=> ?_)
  ·exact hs0
  refine tk 0 ?_;refine tk 1 ?_;refine tk 2 ?_;refine tk 3 ?_;refine tk 4 ?_;refine tk 5 ?_;refine tk 6 ?_;refine tk 7 ?_;refine rd 8 (fun K hK=> ?_);go_simp
  refine HS1.o.mono ?_;rintro e w4 ⟨rfl,h4⟩;have H4:=hid ((HV3.o.below (Below.refl _ _).drew).below h4);have hs1:=HCl.o w4 (H4.o.get (List.mem_cons_of_mem _ (List.mem_singleton.2 rfl))) (H4.o.get (List.mem_cons_self ..));clear h4;try dsimp only
  refine hK.o _ _ hs1 (fun hHeld=> ?_);clear hK K;try simp only[put]
  refine tk 9 ?_;refine dn ?_
  (try simp only[Exit.then])
  clear hs0 hs1 HS1 kd0;have hs2:=HCl.o w4.drew (H4.o.get (List.mem_cons_of_mem _ (List.mem_singleton.2 rfl))) (H4.o.get (List.mem_cons_self ..));have h2:=ZR cl ee hh rp ke ki wr HNg.o R.r w4.drew;unfold jr at h2;have HS2:=hid h2;clear h2;go_upto_region 7 with fail
  refine wp_region_held_drew (S:=(fun W=>W.cell? ⟨p,1,none⟩=some (.pointer (some ⟨o,0,none⟩))∧W.cell? ⟨p,2,none⟩=some (.pointer (some ⟨R.r,0,none⟩))∧W.cell? ⟨bd,1,none⟩=some (.int .i64 cl)∧(W.cell? ⟨bd,7,none⟩=some (.int .i64 ee)∧W.cell? ⟨bd,8,none⟩=some (.int .i64 hh)∧W.cell? ⟨bd,9,none⟩=some (.int .i64 rp)∧W.cell? ⟨bd,10,none⟩=some (.int .i64 ke)∧W.cell? ⟨bd,11,none⟩=some (.int .i64 ki)∧W.cell? ⟨bd,12,none⟩=some (.int .i64 wr)))) (by kernel_rfl) ?_ (fun hHeld=> ?_)
  ·exact hs2
  refine tk 0 ?_;refine tk 1 ?_;refine tk 2 ?_;refine tk 3 ?_;refine tk 4 ?_;refine tk 5 ?_;refine tk 6 ?_;refine tk 7 ?_;refine rd 8 (fun K hK=> ?_);go_simp
  refine HS2.o.mono ?_;rintro e w5 ⟨rfl,hb5⟩;have H5:=hid ((H4.o.below (Below.refl _ _).drew).below hb5);have hs3:=HCl.o w5 (H5.o.get (List.mem_cons_of_mem _ (List.mem_singleton.2 rfl))) (H5.o.get (List.mem_cons_self ..));clear hb5;try dsimp only
  refine hK.o _ _ hs3 (fun hHeld=> ?_);clear hK K;try simp only[put]
  refine tk 9 ?_;refine dn ?_
  (try simp only[Exit.then])
  have HCm:=hid H5.o.commit0;obtain⟨q1,-,-,-⟩:=hs3;clear hs2 HS2;go_wp2_with fail
  refine HCm.o.mono ?_;rintro e w6 ⟨rfl,h6⟩;have H6:=hid h6;clear h6 q1 HCm;go_wp2_with fail
  go_ret
  rw[HVf.o];exact⟨rfl,o,x,t,f,(H6.o.less fun q hq=>List.mem_cons_of_mem _ hq).more (by omega)⟩
end
end
end Go.Proofs.YtccpdkjonepoiaaGreatDoor
