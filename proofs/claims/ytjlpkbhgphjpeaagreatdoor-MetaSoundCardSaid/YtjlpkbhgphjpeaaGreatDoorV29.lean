/- What Rename and Drop come to, at a volume that goes with the document. -/
import Derived.Test.YtjlpkbhgphjpeaaGreatDoorV28
import Derived.Test.YtjlpkbhgphjpeaaGreatDoorV27
set_option linter.unusedVariables false
set_option linter.unusedSimpArgs false
set_option linter.unusedSectionVars false
set_option maxHeartbeats 8000000
set_option maxRecDepth 100000
namespace Go.Proofs.YtjlpkbhgphjpeaaGreatDoor
open Go.RowKit
open Lib(hid)
open Go.Proofs.Tryz
section
open Go.Shelf
variable {x t c K Kg:Nat} {S:List UInt8} {M N:Gd.Vol} {T:Nat→Gd.Tab} {Z:Pz.Fil} {φ:Nat→Nat} {D:Nat→Nat→Nat} {F:Nat→Prop}
namespace Gd
theorem Rel.same(h:Rel M T Z φ){i j:Nat}(i1:1≤i)(i2:i≤32)(hi:(M.ino i).k≠0)(j1:1≤j)(j2:j≤32)(hj:(M.ino j).k≠0):φ i=φ j↔i=j:=⟨h.inj i j i1 i2 j1 j2 hi hj,fun e=>by rw[e]⟩
theorem Rel.find_of(h:Rel M T Z φ){d i:Nat}{y:List UInt8}(d1:1≤d)(d2:d≤32)(hk:(M.ino d).k=2)(i1:1≤i)(i2:i≤32)(hi:(M.ino i).k≠0)(hl:Pz.look Z.E (φ d) y=φ i):∃j,findT (T d) y (hN y)=some j∧(entAt (T d) j.val).i=i:=by
 have hlk:=h.look d d1 d2 hk y;rw[hl]at hlk
 cases hf:findT (T d) y (hN y)with
 |none=>
  rw[dirE_none hf,if_pos rfl]at hlk;omega
 |some j=>
  have hfe:=find_ent h.tree d1 d2 hk hf;rw[dirE_some hf,if_neg (by omega)]at hlk;exact⟨j,rfl,(h.inj _ _ hfe.1 hfe.2.1 i1 i2 hfe.2.2.1 hi (by omega))⟩
theorem Rel.find_not(h:Rel M T Z φ){d:Nat}{y:List UInt8}(d1:1≤d)(d2:d≤32)(hk:(M.ino d).k=2)(hl:Pz.look Z.E (φ d) y<0):findT (T d) y (hN y)=none:=by
 have hlk:=h.look d d1 d2 hk y
 cases hf:findT (T d) y (hN y)with
 |none=>rfl
 |some j=>
  have hfe:=find_ent h.tree d1 d2 hk hf;rw[dirE_some hf,if_neg (by omega)]at hlk;omega
theorem Rel.place_of(h:Rel M T Z φ){d:Nat}{p y:List UInt8}(d1:1≤d)(d2:d≤32)(hk:(M.ino d).k=2)(hp:Pz.place Z p= .ok (φ d,y)):placeQ M T p=(d,y,0):=by
 have hpl:=h.place p;rw[hp]at hpl;by_cases hz:(placeQ M T p).2.2=0
 ·rw[if_pos hz]at hpl;have hI:=h.isPlace hz
  cases hpl':placeQ M T p with
  |mk a b=>
   obtain⟨b1,b2⟩:=b;rw[hpl']at hpl hI hz;have e:=Except.ok.inj hpl;have e1:=congrArg Prod.fst e;have e2:=congrArg Prod.snd e;dsimp only at e1 e2 hz hI;have:=h.inj d a d1 d2 hI.lo hI.hi (by omega) (by have:=hI.kind;omega) e1
   rw[this,e2,hz]
 ·rw[if_neg hz]at hpl
  cases hpl
structure Mid(M:Vol)(T:Nat→Tab)(D:Nat→Nat→Nat)(Z:Pz.Fil)(φ:Nat→Nat)(p:List UInt8)(d2:Nat)(y:List UInt8)(i d:Nat)(x:List UInt8)(full cnt:Nat):Prop where
 sim:Sim M T D Z φ
 place:placeQ M T p=(d2,y,0)
 there:IsPlace M T p d2 y
 here:∃j,findT (T d2) y (hN y)=some j∧(entAt (T d2) j.val).i=i
 kind:(M.ino d).k=2
 free:findT (T d) x (hN x)=none
 full:namedT (T d) 16≤full
 cnt:countB M.map≤cnt
theorem namedT_take{T:Tab}(hT:TabOk T){j:Nat}(hj:j<16):namedT (setT T j noEnt) 16≤namedT T 16:=by
 have:=namedT_set hT.len hj noEnt
 rw[if_neg (show ¬(noEnt.s≠[]) from fun e=>e rfl)]at this;omega
theorem named_upd(hH:Hold M T){d q:Nat}{j:Nat}(d1:1≤d)(d2:d≤32)(hk:(M.ino d).k=2)(hj:j<16):namedT (upd T d (setT (T d) j noEnt) q) 16≤namedT (T q) 16:=by
 by_cases e:q=d
 ·subst e;rw[upd_same];exact namedT_take (hH.dir q d1 d2 hk).ok hj
 ·rw[upd_other e];exact Nat.le_refl _
end Gd
theorem XI{i:Nat}{y:Gd.Ino}(hB:y.B=[0,0,0,0]):(Gd.keepV M i y).map=M.map:=by
 unfold Gd.keepV;split
 ·rfl
 ·show y.B.foldl Gd.giveI M.map=M.map
  exact Gd.give_none hB M.map
theorem Ja{i q:Nat}{y:Gd.Ino}(hq:q≠i):(Gd.keepV M i y).ino q=M.ino q:=by
 unfold Gd.keepV;split
 ·exact Gd.setIno_other M y hq
 ·exact Gd.setIno_other (M.setMap _) Gd.noIno hq
def RQ[zg](x t K:Nat)(S:List UInt8)(F:Nat→Prop)(w:World)(D:Nat→Nat→Nat)(Z1:Pz.Fil)(φ:Nat→Nat)(p:List UInt8)(d2:Nat)(y:List UInt8)(i d:Nat)(xn:List UInt8)(full cnt:Nat)(W:World):Prop:=
 ∃M1 T1,zt x t S M1 8 K F w W∧Gd.Mid M1 T1 D Z1 φ p d2 y i d xn full cnt
def RQ3[zg](x t K:Nat)(S:List UInt8)(F:Nat→Prop)(w:World)(D:Nat→Nat→Nat)(Z1:Pz.Fil)(φ:Nat→Nat)(p:List UInt8)(d2:Nat)(y:List UInt8)(i d:Nat)(xn:List UInt8)(full cnt:Nat)(W:World):Prop:=
 ∃M1 T1 N j,zt x t S N 12 K F w W∧Gd.Mid M1 T1 D Z1 φ p d2 y i d xn full cnt∧Gd.findT (T1 d2) y (Gd.hN y)=some j∧(Gd.entAt (T1 d2) j.val).i=i∧Gd.Chg M1 T1 N d2 (Gd.setT (T1 d2) (j:Fin 16).val Gd.noEnt)∧Gd.countB N.map≤Gd.countB M1.map
variable {Z1:Pz.Fil} {d2 i d full cnt:Nat} {y xn:List UInt8} {w:World}
theorem vn[zg](s:ByteArray)(hs:s.size≤100000)(hM:Mx w)(hmF:¬F 0)(W:World)(h:RQ x t K S F w D Z1 φ s.data.toList d2 y i d xn full cnt W):
 Calls prog 89 #[.pointer (some ⟨x,0,none⟩),.string s] W fun e w'=>e= .returned (.tuple #[.int .i64 (d2:Int),.string ⟨y.toArray⟩,.int .i64 0])∧RQ x t K S F w D Z1 φ s.data.toList d2 y i d xn full cnt w':=by
 obtain⟨M1,T1,ht,hm⟩:=h;have hMW:=ht.mx hM hmF;obtain⟨F1,h1⟩:=ht;have:=j9 s W h1.inv hm.sim.rel.tree hs hMW
 rw[hm.place]at this;refine this.mono ?_;rintro e w' ⟨rfl,hb⟩;exact⟨rfl,M1,T1,zt.ahead ⟨F1,h1⟩ hb,hm⟩
theorem uY[zg](s:ByteArray)(W:World)(h:RQ x t K S F w D Z1 φ s.data.toList d2 y i d xn full cnt W):
 Calls prog 107 #[.pointer (some ⟨x,0,none⟩),.int .i64 (d2:Int),.string ⟨y.toArray⟩] W fun e w'=>e= .returned (.int .i64 0)∧RQ3 x t K S F w D Z1 φ s.data.toList d2 y i d xn full cnt w':=by
 obtain⟨M1,T1,⟨F1,h1⟩,hm⟩:=h;obtain⟨j,hj,hje⟩:=hm.here;have hnm:=Gd.nameB_ok hm.there.name;refine(vi y j W h1.inv hm.sim.rel.hold hm.there.lo hm.there.hi hm.there.kind (by omega) hj (by omega)).mono ?_
 rintro e w' ⟨rfl,N,hN⟩;obtain⟨F2,h2⟩:=hN.turns;exact⟨rfl,M1,T1,N,j,⟨F2,h1.trans h2⟩,hm,hj,hje,hN.chg,hN.count⟩
theorem JK[zg]{room:Prop}(s:ByteArray)(spare:Int)(W:World)(z:Pz.Fil×Pz.Rep)(d1:1≤d)(d3:d≤32)(hx:Np.nameB xn=true)(h:RQ3 x t K S F w D Z1 φ s.data.toList d2 y i d xn full cnt W)(hroom:16≤full∨128-(cnt:Int)≤max 0 spare→room)
 (hz:z=({Z1 with E:=Pz.take Z1.E (φ d2) y++[⟨φ d,xn,φ i⟩]},Pz.er 0)):
 Calls prog 104 #[.pointer (some ⟨x,0,none⟩),.int .i64 (d:Int),.string ⟨xn.toArray⟩,.int .i64 (i:Int),.int .i64 spare] W fun e w'=>∃r:Int,e= .returned (.int .i64 r)∧Out x t K S M room F w Z z (Pz.er 0) D r w':=by
 obtain⟨M1,T1,N,j,⟨F1,h1⟩,hm,hj,hje,hc,hcnt⟩:=h;have hfe:=Gd.find_ent hm.sim.rel.tree hm.there.lo hm.there.hi hm.there.kind hj;rw[hje]at hfe;have hkd:(N.ino d).k=2:=by rw[hc.kindAll];exact hm.kind
 have hnm:=Gd.nameB_ok hx;have hfr:Gd.findT (Gd.upd T1 d2 (Gd.setT (T1 d2) j.val Gd.noEnt) d) xn (Gd.hN xn)=none:=by
  by_cases e:d=d2
  ·subst e;obtain⟨e1,e2⟩:=Gd.find_some hj;have hok:=(hm.sim.rel.hold.dir d d1 d3 hm.kind).ok;rw[Gd.upd_same,←Gd.dirE_zero (hok.set (Or.inl rfl)) hnm.1,Gd.dirE_take (hm.sim.rel.hold.uniq d d1 d3 hm.kind) hok j.isLt e1 e2];split
   ·rfl
   ·exact Gd.dirE_none hm.free
  ·rw[Gd.upd_other e];exact hm.free
 refine(Zd xn i spare W h1.inv hc.hold d1 d3 hkd hx hfe.1 hfe.2.1 hfr (by omega)).mono ?_
 rintro e w' (⟨rfl,N2,j2,hp⟩|⟨rfl,hr,hp⟩)
 ·obtain⟨F2,h2⟩:=hp.turns;obtain⟨T',hS'⟩:=hm.sim.move hm.there.lo hm.there.hi hm.there.kind hj hje hc d1 d3 hm.kind hnm.1 hfr hp.lt hp.no hp.chg;have hN:zt x t S N2 16 K F w w':=⟨F2,h1.trans h2⟩;refine⟨0,rfl,Or.inr (Or.inr ⟨rfl,by rw[hz],N2,T',φ,hN.more (by omega),?_⟩)⟩;rw[hz];exact hS'
 ·obtain⟨F2,h2⟩:=hp;refine⟨18,rfl,Or.inl ⟨rfl,hroom ?_,_,_,F2,h1.trans h2⟩⟩;have hle:=Gd.named_upd (q:=d) hm.sim.rel.hold hm.there.lo hm.there.hi hm.there.kind j.isLt;have hf:=hm.full;have hcn:=hm.cnt;rcases hr with hr|hr
  ·exact Or.inl (by omega)
  ·exact Or.inr (by omega)
theorem Z9[zg](s u:ByteArray)(spare:Int)(w:World)(h:zy x t S M 0 K w F)(hs:s.size≤100000)(hu:u.size≤100000)(hM:Mx w)(hmF:¬F 0)(hSim:Gd.Sim M T D Z φ)(hG:Pz.Good Kg Z):
 Calls prog 54 #[.pointer (some ⟨x,0,none⟩),.string s,.string u,.int .i64 spare] w fun e w'=>∃r:Int,e= .returned (.int .i64 r)∧Out x t K S M (xg M T u.data.toList spare) F w Z (Pz.rename Z s.data.toList u.data.toList) (Pz.er 0) D r w':=by
 have hT:=hSim.rel.tree;have hfi:=hSim.rel.find s.data.toList;have hpl:=hSim.rel.place u.data.toList;have hpl1:=hSim.rel.place s.data.toList;have hW:=fun W (hb:Below w.heap.size w W)=>qb s W (h.below hb) hT hs (hM.keep hb);have hP:=fun W (hb:Below w.heap.size w W)=>j9 u W (h.below hb) hT hu (hM.keep hb);have hB:=fun W (hb:Below w.heap.size w W)=>Jt s u W hs hu (hM.keep hb);have hN:=fun W (hb:Below w.heap.size w W)=>Qb u s W hu hs (hM.keep hb);have herr:=Gd.walkP_err M T s.data.toList;have herr2:=Gd.placeQ_err M T u.data.toList;by_cases hno:Np.pathL s.data.toList=none∨Np.pathL u.data.toList=none
 ·have hbv:(decide (Np.pathL s.data.toList≠none)&&decide (Np.pathL u.data.toList≠none))=false:=by
   rcases hno with e|e<;>rw[e]<;>simp
  refine(ug s u spare w fun W hb=>by rw[←hbv];exact hB W hb).mono ?_
  rintro e w' ⟨rfl,hb⟩;refine⟨15,rfl,zP h (by decide) (by decide) ?_ hb⟩;unfold Pz.rename;rw[if_pos (hno.elim Or.inl fun e=>Or.inr (Or.inl e))]
 have hbv:(decide (Np.pathL s.data.toList≠none)&&decide (Np.pathL u.data.toList≠none))=true:=by
  simp only[not_or]at hno;rw[decide_eq_true hno.1,decide_eq_true hno.2];rfl
 rw[hbv]at hB;by_cases hs47:s.data.toList=[47]
 ·have:=yc hs47
  subst this;refine(uf u spare w hB).mono ?_
  rintro e w' ⟨rfl,hb⟩;refine⟨15,rfl,zP h (by decide) (by decide) ?_ hb⟩;unfold Pz.rename;rw[if_pos (Or.inr (Or.inr (Or.inl hs47)))]
 by_cases hu47:u.data.toList=[47]
 ·have:=yc hu47
  subst this;refine(ue s spare hs47 w hB).mono ?_
  rintro e w' ⟨rfl,hb⟩;refine⟨15,rfl,zP h (by decide) (by decide) ?_ hb⟩;unfold Pz.rename;rw[if_pos (Or.inr (Or.inr (Or.inr hu47)))]
 have hno2:¬(Np.pathL s.data.toList=none∨Np.pathL u.data.toList=none∨s.data.toList=[47]∨u.data.toList=[47]):=by
  rintro(e|e|e|e)
  ·exact hno (Or.inl e)
  ·exact hno (Or.inr e)
  ·exact hs47 e
  ·exact hu47 e
 by_cases hE:(Gd.walkP M T s.data.toList).2=0
 case neg=>
  rw[if_neg hE]at hfi;have hE':((Gd.walkP M T s.data.toList).2:Int)≠0:=by omega
  refine(JQ s u spare hs47 hu47 _ _ hE' w hB hW).mono ?_
  rintro e w' ⟨rfl,hb⟩;refine⟨_,rfl,zP h hE' (by omega) ?_ hb⟩;unfold Pz.rename;rw[if_neg hno2,hfi]
 rw[hE]at hW;rw[if_pos hE]at hfi;obtain⟨i1,i2,i3⟩:=hSim.rel.at hE;obtain⟨hz1,jo,hjo,hjoe⟩:=hSim.rel.placed hE hs47;obtain⟨i,hi⟩:=nm ((Gd.walkP M T s.data.toList).1);rw[←hi]at hfi hW i1 i2 i3 hjoe;have hkd:=hSim.rel.kind i1 i2 i3;obtain⟨hsh,hmy⟩:=hSim.rel.hold.may i i1 i2;have hI:=fun W (hb:Below w.heap.size w W)=>zZ (i:Int) W (h.below hb) (by omega) (by omega);rw[Int.toNat_natCast]at hI;obtain⟨b,hb⟩:=nm (jS (Np.pathL u.data.toList) (Np.pathL s.data.toList));rw[←hb]at hN;have hz0:Pz.rename Z s.data.toList u.data.toList=if Pz.isDir Z.N (φ i)∧s.data.toList≠u.data.toList∧b=true then(Z,Pz.er 15)else
  match Pz.place Z u.data.toList with
  | .error g=>(Z,Pz.er g)
  | .ok q=>if Pz.look Z.E q.1 q.2=φ i then(Z,Pz.er 0)else if Pz.overErr Z (φ i) (Pz.look Z.E q.1 q.2)≠0 then(Z,Pz.er (Pz.overErr Z (φ i) (Pz.look Z.E q.1 q.2)))else
   match Pz.place Z s.data.toList with
   | .error _=>(Z,Pz.er 0)
   | .ok o=>({Pz.over Z (Pz.look Z.E q.1 q.2) q with E:=Pz.take (Pz.over Z (Pz.look Z.E q.1 q.2) q).E o.1 o.2++[⟨q.1,q.2,φ i⟩]},Pz.er 0):=by
  unfold Pz.rename;rw[if_neg hno2,hfi,hb];rfl
 by_cases hin:(M.ino i).k=2∧¬s.data.toList=u.data.toList∧b=true
 ·obtain⟨hk2,hsu,hbt⟩:=hin;rw[hbt]at hN;refine(uh s u spare hs47 hu47 (i:Int) (M.ino i) hsh hk2 hsu w hB hW hI hN).mono ?_
  rintro e w' ⟨rfl,hbw⟩;refine⟨15,rfl,zP h (by decide) (by decide) ?_ hbw⟩;rw[hz0,if_pos ⟨by rw[hkd];exact decide_eq_true hk2,hsu,hbt⟩]
 have hIn:(M.ino i).k=2∧¬s.data.toList=u.data.toList→b=false:=fun e=>by
  cases b with
  |false=>rfl
  |true=>exact absurd ⟨e.1,e.2,rfl⟩ hin
 rw[if_neg (fun e=>hin ⟨by rw[hkd]at e;exact of_decide_eq_true e.1,e.2.1,e.2.2⟩)]at hz0;by_cases hz:(Gd.placeQ M T u.data.toList).2.2=0
 case neg=>
  rw[if_neg hz]at hpl;have hz':((Gd.placeQ M T u.data.toList).2.2:Int)≠0:=by omega
  refine(vv s u spare hs47 hu47 b (i:Int) (M.ino i) hsh hIn _ _ _ hz' w hB hW hI hN hP).mono ?_
  rintro e w' ⟨rfl,hbw⟩;refine⟨_,rfl,zP h hz' (by omega) ?_ hbw⟩;rw[hz0,hpl]
 have hroom0:∀d,d=(Gd.placeQ M T u.data.toList).1→16≤Gd.namedT (T d) 16∨128-((Gd.countB M.map:Nat):Int)≤max 0 spare→xg M T u.data.toList spare:=fun d hd hq=>by
  subst hd;rcases hq with hq|hq
  ·have:=Gd.namedT_le (T (Gd.placeQ M T u.data.toList).1) 16
   exact Or.inr (Or.inr ⟨hz,by omega⟩)
  ·exact Or.inr (Or.inl hq)
 rw[if_pos hz]at hpl;rw[hz]at hP;have hIp:=hSim.rel.isPlace hz;have hpq:Gd.placeQ M T u.data.toList=((Gd.placeQ M T u.data.toList).1,(Gd.placeQ M T u.data.toList).2.1,0):=Prod.ext rfl (Prod.ext rfl hz);obtain⟨d,hd⟩:=nm ((Gd.placeQ M T u.data.toList).1);obtain⟨xn,hxn⟩:=nm ((Gd.placeQ M T u.data.toList).2.1);have hroom:=hroom0 d hd;rw[←hd,←hxn]at hpl hP hIp hpq;have hnm:=Gd.nameB_ok hIp.name;have hD:=hT.dir d hIp.lo hIp.hi hIp.kind;rw[if_pos hz1]at hpl1;have hIo:=hSim.rel.isPlace hz1;have hpq1:Gd.placeQ M T s.data.toList=((Gd.placeQ M T s.data.toList).1,(Gd.placeQ M T s.data.toList).2.1,0):=Prod.ext rfl (Prod.ext rfl hz1);obtain⟨d2,hd2⟩:=nm ((Gd.placeQ M T s.data.toList).1);obtain⟨y,hy⟩:=nm ((Gd.placeQ M T s.data.toList).2.1);rw[←hd2,←hy]at hpl1 hIo hpq1 hjo;rw[←hd2]at hjoe;have hlko:=hSim.rel.look d2 hIo.lo hIo.hi hIo.kind y;rw[Gd.dirE_some hjo,hjoe,if_neg (by omega)]at hlko
 rw[hpl,hpl1]at hz0;dsimp only at hz0;have hlk:=hSim.rel.look d hIp.lo hIp.hi hIp.kind xn
 cases hf:Gd.findT (T d) xn (Gd.hN xn)with
 |none=>
  rw[Gd.dirE_none hf,if_pos rfl]at hlk;have hFi:=fun W (hb:Below w.heap.size w W)=>ve xn W (h.below hb) hD (by omega) hnm.1 hf;have hov:Pz.overErr Z (φ i) (-1)=0:=by
   unfold Pz.overErr;rw[if_neg (by omega)]
  have hov2:Pz.over Z (-1) (φ d,xn)=Z:=by
   unfold Pz.over;rw[if_neg (by omega)]
  rw[hlk,if_neg (by omega),hov,if_neg (fun e=>e rfl),hov2]at hz0;refine ZU s u spare hs47 hu47 b (i:Int) (M.ino i) hsh hIn _ _ (d:Int) (d2:Int) (by omega) w (RQ x t K S F w D Z φ s.data.toList d2 y i d xn (Gd.namedT (T d) 16) (Gd.countB M.map)) _ _ _ hB hW hI hN hP hFi (fun W hb=> ?_) (fun W hq=>vn s hs hM hmF W hq) (fun W hq=>uY s W hq) (fun W hq=>JK s spare W _ hIp.lo hIp.hi hIp.name hq hroom hz0);exact⟨M,T,(zt.keep h hb).more (by omega),hSim,hpq1,hIo,⟨jo,hjo,hjoe⟩,hIp.kind,hf,Nat.le_refl _,Nat.le_refl _⟩
 |some jv=>
  have hfe:=Gd.find_ent hT hIp.lo hIp.hi hIp.kind hf;have hFi:=fun W (hb:Below w.heap.size w W)=>find_some xn jv W (h.below hb) hT hIp.lo hIp.hi hIp.kind (by omega) hnm.1 hf;rw[Gd.dirE_some hf,if_neg (by omega)]at hlk;obtain⟨v,hv⟩:=nm ((Gd.entAt (T d) jv.val).i);rw[←hv]at hfe hFi hlk;obtain⟨v1,v2,v3,-⟩:=hfe;have hvk:=hSim.rel.kind v1 v2 v3;obtain⟨hvsh,hvmy⟩:=hSim.rel.hold.may v v1 v2;by_cases hvi:v=i
  ·rw[hvi]at hFi hlk;rw[if_pos hlk]at hz0;refine(ZS s u spare hs47 hu47 b (i:Int) (M.ino i) hsh hIn _ (d:Int) w hB hW hI hN hP hFi).mono ?_
   rintro e w' ⟨rfl,hbw⟩;refine⟨0,rfl,Or.inr (Or.inr ⟨rfl,by rw[hz0],M,T,φ,(zt.keep h hbw).more (by omega),?_⟩)⟩;rw[hz0];exact hSim
  ·have hφ:φ v≠φ i:=fun e=>hvi (hSim.rel.inj v i v1 v2 i1 i2 v3 i3 e);rw[hlk,if_neg (show ¬((φ v:Int)=φ i) by omega)]at hz0;have hNd:=fun W (hb:Below w.heap.size w W)=>Zh v W (h.below hb) v1 v2 v3;have hoe:Pz.overErr Z (φ i) (φ v)=if Pz.isDir Z.N (φ i)then(if Pz.isDir Z.N (φ v)then(if 0<Pz.count Z.E (φ v)then 14 else 0)else 12)else(if Pz.isDir Z.N (φ v)then 13 else 0):=Pz.overErr_nat
   rw[hkd,hvk]at hoe;have hvi':¬((v:Int)=(i:Int)):=by omega
   have hv0':¬((v:Int)=0):=by omega
   have hne2:¬(φ d=φ d2∧xn=y):=fun e=>by
    have e1:=hSim.rel.inj d d2 hIp.lo hIp.hi hIo.lo hIo.hi (by have:=hIp.kind;omega) (by have:=hIo.kind;omega) e.1;have e2:=e.2;subst e1;subst e2;rw[hlk]at hlko;omega
   have hlko2:Pz.look (Pz.over Z (φ v) (φ d,xn)).E (φ d2) y=φ i:=by
    rw[Pz.over_nat];show Pz.look (Pz.take Z.E (φ d) xn) (φ d2) y=_
    rw[Pz.look_take,if_neg (fun e=>hne2 ⟨e.1.symm,e.2.symm⟩)];exact hlko
   have hlkx:Pz.look (Pz.over Z (φ v) (φ d,xn)).E (φ d) xn<0:=by
    rw[Pz.over_nat];show Pz.look (Pz.take Z.E (φ d) xn) (φ d) xn<0
    rw[Pz.look_take,if_pos ⟨rfl,rfl⟩];omega
   have hplo:Pz.overErr Z (φ i) (φ v)=0→Pz.place (Pz.over Z (φ v) (φ d,xn)) s.data.toList= .ok (φ d2,y):=fun e=>by
    have:=Pz.place_over (n:=φ i) (d:=φ d) (x:=xn) hpl1 hlko (by rw[hlk];omega) (by rw[hlk];exact e)
    rw[hlk]at this;exact this
   have hmid:∀(M1:Gd.Vol) (T1:Nat→Gd.Tab),Pz.overErr Z (φ i) (φ v)=0→Gd.Sim M1 T1 D (Pz.over Z (φ v) (φ d,xn)) φ→(∀q,q≠v→(M1.ino q).k=(M.ino q).k)→d2≠v→d≠v→Gd.namedT (T1 d) 16≤Gd.namedT (T d) 16→Gd.countB M1.map≤Gd.countB M.map→Gd.Mid M1 T1 D (Pz.over Z (φ v) (φ d,xn)) φ s.data.toList d2 y i d xn (Gd.namedT (T d) 16) (Gd.countB M.map):=fun M1 T1 he hS1 hkq hd2v hdv hfl hcn=>by
    have k2:(M1.ino d2).k=2:=by rw[hkq d2 hd2v];exact hIo.kind
    have k1:(M1.ino d).k=2:=by rw[hkq d hdv];exact hIp.kind
    have ki:(M1.ino i).k≠0:=by rw[hkq i (fun e=>hvi e.symm)];exact i3
    have hpq':=hS1.rel.place_of hIo.lo hIo.hi k2 (hplo he);have hIs:=hS1.rel.isPlace (p:=s.data.toList) (by rw[hpq']);rw[hpq']at hIs;exact⟨hS1,hpq',hIs,hS1.rel.find_of hIo.lo hIo.hi k2 i1 i2 ki hlko2,k1,hS1.rel.find_not hIp.lo hIp.hi k1 hlkx,hfl,hcn⟩
   by_cases hik:(M.ino i).k=2
   ·by_cases hvk2:(M.ino v).k=2
    ·obtain⟨-,hct⟩:=hSim.rel.names hG v1 v2 hvk2;have hlen:=Gd.namesT_named (T v);rw[decide_eq_true hik,decide_eq_true hvk2,if_pos rfl,if_pos rfl,hct]at hoe;have hDv:=hT.dir v v1 v2 hvk2;have hTb:=fun W (hb:Below w.heap.size w W)=>us W (h.below hb) hDv;by_cases hn:0<Gd.namedT (T v) 16
     ·rw[if_pos hn]at hoe;rw[hoe,if_pos (by decide)]at hz0;refine(xt s u spare hs47 hu47 b (i:Int) (M.ino i) hsh hIn _ (d:Int) (v:Int) 14 hvi' hv0' (by decide) .nilFunc w hB hW hI hN hP hFi fun W hb=> ?_).mono ?_
      ·exact(Z5 (M.ino i) (M.ino v) hsh hvsh (v:Int) (T v) hDv.ok (by omega) hik hvk2 W (fun W2 hb2=>hNd W2 (hb.trans (hb2.mono hb.size))) (fun W2 hb2=>hTb W2 (hb.trans (hb2.mono hb.size))))
      ·rintro e w' ⟨rfl,hbw⟩;exact⟨14,rfl,zP h (by decide) (by decide) hz0 hbw⟩
     ·rw[if_neg hn]at hoe;have hn0:Gd.namedT (T v) 16=0:=by omega
      rw[hoe,if_neg (fun e=>e rfl)]at hz0;have hzo:Pz.over Z (φ v) (φ d,xn)={Z with E:=Pz.take Z.E (φ d) xn}:=by
       rw[Pz.over_nat,hvk,decide_eq_true hvk2,if_pos rfl]
      have hdv:d≠v:=fun e=>by
       have h1:=Gd.link_pos hSim.rel.hold hIp.lo hIp.hi hIp.kind (Gd.dirE_of hf hv.symm) (by omega);have h2:=Gd.linkT_named (T d) 16 v;rw[e]at h1 h2;omega
      have hd2v:d2≠v:=fun e=>by
       have h1:=Gd.link_pos hSim.rel.hold hIo.lo hIo.hi hIo.kind (Gd.dirE_of hjo hjoe) (by omega);have h2:=Gd.linkT_named (T d2) 16 i;rw[e]at h1 h2;omega
      refine Zb s u spare hs47 hu47 b (i:Int) (M.ino i) hsh hIn _ _ (d:Int) (d2:Int) (v:Int) hvi' hv0' w (RQ x t K S F w D (Pz.over Z (φ v) (φ d,xn)) φ s.data.toList d2 y i d xn (Gd.namedT (T d) 16) (Gd.countB M.map)) _ _ _ hB hW hI hN hP hFi (fun W hb=> ?_) (fun W hb=> ?_) (fun W hq=>vn s hs hM hmF W hq) (fun W hq=>uY s W hq) (fun W hq=>JK s spare W _ hIp.lo hIp.hi hIp.name hq hroom hz0)
      ·exact JY (M.ino i) (M.ino v) hsh hvsh (v:Int) (T v) hDv.ok (by omega) hik hvk2 W (fun W2 hb2=>hNd W2 (hb.trans (hb2.mono hb.size))) (fun W2 hb2=>hTb W2 (hb.trans (hb2.mono hb.size)))
      ·refine(vw u W (h.below hb) (by omega) hu (hM.keep hb) hSim hpq hIp hf hv.symm hvk2 hn0).mono ?_
       rintro e w' ⟨rfl,N,hN,hch,hcn,hS'⟩;rw[←hzo]at hS';refine⟨rfl,_,_,(hN.behind hb).more (by omega),hmid _ _ hoe hS' (fun q hq=> ?_) hd2v hdv (Gd.named_upd hSim.rel.hold hIp.lo hIp.hi hIp.kind jv.isLt) hcn⟩;rw[Gd.setIno_other N _ hq];exact hch.kindAll q
    ·rw[decide_eq_true hik,decide_eq_false hvk2,if_pos rfl,if_neg (by decide)]at hoe;rw[hoe,if_pos (by decide)]at hz0;refine(xt s u spare hs47 hu47 b (i:Int) (M.ino i) hsh hIn _ (d:Int) (v:Int) 12 hvi' hv0' (by decide) .nilFunc w hB hW hI hN hP hFi fun W hb=> ?_).mono ?_
     ·exact(Z4 (M.ino i) (M.ino v) hsh hvsh (v:Int) hik hvk2 W (fun W2 hb2=>hNd W2 (hb.trans (hb2.mono hb.size))))
     ·rintro e w' ⟨rfl,hbw⟩;exact⟨12,rfl,zP h (by decide) (by decide) hz0 hbw⟩
   ·by_cases hvk2:(M.ino v).k=2
    ·rw[decide_eq_false hik,decide_eq_true hvk2,if_neg (by decide),if_pos rfl]at hoe;rw[hoe,if_pos (by decide)]at hz0;refine(xt s u spare hs47 hu47 b (i:Int) (M.ino i) hsh hIn _ (d:Int) (v:Int) 13 hvi' hv0' (by decide) .nilFunc w hB hW hI hN hP hFi fun W hb=> ?_).mono ?_
     ·exact(JX (M.ino i) (M.ino v) hsh hvsh (v:Int) hik hvk2 W (fun W2 hb2=>hNd W2 (hb.trans (hb2.mono hb.size))))
     ·rintro e w' ⟨rfl,hbw⟩;exact⟨13,rfl,zP h (by decide) (by decide) hz0 hbw⟩
    ·rw[decide_eq_false hik,decide_eq_false hvk2,if_neg (by decide),if_neg (by decide)]at hoe;rw[hoe,if_neg (fun e=>e rfl)]at hz0;have hv1:(M.ino v).k=1:=by
      rcases Gd.kinds hvmy with e|e|e
      ·exact absurd e v3
      ·exact e
      ·exact absurd e hvk2
     have hzo:Pz.over Z (φ v) (φ d,xn)={Z with E:=Pz.take Z.E (φ d) xn,N:=Z.N.set (φ v) ⟨false,[],(M.ino v).l-1⟩}:=by
      rw[Pz.over_nat,hvk,decide_eq_false hvk2,if_neg (by decide),qX hSim.rel v1 v2 hv1]
     have hdv:d≠v:=fun e=>by
      have:=hIp.kind
      rw[e]at this;exact hvk2 this
     have hd2v:d2≠v:=fun e=>by
      have:=hIo.kind
      rw[e]at this;exact hvk2 this
     refine ZT s u spare hs47 hu47 b (i:Int) (M.ino i) hsh hIn _ _ (d:Int) (d2:Int) (v:Int) hvi' hv0' w (RQ x t K S F w D (Pz.over Z (φ v) (φ d,xn)) φ s.data.toList d2 y i d xn (Gd.namedT (T d) 16) (Gd.countB M.map)) _ _ _ hB hW hI hN hP hFi (fun W hb=> ?_) (fun W hb=> ?_) (fun W hq=>vn s hs hM hmF W hq) (fun W hq=>uY s W hq) (fun W hq=>JK s spare W _ hIp.lo hIp.hi hIp.name hq hroom hz0)
     ·exact Xt (M.ino i) (M.ino v) hsh hvsh (v:Int) hik hvk2 W (fun W2 hb2=>hNd W2 (hb.trans (hb2.mono hb.size)))
     ·refine(yS u W (h.below hb) (by omega) hu (hM.keep hb) hSim hpq hIp hf hv.symm hv1).mono ?_
      rintro e w' ⟨rfl,N,hN,hch,hcn,hB0,hS'⟩;rw[←hzo]at hS';refine⟨rfl,_,_,(hN.behind hb).more (by omega),hmid _ _ hoe hS' (fun q hq=> ?_) hd2v hdv (Gd.named_upd hSim.rel.hold hIp.lo hIp.hi hIp.kind jv.isLt) ?_⟩
      ·rw[Ja hq];exact hch.kindAll q
      ·rw[XI (by exact hB0)];exact hcn
theorem XL[zg](k:Nat)(hk:k<8)(w:World)(h:zy x t S M 0 K w F)(hSim:Gd.Sim M T D Z φ):
 Calls prog 24 #[.pointer (some ⟨x,0,none⟩),.int .i64 ((k:Int)+1)] w fun e w'=>e= .returned (.int .i64 0)∧∃N:Gd.Vol,zt x t S N 57 K F w w'∧Gd.Sim N T (Gd.dropD D k) {Z with O:=Pz.drop Z.O ((k:Int)+1)} φ:=by
 refine(XK hk w h hSim.rel hSim.cnt (by omega)).mono ?_
 rintro e w' ⟨rfl,N,ht,hR,hC⟩;have:=Gd.usedD_le D k 32
 exact⟨rfl,N,ht.turns.more (by omega),hSim.drop hk hR hC⟩
end
namespace Gd
theorem fresh_kind{V:List UInt8}{i:Nat}(h:((freshV V).ino i).k≠0):i=1:=by
 by_cases e:i=1
 ·exact e
 ·exact absurd (show(if i=1 then rootI else noIno).k=0 by rw[if_neg e];rfl) h
theorem fresh_root(V:List UInt8):(freshV V).ino 1=rootI:=rfl
theorem fresh_hold(V:List UInt8):Hold (freshV V) fun _=>noTab:=by
 have hT:=fresh_tree V;refine⟨fun i i1 i2=> ?_,hT.dir,fun _ _ _ _=>Uniq.none,fun d d1 d2 hk=> ?_,fun d d1 d2 hk k n hkn hn=> ?_,fun i i1 i2 hk=> ?_,fresh_sound V⟩
 ·by_cases e:i=1
  ·rw[e,fresh_root];exact⟨⟨rfl,rfl⟩,by decide⟩
  ·have:(freshV V).ino i=noIno:=if_neg e
   rw[this];exact⟨⟨rfl,rfl⟩,by decide⟩
 ·have e:=fresh_kind (V:=V) (i:=d) (by omega);subst e;rfl
 ·exact absurd (fresh_blocks V d k n hkn) hn
 ·have e:=fresh_kind (V:=V) (i:=i) (by omega);subst e;rw[fresh_root]at hk;exact absurd hk (by decide)
theorem dirE_noTab(x:List UInt8):dirE noTab x=0:=by
 by_cases h:x=[]
 ·rw[h,dirE_nil]
 ·refine dirE_no fun j hj=> ?_;rw[noTab_at];exact fun e=>h e.symm
theorem Sim.fresh(V:List UInt8):Sim (freshV V) (fun _=>noTab) (fun _ _=>0) qu (fun _=>0):=by
 refine⟨⟨fresh_hold V,⟨by rw[fresh_root];rfl,rfl⟩,fun i j _ _ _ _ hi hj _=> ?_,fun i _ _ _=>by decide,fun i _ _ _=>rfl,fun i i1 i2 hk=> ?_,fun d d1 d2 hk x=> ?_,fun d d1 d2 hk x hx=> ?_⟩,⟨fun i i1 i2=> ?_,fun i i1 i2 hk=> ?_,fun i i1 i2 hk=> ?_,fun k fd _ _ h=>absurd rfl h⟩,fun k hk fd=> ?_⟩
 ·rw[fresh_kind hi,fresh_kind hj]
 ·have e:=fresh_kind (V:=V) (i:=i) (by omega);subst e;rw[fresh_root]at hk;exact absurd hk (by decide)
 ·rw[dirE_noTab,if_pos rfl];rfl
 ·exact absurd (dirE_noTab x) hx
 ·have h0:lk (freshV V) (fun _=>noTab) i=0:=linkD_none _ _ _;rw[h0];unfold wantL;by_cases e:i=1
  ·subst e;rw[fresh_root];rfl
  ·have:(freshV V).ino i=noIno:=if_neg e
   rw[this];rfl
 ·have e:=fresh_kind (V:=V) (i:=i) (by omega);subst e;rw[fresh_root]at hk;exact absurd hk (by decide)
 ·have e:=fresh_kind (V:=V) (i:=i) (by omega);subst e;rw[fresh_root]at hk;exact absurd hk (by decide)
 ·rw[if_neg (fun e=>e.2.2 rfl)];rfl
end Gd
end Go.Proofs.YtjlpkbhgphjpeaaGreatDoor
