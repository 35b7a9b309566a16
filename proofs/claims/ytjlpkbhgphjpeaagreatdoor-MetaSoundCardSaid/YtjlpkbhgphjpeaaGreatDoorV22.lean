/- Walks: the document's Do, a call after another. -/
import Derived.Test.YtjlpkbhgphjpeaaGreatDoorV20
import Derived.Test.YtjlpkbhgphjpeaaGreatDoorV21
set_option linter.unusedVariables false
set_option linter.unusedSimpArgs false
set_option linter.unusedSectionVars false
set_option maxHeartbeats 8000000
set_option maxRecDepth 100000
namespace Go.Proofs.YtjlpkbhgphjpeaaGreatDoor
open Go.RowKit
open Lib(hid)
open Go.Proofs.Tryz
theorem uB(r:Nat)(S:Pz.Fil)(cl kind:Int)(flags fd off n:Int)(p p2 data:ByteArray)(w:World)(F:Nat→Prop)(hc1:1≤cl)(hc2:cl≤8)(R:Pz.Fil×Pz.Rep)(f:FuncId)(L:List Value)(hk:(kind=1∧f=76∧L=[.int .i64 cl])∨(kind=8∧f=83∧L=[])∨(kind=9∧f=84∧L=[])∨(kind=11∧f=86∧L=[])∨(kind=12∧f=87∧L=[])∨(kind=13∧f=87∧L=[]))(hX:∀W G,zl r S W G→Calls prog f (.pointer (some ⟨r,0,none⟩)::L++[zN kind p p2 flags fd off n data]).toArray W (jU (zl r) R W G))(hR:zl r S w F):
 Calls prog 37 #[.pointer (some ⟨r,0,none⟩),.int .i64 cl,zN kind p p2 flags fd off n data] w (jU (zl r) R w F):=by
 have FX:=pst hR kind p p2 flags fd off n data;clear hR;obtain⟨S1,e0,e1,e2,e3,e4,e5,e6⟩:=R;rcases hk with⟨rfl,rfl,rfl⟩|⟨rfl,rfl,rfl⟩|⟨rfl,rfl,rfl⟩|⟨rfl,rfl,rfl⟩|⟨rfl,rfl,rfl⟩|⟨rfl,rfl,rfl⟩
 all_goals
  simp only[List.cons_append,List.nil_append]at hX;have HX:=hid hX;clear hX;unfold zN at HX⊢;go_enter func37,ntmps37;go_wp2_with fail
  refine(HX.o _ _ FX.o.inv).mono ?_
  rintro e wz ⟨A,cn,rfl,hS,hi,ho⟩;have FXz:=hid (FX.o.write (zl.held _ _) hi ho);have HSz:=hid (hS.low (B':=w.heap.size+2) (by first|(simp;done)|(simp;omega)|exact FX.o.st.size));clear hS hi ho;unfold xf;obtain⟨c0,c1,c2,c3,c4,c5,c6,f0,f1,f2,f3,f4,f5,f6⟩:=zD FXz.o.res;go_wp2;try simp only[Exit.inBlock,Exit.then]
  exact z7 rfl FXz.o A cn HSz.o
theorem UN(r:Nat)(S:Pz.Fil)(cl:Int)(flags fd off n:Int)(p p2 data:ByteArray)(w:World)(F:Nat→Prop)(hc1:1≤cl)(hc2:cl≤8)(hG:Pz.Good 1000 S)(R:Pz.Fil×Pz.Rep)(m:Nat)(hm:Pz.ofd S.O cl fd=m)(hX:∀W G,zl r S W G→Calls prog 78 #[.pointer (some ⟨r,0,none⟩),.int .i64 cl,.int .i64 m,zN 2 p p2 flags fd off n data] W (jU (zl r) R W G))(hR:zl r S w F):
 Calls prog 37 #[.pointer (some ⟨r,0,none⟩),.int .i64 cl,zN 2 p p2 flags fd off n data] w (jU (zl r) R w F):=by
 have FX:=pst hR 2 p p2 flags fd off n data;clear hR;obtain⟨S1,e0,e1,e2,e3,e4,e5,e6⟩:=R;have HX:=hid hX;have hOl:=hG.o;have ho:=fun W G (hR:zl r S W G)=>yG 0 r S cl fd W (by omega) hR.is;rw[hm]at ho;have HO:=hid ho;clear hX ho hOl hG hm;unfold zN at HX⊢;have hm1:(0:Int)≤m:=by omega
 go_enter func37,ntmps37;go_wp2_with fail
 refine prd FX HO fun w1 FX1=> ?_;obtain⟨b0,b1,b2,b3,b4,b5,b6,b7⟩:=FX1.o.c8;go_wp2_with fail
 refine(HX.o _ _ FX1.o.inv).mono ?_
 rintro e wz ⟨A,cn,rfl,hS,hi,ho⟩;have FXz:=hid (FX1.o.write (zl.held _ _) hi ho);have HSz:=hid (hS.low (B':=w.heap.size+2) (by first|(simp;done)|(simp;omega)|exact FX1.o.st.size));clear hS hi ho;unfold xf;obtain⟨c0,c1,c2,c3,c4,c5,c6,f0,f1,f2,f3,f4,f5,f6⟩:=zD FXz.o.res;go_wp2;try simp only[Exit.inBlock,Exit.then]
 exact z7 rfl FXz.o A cn HSz.o
theorem Ut(r:Nat)(S:Pz.Fil)(cl:Int)(flags fd off n:Int)(p p2 data:ByteArray)(w:World)(F:Nat→Prop)(hc1:1≤cl)(hc2:cl≤8)(hG:Pz.Good 1000 S)(hm:Pz.ofd S.O cl fd<0)(hR:zl r S w F):
 Calls prog 37 #[.pointer (some ⟨r,0,none⟩),.int .i64 cl,zN 2 p p2 flags fd off n data] w (jU (zl r) (S,Pz.er 16) w F):=by
 have FX:=pst hR 2 p p2 flags fd off n data;clear hR;have hOl:=hG.o;have ho:=fun W G (hR:zl r S W G)=>yG 0 r S cl fd W (by omega) hR.is;generalize Pz.ofd S.O cl fd=z at ho hm;have HO:=hid ho;clear ho hOl hG;unfold zN;go_enter func37,ntmps37;go_wp2_with fail
 refine prd FX HO fun w1 FX1=> ?_;obtain⟨b0,b1,b2,b3,b4,b5,b6,b7⟩:=FX1.o.c8;go_wp2_with fail
 refine z5 FX1.o 16 fun wf FXF=> ?_;obtain⟨c0,c1,c2,c3,c4,c5,c6,f0,f1,f2,f3,f4,f5,f6⟩:=zD FXF.o.res;go_wp2;try simp only[Exit.inBlock,Exit.then]
 exact z7 rfl FXF.o none 0 (Or.inl rfl)
theorem VM(r:Nat)(S:Pz.Fil)(cl:Int)(kind:Int)(flags fd off n:Int)(p p2 data:ByteArray)(w:World)(F:Nat→Prop)(hc:cl<1∨8<cl)(hR:zl r S w F):
 Calls prog 37 #[.pointer (some ⟨r,0,none⟩),.int .i64 cl,zN kind p p2 flags fd off n data] w (jU (zl r) (S,Pz.er 1) w F):=by
 have FX:=pst hR kind p p2 flags fd off n data;clear hR;unfold zN;by_cases h1:cl<1
 ·clear hc;go_enter func37,ntmps37;go_wp2_with fail
  refine z5 FX.o 1 fun wf FXF=> ?_;obtain⟨c0,c1,c2,c3,c4,c5,c6,f0,f1,f2,f3,f4,f5,f6⟩:=zD FXF.o.res;go_wp2;try simp only[Exit.inBlock,Exit.then]
  exact z7 rfl FXF.o none 0 (Or.inl rfl)
 have h2:8<cl:=hc.resolve_left h1;have h1':1≤cl:=by omega
 clear hc h1;go_enter func37,ntmps37;go_wp2_with fail
 refine z5 FX.o 1 fun wf FXF=> ?_;obtain⟨c0,c1,c2,c3,c4,c5,c6,f0,f1,f2,f3,f4,f5,f6⟩:=zD FXF.o.res;go_wp2;try simp only[Exit.inBlock,Exit.then]
 exact z7 rfl FXF.o none 0 (Or.inl rfl)
theorem YD(r:Nat)(S:Pz.Fil)(cl:Int)(kind:Int)(flags fd off n:Int)(p p2 data:ByteArray)(w:World)(F:Nat→Prop)(hc1:1≤cl)(hc2:cl≤8)(hk:kind<1∨13<kind)(hR:zl r S w F):
 Calls prog 37 #[.pointer (some ⟨r,0,none⟩),.int .i64 cl,zN kind p p2 flags fd off n data] w (jU (zl r) (S,Pz.er 15) w F):=by
 have FX:=pst hR kind p p2 flags fd off n data;clear hR;have k1:(kind==1)=false:=by rw[beq_eq_false_iff_ne];omega
 have k2:(kind==2)=false:=by rw[beq_eq_false_iff_ne];omega
 have k3:(kind==3)=false:=by rw[beq_eq_false_iff_ne];omega
 have k4:(kind==4)=false:=by rw[beq_eq_false_iff_ne];omega
 have k5:(kind==5)=false:=by rw[beq_eq_false_iff_ne];omega
 have k6:(kind==6)=false:=by rw[beq_eq_false_iff_ne];omega
 have k7:(kind==7)=false:=by rw[beq_eq_false_iff_ne];omega
 have k8:(kind==8)=false:=by rw[beq_eq_false_iff_ne];omega
 have k9:(kind==9)=false:=by rw[beq_eq_false_iff_ne];omega
 have ka:(kind==10)=false:=by rw[beq_eq_false_iff_ne];omega
 have kb:(kind==11)=false:=by rw[beq_eq_false_iff_ne];omega
 have kc:(kind==12)=false:=by rw[beq_eq_false_iff_ne];omega
 have kd:(kind==13)=false:=by rw[beq_eq_false_iff_ne];omega
 clear hk;unfold zN;go_enter func37,ntmps37;go_wp2_with fail
 refine z5 FX.o 15 fun wf FXF=> ?_;obtain⟨c0,c1,c2,c3,c4,c5,c6,f0,f1,f2,f3,f4,f5,f6⟩:=zD FXF.o.res;go_wp2;try simp only[Exit.inBlock,Exit.then]
 exact z7 rfl FXF.o none 0 (Or.inl rfl)
theorem UM(r:Nat)(S:Pz.Fil)(cl:Int)(flags fd off n:Int)(p p2 data:ByteArray)(w:World)(F:Nat→Prop)(hc1:1≤cl)(hc2:cl≤8)(hp:p.size≤100000)(hG:Pz.Good 1000 S)(hR:zl r S w F):
 Calls prog 37 #[.pointer (some ⟨r,0,none⟩),.int .i64 cl,zN 7 p p2 flags fd off n data] w (jU (zl r) (Pz.mkdir S p.data.toList) w F):=by
 have FX:=pst hR 7 p p2 flags fd off n data;clear hR;have hE:=hG.e;have hN:=hG.n;have h1:=fun W G (hR:zl r S W G)=>jp 0 r S p W hp (by omega) (by omega) hG.ok hR.is;have h2:=fun W G (hR:zl r S W G)=>jn 0 r S p W hp (by omega) (by omega) hG.ok hR.is;obtain⟨R,hres⟩:=nm (Pz.mkdir S p.data.toList);rw[←hres];unfold zN
 cases hf:Pz.find S p.data.toList with
 |ok m=>
  have HResF:Hid (R=(S,Pz.er 11)):=hid (by rw[hres,Pz.mkdir,hf]);rw[hf]at h1;simp only[toT]at h1;have HF:=hid h1;clear h1 h2 hG hE hN hf hres;go_enter func37,ntmps37;go_wp2_with fail
  refine prd FX HF fun w1 FX1=> ?_;go_wp2_with fail
  refine z5 FX1.o 11 fun wf FXF=> ?_;obtain⟨c0,c1,c2,c3,c4,c5,c6,f0,f1,f2,f3,f4,f5,f6⟩:=zD FXF.o.res;go_wp2;try simp only[Exit.inBlock,Exit.then]
  exact z7 HResF.o FXF.o none 0 (Or.inl rfl)
 |error v=>
  obtain⟨hv1,hv2,hv3⟩:=jq (Pz.find_err hf);rw[hf]at h1;simp only[toT]at h1;have HF:=hid h1
  cases hpl:Pz.place S p.data.toList with
  |error g=>
   have HResF:Hid (R=(S,Pz.er g)):=hid (by rw[hres,Pz.mkdir,hf,hpl]);obtain⟨hg1,hg2,hg3⟩:=jq (Pz.place_err hpl);rw[hpl]at h2;simp only[toP]at h2;have HP:=hid h2;clear h1 h2 hG hE hN hf hres hpl;go_enter func37,ntmps37;go_wp2_with fail
   refine prd FX HF fun w1 FX1=> ?_;obtain⟨b0,b1,b2,b3,b4,b5,b6,b7⟩:=FX1.o.c8;go_wp2_with fail
   refine prd FX1 HP fun w2 FX2=> ?_;clear b0 b1 b2 b3 b4 b5 b6 b7;go_wp2_with fail
   refine z5 FX2.o g fun wf FXF=> ?_;obtain⟨c0,c1,c2,c3,c4,c5,c6,f0,f1,f2,f3,f4,f5,f6⟩:=zD FXF.o.res;go_wp2;try simp only[Exit.inBlock,Exit.then]
   exact z7 HResF.o FXF.o none 0 (Or.inl rfl)
  |ok dx=>
   obtain⟨d,x⟩:=dx;have HResF:Hid (R=({S with N:=S.N++[⟨true,[],1⟩],E:=S.E++[⟨d,x,S.N.length⟩]},Pz.er 0)):=hid (by rw[hres,Pz.mkdir,hf,hpl]);rw[hpl]at h2;simp only[toP]at h2;have HP:=hid h2;have HNode:=hid fun W G (h:zl r S W G)=>Z7 r S true W G (by omega) h;have HPut:=hid fun W G (h:zl r {S with N:=S.N++[⟨true,[],1⟩]} W G)=>qs r {S with N:=S.N++[⟨true,[],1⟩]} d S.N.length ⟨x.toArray⟩ W G (show S.E.length≤_ by omega) h;clear h1 h2 hG hE hN hf hres hpl;go_enter func37,ntmps37;go_wp2_with fail
   refine prd FX HF fun w1 FX1=> ?_;obtain⟨b0,b1,b2,b3,b4,b5,b6,b7⟩:=FX1.o.c8;go_wp2_with fail
   refine prd FX1 HP fun w2 FX2=> ?_;clear b0 b1 b2 b3 b4 b5 b6 b7;go_wp2_with fail
   refine pwr FX2 HNode fun w3 FX3=> ?_;go_wp2_with fail
   refine pwr FX3 HPut fun w4 FX4=> ?_;go_wp2_with fail
   refine z5 FX4.o 0 fun wf FXF=> ?_;obtain⟨c0,c1,c2,c3,c4,c5,c6,f0,f1,f2,f3,f4,f5,f6⟩:=zD FXF.o.res;go_wp2;try simp only[Exit.inBlock,Exit.then]
   exact z7 HResF.o FXF.o none 0 (Or.inl rfl)
theorem Uu(r:Nat)(S:Pz.Fil)(cl:Int)(flags fd off n:Int)(p p2 data:ByteArray)(w:World)(F:Nat→Prop)(hc1:1≤cl)(hc2:cl≤8)(hp:p.size≤100000)(hG:Pz.Good 1000 S)(hR:zl r S w F):
 Calls prog 37 #[.pointer (some ⟨r,0,none⟩),.int .i64 cl,zN 10 p p2 flags fd off n data] w (jU (zl r) (Pz.unlink S p.data.toList) w F):=by
 have FX:=pst hR 10 p p2 flags fd off n data;clear hR;have hE:=hG.e;have hN:=hG.n;have h1:=fun W G (hR:zl r S W G)=>jp 0 r S p W hp (by omega) (by omega) hG.ok hR.is;have h2:=fun W G (hR:zl r S W G)=>jn 0 r S p W hp (by omega) (by omega) hG.ok hR.is;obtain⟨R,hres⟩:=nm (Pz.unlink S p.data.toList);rw[←hres];unfold zN
 cases hf:Pz.find S p.data.toList with
 |error v=>
  have HResF:Hid (R=(S,Pz.er v)):=hid (by rw[hres,Pz.unlink,hf]);obtain⟨hv1,hv2,hv3⟩:=jq (Pz.find_err hf);rw[hf]at h1;simp only[toT]at h1;have HF:=hid h1;clear h1 h2 hG hE hN hf hres;go_enter func37,ntmps37;go_wp2_with fail
  refine prd FX HF fun w1 FX1=> ?_;go_wp2_with fail
  refine z5 FX1.o v fun wf FXF=> ?_;obtain⟨c0,c1,c2,c3,c4,c5,c6,f0,f1,f2,f3,f4,f5,f6⟩:=zD FXF.o.res;go_wp2;try simp only[Exit.inBlock,Exit.then]
  exact z7 HResF.o FXF.o none 0 (Or.inl rfl)
 |ok m=>
  have hm:=Pz.find_lt hG.ok hf;rw[hf]at h1;simp only[toT]at h1;have HF:=hid h1;have HD:=hid fun W G (h:zl r S W G)=>h.dirAt hm;obtain⟨q,hq⟩:=nm S.N.length;have Hq:=hid hq;have hm1:(0:Int)≤m:=by omega
  have hm2:(m:Int)<q:=by omega
  cases hD:Pz.isDir S.N m with
  |true=>
   have HResF:Hid (R=(S,Pz.er 13)):=hid (by rw[hres,Pz.unlink,hf];simp only[hD,if_true]);rw[←hq,hD]at HD;clear h1 h2 hG hE hN hf hres hq hm hD;go_enter func37,ntmps37;go_wp2_with fail
   refine prd FX HF fun w1 FX1=> ?_;obtain⟨b,c,g,g0,_,_⟩:=HD.o _ _ FX1.o.inv;go_wp2_with fail
   refine z5 FX1.o 13 fun wf FXF=> ?_;obtain⟨c0,c1,c2,c3,c4,c5,c6,f0,f1,f2,f3,f4,f5,f6⟩:=zD FXF.o.res;go_wp2;try simp only[Exit.inBlock,Exit.then]
   exact z7 HResF.o FXF.o none 0 (Or.inl rfl)
  |false=>
   have h47:¬p.data.toList=[47]:=by
    intro e;rw[e,Pz.find_root]at hf
    cases hf
    rw[hG.root]at hD
    cases hD
   obtain⟨d,x,hpl,hlk,hdd⟩:=Pz.place_of_find hf h47;obtain⟨l,hl⟩:=nm ((Pz.nodeD S.N m).links);obtain⟨hlb1,hlb2⟩:l≤20∧ -1000≤l:=by rw[hl];exact Pz.nodeD_links hG hm
   have HResF:Hid (R=({S with E:=Pz.take S.E d x,N:=S.N.set m {Pz.nodeD S.N m with links:=l-1}},Pz.er 0)):=hid (by
    rw[hres,Pz.unlink,hf];simp only[hD,Bool.false_eq_true,if_false,hpl,hl])
   rw[hpl]at h2;simp only[toP]at h2;have HP:=hid h2;have HT:=hid fun W G (h:zl r S W G)=>jV r S d ⟨x.toArray⟩ W G (by omega) h;have hD2:=fun W G (h:zl r {S with E:=Pz.take S.E d x} W G)=>h.nodeAt (show m<S.N.length from hm);rw[show({S with E:=Pz.take S.E d x}:Pz.Fil).N.length=q from hq.symm,show(Pz.nodeD ({S with E:=Pz.take S.E d x}:Pz.Fil).N m).links=l from hl.symm]at hD2;have HD2:=hid hD2;rw[←hq,hD]at HD;clear h1 h2 hG hE hN hf hres hq hm hD hpl hlk hdd hl hD2 h47;go_enter func37,ntmps37;go_wp2_with fail
   refine prd FX HF fun w1 FX1=> ?_;obtain⟨b,c,g,g0,_,_⟩:=HD.o _ _ FX1.o.inv;obtain⟨b0,b1,b2,b3,b4,b5,b6,b7⟩:=FX1.o.c8;go_wp2_with fail
   refine prd FX1 HP fun w2 FX2=> ?_;clear b0 b1 b2 b3 b4 b5 b6 b7;clear g g0;go_wp2_with fail
   refine pwr FX2 HT fun w3 FX3=> ?_;obtain⟨b5,c5,g5,_,_,g52,_,f52,_,hst⟩:=HD2.o _ _ FX3.o.inv;have FX4:=hid (FX3.o.put (zl.held _ _) (hst (l-1)).1 (hst (l-1)).2);clear hst;obtain⟨c0,c1,c2,c3,c4,c5,c6,f0,f1,f2,f3,f4,f5,f6⟩:=zD FX4.o.res;go_wp2;try simp only[Exit.inBlock,Exit.then]
   exact z7 HResF.o FX4.o none 0 (Or.inl rfl)
theorem Xf{S:Pz.Fil}{p p2:ByteArray}(h:uc S p p2){v:Int}(hf:Pz.find S p.data.toList= .error v):Pz.rename S p.data.toList p2.data.toList=(S,Pz.er v):=by
 rw[Pz.rename,if_neg (by
  rintro(g|g|g|g)
  ·exact h.ok (Or.inl g)
  ·exact h.ok (Or.inr g)
  ·exact h.h1 g
  ·exact h.h2 g),hf]
theorem ZO(r:Nat)(S:Pz.Fil)(kind flags fd off n:Int)(p p2 data:ByteArray)(w:World)(F:Nat→Prop)(hp:p.size≤100000)(hp2:p2.size≤100000)(hG:Pz.Good 1000 S)(hR:zl r S w F):
 Calls prog 86 #[.pointer (some ⟨r,0,none⟩),zN kind p p2 flags fd off n data] w (jU (zl r) (Pz.rename S p.data.toList p2.data.toList) w F):=by
 by_cases hbad:Np.pathL p.data.toList=none∨Np.pathL p2.data.toList=none∨p.data.toList=[47]∨p2.data.toList=[47]
 ·rw[Pz.rename,if_pos hbad];exact ZN r S kind flags fd off n p p2 data w F hp hp2 hbad hR
 have hpre:uc S p p2:=⟨hp,hp2,hG,fun h=>hbad (h.elim Or.inl fun h=>Or.inr (Or.inl h)),fun h=>hbad (Or.inr (Or.inr (Or.inl h))),fun h=>hbad (Or.inr (Or.inr (Or.inr h)))⟩
 cases hf:Pz.find S p.data.toList with
 |error v=>
  rw[Xf hpre hf];exact ZL r S kind flags fd off n p p2 data w F hpre v hf hR
 |ok m=>
  cases hD:Pz.isDir S.N m with
  |true=>exact ZM r S kind flags fd off n p p2 data w F hpre m hf hD hR
  |false=>exact uX r S kind flags fd off n p p2 data w F hpre m hf hD hR
theorem Xa(r:Nat)(S:Pz.Fil)(cl kind flags fd off n:Int)(p p2 data:ByteArray)(w:World)(F:Nat→Prop)(hp:p.size≤100000)(hG:Pz.Good 1000 S)(hR:zl r S w F):
 Calls prog 76 #[.pointer (some ⟨r,0,none⟩),.int .i64 cl,zN kind p p2 flags fd off n data] w (jU (zl r) (Pz.opens S cl flags p.data.toList) w F):=by
 by_cases hfl:flags=0∨flags=1∨flags=3
 ·have hpre:yw S p:=⟨hp,hG⟩;rw[Pz.opens,if_neg (fun h=>h hfl)]
  cases hf:Pz.find S p.data.toList with
  |ok m=>
   rcases hfl with rfl|rfl|rfl
   ·exact ZP r S cl kind 0 fd off n p p2 data w F (Or.inl rfl) hpre m hf _ rfl hR
   ·exact ZP r S cl kind 1 fd off n p p2 data w F (Or.inr rfl) hpre m hf _ rfl hR
   ·exact Q8 r S cl kind fd off n p p2 data w F hpre m hf hR
  |error v=>
   by_cases hv:v=10
   ·subst hv
    cases hpl:Pz.place S p.data.toList with
    |error g=>
     rcases hfl with rfl|rfl|rfl
     ·exact j7 r S cl kind 0 fd off n p p2 data w F (Or.inl rfl) hpre 10 hf (Or.inl rfl) hR
     ·exact j7 r S cl kind 1 fd off n p p2 data w F (Or.inr (Or.inl rfl)) hpre 10 hf (Or.inr (Or.inr ⟨g,hpl⟩)) hR
     ·exact j7 r S cl kind 3 fd off n p p2 data w F (Or.inr (Or.inr rfl)) hpre 10 hf (Or.inr (Or.inr ⟨g,hpl⟩)) hR
    |ok dx=>
     obtain⟨d,x⟩:=dx;rcases hfl with rfl|rfl|rfl
     ·exact j7 r S cl kind 0 fd off n p p2 data w F (Or.inl rfl) hpre 10 hf (Or.inl rfl) hR
     ·exact uy r S cl kind 1 fd off n p p2 data w F (Or.inl rfl) hpre hf d x hpl _ rfl hR
     ·exact uy r S cl kind 3 fd off n p p2 data w F (Or.inr rfl) hpre hf d x hpl _ rfl hR
   ·simp only[hv,false_and,if_false];rcases hfl with rfl|rfl|rfl
    ·exact j7 r S cl kind 0 fd off n p p2 data w F (Or.inl rfl) hpre v hf (Or.inl rfl) hR
    ·exact j7 r S cl kind 1 fd off n p p2 data w F (Or.inr (Or.inl rfl)) hpre v hf (Or.inr (Or.inl hv)) hR
    ·exact j7 r S cl kind 3 fd off n p p2 data w F (Or.inr (Or.inr rfl)) hpre v hf (Or.inr (Or.inl hv)) hR
 ·rw[Pz.opens,if_pos hfl];exact Q9 r S cl kind flags fd off n p p2 data w F hfl hR
theorem VN(r:Nat)(S:Pz.Fil)(cl kind flags fd off n:Int)(p p2 data:ByteArray)(w:World)(F:Nat→Prop)(hp:p.size≤100000)(hp2:p2.size≤100000)(hq:kind<3∨6<kind)(hG:Pz.Good 1000 S)(hR:zl r S w F):
 Calls prog 37 #[.pointer (some ⟨r,0,none⟩),.int .i64 cl,zN kind p p2 flags fd off n data] w (jU (zl r) (Pz.doA S cl kind p.data.toList p2.data.toList flags fd off n data.data.toList) w F):=by
 unfold Pz.doA;by_cases hc:cl<1∨8<cl
 ·rw[if_pos hc];exact VM r S cl kind flags fd off n p p2 data w F hc hR
 rw[if_neg hc];have hc1:1≤cl:=by omega
 have hc2:cl≤8:=by omega
 by_cases hk:kind<1∨13<kind
 ·repeat rw[if_neg (by omega)]
  exact YD r S cl kind flags fd off n p p2 data w F hc1 hc2 hk hR
 have hk3:kind=1∨kind=2∨kind=7∨kind=8∨kind=9∨kind=10∨kind=11∨kind=12∨kind=13:=by omega
 rcases hk3 with rfl|rfl|rfl|rfl|rfl|rfl|rfl|rfl|rfl
 ·rw[if_pos rfl];exact uB r S cl 1 flags fd off n p p2 data w F hc1 hc2 _ _ _ (Or.inl ⟨rfl,rfl,rfl⟩) (fun W G h=>Xa r S cl 1 flags fd off n p p2 data W G hp hG h) hR
 ·rw[if_neg (by omega),if_pos (by omega)];by_cases hz:Pz.ofd S.O cl fd<0
  ·rw[if_pos hz];exact Ut r S cl flags fd off n p p2 data w F hc1 hc2 hG hz hR
  ·rw[if_neg hz];obtain⟨m,hm⟩:∃m:Nat,Pz.ofd S.O cl fd=m:=⟨(Pz.ofd S.O cl fd).toNat,by omega⟩;have hlt:m<S.N.length:=by have:=Pz.ofd_lt (c:=cl) (fd:=fd) hG.ok.opn;omega
   rw[hm,Int.toNat_natCast];exact UN r S cl flags fd off n p p2 data w F hc1 hc2 hG _ m hm (fun W G h=>ZR r S cl m flags fd off n p p2 data W G hG hlt h) hR
 ·exact UM r S cl flags fd off n p p2 data w F hc1 hc2 hp hG hR
 ·exact uB r S cl 8 flags fd off n p p2 data w F hc1 hc2 _ _ _ (Or.inr (Or.inl ⟨rfl,rfl,rfl⟩)) (fun W G h=>JJ r S 8 flags fd off n p p2 data W G hp hG h) hR
 ·exact uB r S cl 9 flags fd off n p p2 data w F hc1 hc2 _ _ _ (Or.inr (Or.inr (Or.inl ⟨rfl,rfl,rfl⟩))) (fun W G h=>Xe r S 9 flags fd off n p p2 data W G hp hp2 hG h) hR
 ·exact Uu r S cl flags fd off n p p2 data w F hc1 hc2 hp hG hR
 ·exact uB r S cl 11 flags fd off n p p2 data w F hc1 hc2 _ _ _ (Or.inr (Or.inr (Or.inr (Or.inl ⟨rfl,rfl,rfl⟩)))) (fun W G h=>ZO r S 11 flags fd off n p p2 data W G hp hp2 hG h) hR
 ·exact uB r S cl 12 flags fd off n p p2 data w F hc1 hc2 _ _ _ (Or.inr (Or.inr (Or.inr (Or.inr (Or.inl ⟨rfl,rfl,rfl⟩))))) (fun W G h=>vm r S 12 flags fd off n p p2 data W G hp hG h) hR
 ·exact uB r S cl 13 flags fd off n p p2 data w F hc1 hc2 _ _ _ (Or.inr (Or.inr (Or.inr (Or.inr (Or.inr (⟨rfl,rfl,rfl⟩)))))) (fun W G h=>vm r S 13 flags fd off n p p2 data W G hp hG h) hR
end Go.Proofs.YtjlpkbhgphjpeaaGreatDoor
