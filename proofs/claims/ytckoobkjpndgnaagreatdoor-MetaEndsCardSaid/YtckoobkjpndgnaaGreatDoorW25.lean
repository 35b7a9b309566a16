/- Walks: the document's Do, a call after another. -/
import Derived.Test.YtckoobkjpndgnaaGreatDoorW21
import Derived.Test.YtckoobkjpndgnaaGreatDoorW24
set_option linter.unusedVariables false
set_option linter.unusedSimpArgs false
set_option linter.unusedSectionVars false
set_option maxHeartbeats 8000000
set_option maxRecDepth 100000
namespace Go.Proofs.YtckoobkjpndgnaaGreatDoor
open Go.RowKit
open Lib(hid)
open Go.Proofs.Tryz
theorem rdo_g(r:Nat)(S:Pz.Fil)(cl kind:Int)(flags fd off n:Int)(p p2 data:ByteArray)(w:World)(F:Nat→Prop)(hc1:1≤cl)(hc2:cl≤8)(R:Pz.Fil×Pz.Rep)(f:FuncId)(L:List Value)(hk:(kind=1∧f=48∧L=[.int .i64 cl])∨(kind=8∧f=55∧L=[])∨(kind=9∧f=56∧L=[])∨(kind=11∧f=58∧L=[])∨(kind=12∧f=59∧L=[])∨(kind=13∧f=59∧L=[]))(hX:∀W G,RefF r S W G→Calls prog f (.pointer (some ⟨r,0,none⟩)::L++[callV kind p p2 flags fd off n data]).toArray W (Does (RefF r) R W G))(hR:RefF r S w F):
 Calls prog 20 #[.pointer (some ⟨r,0,none⟩),.int .i64 cl,callV kind p p2 flags fd off n data] w (Does (RefF r) R w F):=by
 have FX:=pst hR kind p p2 flags fd off n data;clear hR;obtain⟨S1,e0,e1,e2,e3,e4,e5,e6⟩:=R;rcases hk with⟨rfl,rfl,rfl⟩|⟨rfl,rfl,rfl⟩|⟨rfl,rfl,rfl⟩|⟨rfl,rfl,rfl⟩|⟨rfl,rfl,rfl⟩|⟨rfl,rfl,rfl⟩
 all_goals
  simp only[List.cons_append,List.nil_append]at hX;have HX:=hid hX;clear hX;unfold callV at HX⊢;go_enter func20,ntmps20;go_wp2_with fail
  refine(HX.o _ _ FX.o.inv).mono ?_
  rintro e wz ⟨A,cn,rfl,hS,hi,ho⟩;have FXz:=hid (FX.o.write (RefF.held _ _) hi ho);have HSz:=hid (hS.low (B':=w.heap.size+2) (by first|(simp;done)|(simp;omega)|exact FX.o.st.size));clear hS hi ho;unfold repV;obtain⟨c0,c1,c2,c3,c4,c5,c6,f0,f1,f2,f3,f4,f5,f6⟩:=pcells FXz.o.res;go_wp2;try simp only[Exit.inBlock,Exit.then]
  exact pret rfl FXz.o A cn HSz.o
theorem rdo_2(r:Nat)(S:Pz.Fil)(cl:Int)(flags fd off n:Int)(p p2 data:ByteArray)(w:World)(F:Nat→Prop)(hc1:1≤cl)(hc2:cl≤8)(hG:Pz.Good 1000 S)(R:Pz.Fil×Pz.Rep)(m:Nat)(hm:Pz.ofd S.O cl fd=m)(hX:∀W G,RefF r S W G→Calls prog 50 #[.pointer (some ⟨r,0,none⟩),.int .i64 cl,.int .i64 m,callV 2 p p2 flags fd off n data] W (Does (RefF r) R W G))(hR:RefF r S w F):
 Calls prog 20 #[.pointer (some ⟨r,0,none⟩),.int .i64 cl,callV 2 p p2 flags fd off n data] w (Does (RefF r) R w F):=by
 have FX:=pst hR 2 p p2 flags fd off n data;clear hR;obtain⟨S1,e0,e1,e2,e3,e4,e5,e6⟩:=R;have HX:=hid hX;have hOl:=hG.o;have ho:=fun W G (hR:RefF r S W G)=>of_any 0 r S cl fd W (by omega) hR.is;rw[hm]at ho;have HO:=hid ho;clear hX ho hOl hG hm;unfold callV at HX⊢;have hm1:(0:Int)≤m:=by omega
 go_enter func20,ntmps20;go_wp2_with fail
 refine prd FX HO fun w1 FX1=> ?_;obtain⟨b0,b1,b2,b3,b4,b5,b6,b7⟩:=FX1.o.c8;go_wp2_with fail
 refine(HX.o _ _ FX1.o.inv).mono ?_
 rintro e wz ⟨A,cn,rfl,hS,hi,ho⟩;have FXz:=hid (FX1.o.write (RefF.held _ _) hi ho);have HSz:=hid (hS.low (B':=w.heap.size+2) (by first|(simp;done)|(simp;omega)|exact FX1.o.st.size));clear hS hi ho;unfold repV;obtain⟨c0,c1,c2,c3,c4,c5,c6,f0,f1,f2,f3,f4,f5,f6⟩:=pcells FXz.o.res;go_wp2;try simp only[Exit.inBlock,Exit.then]
 exact pret rfl FXz.o A cn HSz.o
theorem rdo_2n(r:Nat)(S:Pz.Fil)(cl:Int)(flags fd off n:Int)(p p2 data:ByteArray)(w:World)(F:Nat→Prop)(hc1:1≤cl)(hc2:cl≤8)(hG:Pz.Good 1000 S)(hm:Pz.ofd S.O cl fd<0)(hR:RefF r S w F):
 Calls prog 20 #[.pointer (some ⟨r,0,none⟩),.int .i64 cl,callV 2 p p2 flags fd off n data] w (Does (RefF r) (S,Pz.er 16) w F):=by
 have FX:=pst hR 2 p p2 flags fd off n data;clear hR;have hOl:=hG.o;have ho:=fun W G (hR:RefF r S W G)=>of_any 0 r S cl fd W (by omega) hR.is;generalize Pz.ofd S.O cl fd=z at ho hm;have HO:=hid ho;clear ho hOl hG;unfold callV;go_enter func20,ntmps20;go_wp2_with fail
 refine prd FX HO fun w1 FX1=> ?_;obtain⟨b0,b1,b2,b3,b4,b5,b6,b7⟩:=FX1.o.c8;go_wp2_with fail
 refine pfail FX1.o 16 fun wf FXF=> ?_;obtain⟨c0,c1,c2,c3,c4,c5,c6,f0,f1,f2,f3,f4,f5,f6⟩:=pcells FXF.o.res;go_wp2;try simp only[Exit.inBlock,Exit.then]
 exact pret rfl FXF.o none 0 (Or.inl rfl)
theorem rdo_bad(r:Nat)(S:Pz.Fil)(cl:Int)(kind:Int)(flags fd off n:Int)(p p2 data:ByteArray)(w:World)(F:Nat→Prop)(hc:cl<1∨8<cl)(hR:RefF r S w F):
 Calls prog 20 #[.pointer (some ⟨r,0,none⟩),.int .i64 cl,callV kind p p2 flags fd off n data] w (Does (RefF r) (S,Pz.er 1) w F):=by
 have FX:=pst hR kind p p2 flags fd off n data;clear hR;unfold callV;by_cases h1:cl<1
 ·clear hc;go_enter func20,ntmps20;go_wp2_with fail
  refine pfail FX.o 1 fun wf FXF=> ?_;obtain⟨c0,c1,c2,c3,c4,c5,c6,f0,f1,f2,f3,f4,f5,f6⟩:=pcells FXF.o.res;go_wp2;try simp only[Exit.inBlock,Exit.then]
  exact pret rfl FXF.o none 0 (Or.inl rfl)
 have h2:8<cl:=hc.resolve_left h1;have h1':1≤cl:=by omega
 clear hc h1;go_enter func20,ntmps20;go_wp2_with fail
 refine pfail FX.o 1 fun wf FXF=> ?_;obtain⟨c0,c1,c2,c3,c4,c5,c6,f0,f1,f2,f3,f4,f5,f6⟩:=pcells FXF.o.res;go_wp2;try simp only[Exit.inBlock,Exit.then]
 exact pret rfl FXF.o none 0 (Or.inl rfl)
theorem rdo_none(r:Nat)(S:Pz.Fil)(cl:Int)(kind:Int)(flags fd off n:Int)(p p2 data:ByteArray)(w:World)(F:Nat→Prop)(hc1:1≤cl)(hc2:cl≤8)(hk:kind<1∨13<kind)(hR:RefF r S w F):
 Calls prog 20 #[.pointer (some ⟨r,0,none⟩),.int .i64 cl,callV kind p p2 flags fd off n data] w (Does (RefF r) (S,Pz.er 15) w F):=by
 have FX:=pst hR kind p p2 flags fd off n data;clear hR;have k1:(kind==1)=false:=by rw[beq_eq_false_iff_ne];omega
 have k2:(kind==2)=false:=by rw[beq_eq_false_iff_ne];omega
 have k3:(kind==3)=false:=by rw[beq_eq_false_iff_ne];omega
 have k4:(kind==4)=false:=by rw[beq_eq_false_iff_ne];omega
 have k5:(kind==5)=false:=by rw[beq_eq_false_iff_ne];omega
 have k6:(kind==6)=false:=by rw[beq_eq_false_iff_ne];omega
 have k7:(kind==7)=false:=by rw[beq_eq_false_iff_ne];omega
 have k8:(kind==8)=false:=by rw[beq_eq_false_iff_ne];omega
 have k9:(kind==9)=false:=by rw[beq_eq_false_iff_ne];omega
 have ka:(kind==10)=false:=by rw[beq_eq_false_iff_ne];omega
 have kb:(kind==11)=false:=by rw[beq_eq_false_iff_ne];omega
 have kc:(kind==12)=false:=by rw[beq_eq_false_iff_ne];omega
 have kd:(kind==13)=false:=by rw[beq_eq_false_iff_ne];omega
 clear hk;unfold callV;go_enter func20,ntmps20;go_wp2_with fail
 refine pfail FX.o 15 fun wf FXF=> ?_;obtain⟨c0,c1,c2,c3,c4,c5,c6,f0,f1,f2,f3,f4,f5,f6⟩:=pcells FXF.o.res;go_wp2;try simp only[Exit.inBlock,Exit.then]
 exact pret rfl FXF.o none 0 (Or.inl rfl)
theorem rdo_7(r:Nat)(S:Pz.Fil)(cl:Int)(flags fd off n:Int)(p p2 data:ByteArray)(w:World)(F:Nat→Prop)(hc1:1≤cl)(hc2:cl≤8)(hp:p.size≤100000)(hG:Pz.Good 1000 S)(hR:RefF r S w F):
 Calls prog 20 #[.pointer (some ⟨r,0,none⟩),.int .i64 cl,callV 7 p p2 flags fd off n data] w (Does (RefF r) (Pz.mkdir S p.data.toList) w F):=by
 have FX:=pst hR 7 p p2 flags fd off n data;clear hR;have hE:=hG.e;have hN:=hG.n;have h1:=fun W G (hR:RefF r S W G)=>pfind_any 0 r S p W hp (by omega) (by omega) hG.ok hR.is;have h2:=fun W G (hR:RefF r S W G)=>place_any 0 r S p W hp (by omega) (by omega) hG.ok hR.is;obtain⟨R,hres⟩:=nm (Pz.mkdir S p.data.toList);rw[←hres];unfold callV
 cases hf:Pz.find S p.data.toList with
 |ok m=>
  have HResF:Hid (R=(S,Pz.er 11)):=hid (by rw[hres,Pz.mkdir,hf]);rw[hf]at h1;simp only[toT]at h1;have HF:=hid h1;clear h1 h2 hG hE hN hf hres;go_enter func20,ntmps20;go_wp2_with fail
  refine prd FX HF fun w1 FX1=> ?_;go_wp2_with fail
  refine pfail FX1.o 11 fun wf FXF=> ?_;obtain⟨c0,c1,c2,c3,c4,c5,c6,f0,f1,f2,f3,f4,f5,f6⟩:=pcells FXF.o.res;go_wp2;try simp only[Exit.inBlock,Exit.then]
  exact pret HResF.o FXF.o none 0 (Or.inl rfl)
 |error v=>
  obtain⟨hv1,hv2,hv3⟩:=ne_of_err (Pz.find_err hf);rw[hf]at h1;simp only[toT]at h1;have HF:=hid h1
  cases hpl:Pz.place S p.data.toList with
  |error g=>
   have HResF:Hid (R=(S,Pz.er g)):=hid (by rw[hres,Pz.mkdir,hf,hpl]);obtain⟨hg1,hg2,hg3⟩:=ne_of_err (Pz.place_err hpl);rw[hpl]at h2;simp only[toP]at h2;have HP:=hid h2;clear h1 h2 hG hE hN hf hres hpl;go_enter func20,ntmps20;go_wp2_with fail
   refine prd FX HF fun w1 FX1=> ?_;obtain⟨b0,b1,b2,b3,b4,b5,b6,b7⟩:=FX1.o.c8;go_wp2_with fail
   refine prd FX1 HP fun w2 FX2=> ?_;clear b0 b1 b2 b3 b4 b5 b6 b7;go_wp2_with fail
   refine pfail FX2.o g fun wf FXF=> ?_;obtain⟨c0,c1,c2,c3,c4,c5,c6,f0,f1,f2,f3,f4,f5,f6⟩:=pcells FXF.o.res;go_wp2;try simp only[Exit.inBlock,Exit.then]
   exact pret HResF.o FXF.o none 0 (Or.inl rfl)
  |ok dx=>
   obtain⟨d,x⟩:=dx;have HResF:Hid (R=({S with N:=S.N++[⟨true,[],1⟩],E:=S.E++[⟨d,x,S.N.length⟩]},Pz.er 0)):=hid (by rw[hres,Pz.mkdir,hf,hpl]);rw[hpl]at h2;simp only[toP]at h2;have HP:=hid h2;have HNode:=hid fun W G (h:RefF r S W G)=>node_any r S true W G (by omega) h;have HPut:=hid fun W G (h:RefF r {S with N:=S.N++[⟨true,[],1⟩]} W G)=>pput_any r {S with N:=S.N++[⟨true,[],1⟩]} d S.N.length ⟨x.toArray⟩ W G (show S.E.length≤_ by omega) h;clear h1 h2 hG hE hN hf hres hpl;go_enter func20,ntmps20;go_wp2_with fail
   refine prd FX HF fun w1 FX1=> ?_;obtain⟨b0,b1,b2,b3,b4,b5,b6,b7⟩:=FX1.o.c8;go_wp2_with fail
   refine prd FX1 HP fun w2 FX2=> ?_;clear b0 b1 b2 b3 b4 b5 b6 b7;go_wp2_with fail
   refine pwr FX2 HNode fun w3 FX3=> ?_;go_wp2_with fail
   refine pwr FX3 HPut fun w4 FX4=> ?_;go_wp2_with fail
   refine pfail FX4.o 0 fun wf FXF=> ?_;obtain⟨c0,c1,c2,c3,c4,c5,c6,f0,f1,f2,f3,f4,f5,f6⟩:=pcells FXF.o.res;go_wp2;try simp only[Exit.inBlock,Exit.then]
   exact pret HResF.o FXF.o none 0 (Or.inl rfl)
theorem rdo_10(r:Nat)(S:Pz.Fil)(cl:Int)(flags fd off n:Int)(p p2 data:ByteArray)(w:World)(F:Nat→Prop)(hc1:1≤cl)(hc2:cl≤8)(hp:p.size≤100000)(hG:Pz.Good 1000 S)(hR:RefF r S w F):
 Calls prog 20 #[.pointer (some ⟨r,0,none⟩),.int .i64 cl,callV 10 p p2 flags fd off n data] w (Does (RefF r) (Pz.unlink S p.data.toList) w F):=by
 have FX:=pst hR 10 p p2 flags fd off n data;clear hR;have hE:=hG.e;have hN:=hG.n;have h1:=fun W G (hR:RefF r S W G)=>pfind_any 0 r S p W hp (by omega) (by omega) hG.ok hR.is;have h2:=fun W G (hR:RefF r S W G)=>place_any 0 r S p W hp (by omega) (by omega) hG.ok hR.is;obtain⟨R,hres⟩:=nm (Pz.unlink S p.data.toList);rw[←hres];unfold callV
 cases hf:Pz.find S p.data.toList with
 |error v=>
  have HResF:Hid (R=(S,Pz.er v)):=hid (by rw[hres,Pz.unlink,hf]);obtain⟨hv1,hv2,hv3⟩:=ne_of_err (Pz.find_err hf);rw[hf]at h1;simp only[toT]at h1;have HF:=hid h1;clear h1 h2 hG hE hN hf hres;go_enter func20,ntmps20;go_wp2_with fail
  refine prd FX HF fun w1 FX1=> ?_;go_wp2_with fail
  refine pfail FX1.o v fun wf FXF=> ?_;obtain⟨c0,c1,c2,c3,c4,c5,c6,f0,f1,f2,f3,f4,f5,f6⟩:=pcells FXF.o.res;go_wp2;try simp only[Exit.inBlock,Exit.then]
  exact pret HResF.o FXF.o none 0 (Or.inl rfl)
 |ok m=>
  have hm:=Pz.find_lt hG.ok hf;rw[hf]at h1;simp only[toT]at h1;have HF:=hid h1;have HD:=hid fun W G (h:RefF r S W G)=>h.dirAt hm;obtain⟨q,hq⟩:=nm S.N.length;have Hq:=hid hq;have hm1:(0:Int)≤m:=by omega
  have hm2:(m:Int)<q:=by omega
  cases hD:Pz.isDir S.N m with
  |true=>
   have HResF:Hid (R=(S,Pz.er 13)):=hid (by rw[hres,Pz.unlink,hf];simp only[hD,if_true]);rw[←hq,hD]at HD;clear h1 h2 hG hE hN hf hres hq hm hD;go_enter func20,ntmps20;go_wp2_with fail
   refine prd FX HF fun w1 FX1=> ?_;obtain⟨b,c,g,g0,_,_⟩:=HD.o _ _ FX1.o.inv;go_wp2_with fail
   refine pfail FX1.o 13 fun wf FXF=> ?_;obtain⟨c0,c1,c2,c3,c4,c5,c6,f0,f1,f2,f3,f4,f5,f6⟩:=pcells FXF.o.res;go_wp2;try simp only[Exit.inBlock,Exit.then]
   exact pret HResF.o FXF.o none 0 (Or.inl rfl)
  |false=>
   have h47:¬p.data.toList=[47]:=by
    intro e;rw[e,Pz.find_root]at hf
    cases hf
    rw[hG.root]at hD
    cases hD
   obtain⟨d,x,hpl,hlk,hdd⟩:=Pz.place_of_find hf h47;obtain⟨l,hl⟩:=nm ((Pz.nodeD S.N m).links);obtain⟨hlb1,hlb2⟩:l≤20∧ -1000≤l:=by rw[hl];exact Pz.nodeD_links hG hm
   have HResF:Hid (R=({S with E:=Pz.take S.E d x,N:=S.N.set m {Pz.nodeD S.N m with links:=l-1}},Pz.er 0)):=hid (by
    rw[hres,Pz.unlink,hf];simp only[hD,Bool.false_eq_true,if_false,hpl,hl])
   rw[hpl]at h2;simp only[toP]at h2;have HP:=hid h2;have HT:=hid fun W G (h:RefF r S W G)=>ptake_any r S d ⟨x.toArray⟩ W G (by omega) h;have hD2:=fun W G (h:RefF r {S with E:=Pz.take S.E d x} W G)=>h.nodeAt (show m<S.N.length from hm);rw[show({S with E:=Pz.take S.E d x}:Pz.Fil).N.length=q from hq.symm,show(Pz.nodeD ({S with E:=Pz.take S.E d x}:Pz.Fil).N m).links=l from hl.symm]at hD2;have HD2:=hid hD2;rw[←hq,hD]at HD;clear h1 h2 hG hE hN hf hres hq hm hD hpl hlk hdd hl hD2 h47;go_enter func20,ntmps20;go_wp2_with fail
   refine prd FX HF fun w1 FX1=> ?_;obtain⟨b,c,g,g0,_,_⟩:=HD.o _ _ FX1.o.inv;obtain⟨b0,b1,b2,b3,b4,b5,b6,b7⟩:=FX1.o.c8;go_wp2_with fail
   refine prd FX1 HP fun w2 FX2=> ?_;clear b0 b1 b2 b3 b4 b5 b6 b7;clear g g0;go_wp2_with fail
   refine pwr FX2 HT fun w3 FX3=> ?_;obtain⟨b5,c5,g5,_,_,g52,_,f52,_,hst⟩:=HD2.o _ _ FX3.o.inv;have FX4:=hid (FX3.o.put (RefF.held _ _) (hst (l-1)).1 (hst (l-1)).2);clear hst;obtain⟨c0,c1,c2,c3,c4,c5,c6,f0,f1,f2,f3,f4,f5,f6⟩:=pcells FX4.o.res;go_wp2;try simp only[Exit.inBlock,Exit.then]
   exact pret HResF.o FX4.o none 0 (Or.inl rfl)
theorem rename_eq{S:Pz.Fil}{p p2:ByteArray}(h:RenPre S p p2){v:Int}(hf:Pz.find S p.data.toList= .error v):Pz.rename S p.data.toList p2.data.toList=(S,Pz.er v):=by
 rw[Pz.rename,if_neg (by
  rintro(g|g|g|g)
  ·exact h.ok (Or.inl g)
  ·exact h.ok (Or.inr g)
  ·exact h.h1 g
  ·exact h.h2 g),hf]
theorem rrename_any(r:Nat)(S:Pz.Fil)(kind flags fd off n:Int)(p p2 data:ByteArray)(w:World)(F:Nat→Prop)(hp:p.size≤100000)(hp2:p2.size≤100000)(hG:Pz.Good 1000 S)(hR:RefF r S w F):
 Calls prog 58 #[.pointer (some ⟨r,0,none⟩),callV kind p p2 flags fd off n data] w (Does (RefF r) (Pz.rename S p.data.toList p2.data.toList) w F):=by
 by_cases hbad:Np.pathL p.data.toList=none∨Np.pathL p2.data.toList=none∨p.data.toList=[47]∨p2.data.toList=[47]
 ·rw[Pz.rename,if_pos hbad];exact rrename_bad r S kind flags fd off n p p2 data w F hp hp2 hbad hR
 have hpre:RenPre S p p2:=⟨hp,hp2,hG,fun h=>hbad (h.elim Or.inl fun h=>Or.inr (Or.inl h)),fun h=>hbad (Or.inr (Or.inr (Or.inl h))),fun h=>hbad (Or.inr (Or.inr (Or.inr h)))⟩
 cases hf:Pz.find S p.data.toList with
 |error v=>
  rw[rename_eq hpre hf];exact rrename_err r S kind flags fd off n p p2 data w F hpre v hf hR
 |ok m=>
  cases hD:Pz.isDir S.N m with
  |true=>exact rrename_dir r S kind flags fd off n p p2 data w F hpre m hf hD hR
  |false=>exact rrename_file r S kind flags fd off n p p2 data w F hpre m hf hD hR
theorem ropen_any(r:Nat)(S:Pz.Fil)(cl kind flags fd off n:Int)(p p2 data:ByteArray)(w:World)(F:Nat→Prop)(hp:p.size≤100000)(hG:Pz.Good 1000 S)(hR:RefF r S w F):
 Calls prog 48 #[.pointer (some ⟨r,0,none⟩),.int .i64 cl,callV kind p p2 flags fd off n data] w (Does (RefF r) (Pz.opens S cl flags p.data.toList) w F):=by
 by_cases hfl:flags=0∨flags=1∨flags=3
 ·have hpre:OpenPre S p:=⟨hp,hG⟩;rw[Pz.opens,if_neg (fun h=>h hfl)]
  cases hf:Pz.find S p.data.toList with
  |ok m=>
   rcases hfl with rfl|rfl|rfl
   ·exact ropen_ok r S cl kind 0 fd off n p p2 data w F (Or.inl rfl) hpre m hf _ rfl hR
   ·exact ropen_ok r S cl kind 1 fd off n p p2 data w F (Or.inr rfl) hpre m hf _ rfl hR
   ·exact ropen_ok3 r S cl kind fd off n p p2 data w F hpre m hf hR
  |error v=>
   by_cases hv:v=10
   ·subst hv
    cases hpl:Pz.place S p.data.toList with
    |error g=>
     rcases hfl with rfl|rfl|rfl
     ·exact ropen_err r S cl kind 0 fd off n p p2 data w F (Or.inl rfl) hpre 10 hf (Or.inl rfl) hR
     ·exact ropen_err r S cl kind 1 fd off n p p2 data w F (Or.inr (Or.inl rfl)) hpre 10 hf (Or.inr (Or.inr ⟨g,hpl⟩)) hR
     ·exact ropen_err r S cl kind 3 fd off n p p2 data w F (Or.inr (Or.inr rfl)) hpre 10 hf (Or.inr (Or.inr ⟨g,hpl⟩)) hR
    |ok dx=>
     obtain⟨d,x⟩:=dx;rcases hfl with rfl|rfl|rfl
     ·exact ropen_err r S cl kind 0 fd off n p p2 data w F (Or.inl rfl) hpre 10 hf (Or.inl rfl) hR
     ·exact ropen_new r S cl kind 1 fd off n p p2 data w F (Or.inl rfl) hpre hf d x hpl _ rfl hR
     ·exact ropen_new r S cl kind 3 fd off n p p2 data w F (Or.inr rfl) hpre hf d x hpl _ rfl hR
   ·simp only[hv,false_and,if_false];rcases hfl with rfl|rfl|rfl
    ·exact ropen_err r S cl kind 0 fd off n p p2 data w F (Or.inl rfl) hpre v hf (Or.inl rfl) hR
    ·exact ropen_err r S cl kind 1 fd off n p p2 data w F (Or.inr (Or.inl rfl)) hpre v hf (Or.inr (Or.inl hv)) hR
    ·exact ropen_err r S cl kind 3 fd off n p p2 data w F (Or.inr (Or.inr rfl)) hpre v hf (Or.inr (Or.inl hv)) hR
 ·rw[Pz.opens,if_pos hfl];exact ropen_bad r S cl kind flags fd off n p p2 data w F hfl hR
theorem rdo_any(r:Nat)(S:Pz.Fil)(cl kind flags fd off n:Int)(p p2 data:ByteArray)(w:World)(F:Nat→Prop)(hp:p.size≤100000)(hp2:p2.size≤100000)(hq:kind<3∨6<kind)(hG:Pz.Good 1000 S)(hR:RefF r S w F):
 Calls prog 20 #[.pointer (some ⟨r,0,none⟩),.int .i64 cl,callV kind p p2 flags fd off n data] w (Does (RefF r) (Pz.doA S cl kind p.data.toList p2.data.toList flags fd off n data.data.toList) w F):=by
 unfold Pz.doA;by_cases hc:cl<1∨8<cl
 ·rw[if_pos hc];exact rdo_bad r S cl kind flags fd off n p p2 data w F hc hR
 rw[if_neg hc];have hc1:1≤cl:=by omega
 have hc2:cl≤8:=by omega
 by_cases hk:kind<1∨13<kind
 ·repeat rw[if_neg (by omega)]
  exact rdo_none r S cl kind flags fd off n p p2 data w F hc1 hc2 hk hR
 have hk3:kind=1∨kind=2∨kind=7∨kind=8∨kind=9∨kind=10∨kind=11∨kind=12∨kind=13:=by omega
 rcases hk3 with rfl|rfl|rfl|rfl|rfl|rfl|rfl|rfl|rfl
 ·rw[if_pos rfl];exact rdo_g r S cl 1 flags fd off n p p2 data w F hc1 hc2 _ _ _ (Or.inl ⟨rfl,rfl,rfl⟩) (fun W G h=>ropen_any r S cl 1 flags fd off n p p2 data W G hp hG h) hR
 ·rw[if_neg (by omega),if_pos (by omega)];by_cases hz:Pz.ofd S.O cl fd<0
  ·rw[if_pos hz];exact rdo_2n r S cl flags fd off n p p2 data w F hc1 hc2 hG hz hR
  ·rw[if_neg hz];obtain⟨m,hm⟩:∃m:Nat,Pz.ofd S.O cl fd=m:=⟨(Pz.ofd S.O cl fd).toNat,by omega⟩;have hlt:m<S.N.length:=by have:=Pz.ofd_lt (c:=cl) (fd:=fd) hG.ok.opn;omega
   rw[hm,Int.toNat_natCast];exact rdo_2 r S cl flags fd off n p p2 data w F hc1 hc2 hG _ m hm (fun W G h=>rfile_close r S cl m flags fd off n p p2 data W G hG hlt h) hR
 ·exact rdo_7 r S cl flags fd off n p p2 data w F hc1 hc2 hp hG hR
 ·exact rdo_g r S cl 8 flags fd off n p p2 data w F hc1 hc2 _ _ _ (Or.inr (Or.inl ⟨rfl,rfl,rfl⟩)) (fun W G h=>rrmdir_any r S 8 flags fd off n p p2 data W G hp hG h) hR
 ·exact rdo_g r S cl 9 flags fd off n p p2 data w F hc1 hc2 _ _ _ (Or.inr (Or.inr (Or.inl ⟨rfl,rfl,rfl⟩))) (fun W G h=>rlink_any r S 9 flags fd off n p p2 data W G hp hp2 hG h) hR
 ·exact rdo_10 r S cl flags fd off n p p2 data w F hc1 hc2 hp hG hR
 ·exact rdo_g r S cl 11 flags fd off n p p2 data w F hc1 hc2 _ _ _ (Or.inr (Or.inr (Or.inr (Or.inl ⟨rfl,rfl,rfl⟩)))) (fun W G h=>rrename_any r S 11 flags fd off n p p2 data W G hp hp2 hG h) hR
 ·exact rdo_g r S cl 12 flags fd off n p p2 data w F hc1 hc2 _ _ _ (Or.inr (Or.inr (Or.inr (Or.inr (Or.inl ⟨rfl,rfl,rfl⟩))))) (fun W G h=>rtells_any r S 12 flags fd off n p p2 data W G hp hG h) hR
 ·exact rdo_g r S cl 13 flags fd off n p p2 data w F hc1 hc2 _ _ _ (Or.inr (Or.inr (Or.inr (Or.inr (Or.inr (⟨rfl,rfl,rfl⟩)))))) (fun W G h=>rtells_any r S 13 flags fd off n p p2 data W G hp hG h) hR
section
open Go.Sort
namespace Pz
end Pz
end
theorem i64_small{k:Int}(h: -4611686018427387904≤k)(h2:k≤4611686018427387904):I64 k:=by
 unfold I64;exact WalkArith.wf_i64 (by omega)
theorem isDir_lt{N:List Pz.Nd}{n:Nat}(h:Pz.isDir N n=true):n<N.length:=by
 unfold Pz.isDir at h;split at h
 ·rename_i x hx
  exact(List.getElem?_eq_some_iff.1 hx).1
 ·cases h
namespace Pz
theorem walk_snoc{S:Fil}{x:List UInt8}{o:Nat}:∀{L:List (List UInt8)} {i:Nat},walk S i L= .ok o→walk S i (L++[x])=if isDir S.N o then(if look S.E o x<0 then .error 10 else .ok (look S.E o x).toNat)else .error 12
 |[],i,h=>by
  rw[walk]at h
  cases h
  rw[List.nil_append,walk];rfl
 |y::L,i,h=>by
  rw[walk]at h;rw[List.cons_append,walk];split at h
  ·rename_i hd
   rw[if_pos hd];split at h
   ·cases h
   ·rename_i hl
    rw[if_neg hl];exact walk_snoc h
  ·cases h
theorem look_of_new{S:Fil}{p:List UInt8}{e:Int}{d:Nat}{x:List UInt8}(hf:find S p= .error e)(hp:place S p= .ok (d,x)):look S.E d x<0:=by
 obtain⟨L,hL,hw,hd⟩:=place_walk hp;unfold find at hf;rw[hL]at hf;simp only[]at hf;rw[walk_snoc hw,if_pos hd]at hf;split at hf
 ·assumption
 ·cases hf
theorem freeN_no{O:List Op}{cl:Int}:∀{m k:Nat},freeN O cl m k<k+m→ofd O cl (freeN O cl m k)<0
 |0,k,h=>by rw[freeN]at h;omega
 |m+1,k,h=>by
  rw[freeN]at h⊢;split
  ·rename_i hz
   rw[if_pos hz]at h;exact freeN_no (by omega)
  ·omega
theorem freeN_le{O:List Op}{cl:Int}:∀{m k:Nat},freeN O cl m k≤k+m
 |0,k=>by rw[freeN];omega
 |m+1,k=>by
  rw[freeN];split
  ·have:=freeN_le (O:=O) (cl:=cl) (m:=m) (k:=k+1)
   omega
  ·omega
theorem free_no{O:List Op}{cl:Int}{k:Nat}(h:free O cl=k)(hk:k<8):ofd O cl k<0:=by
 unfold free at h;have:=freeN_no (O:=O) (cl:=cl) (m:=8) (k:=0) (by omega)
 rwa [h]at this
theorem free_le{O:List Op}{cl:Int}:free O cl≤8:=by
 have:=freeN_le (O:=O) (cl:=cl) (m:=8) (k:=0)
 unfold free;omega
theorem Good.mono{K K':Nat}{S:Fil}(h:Good K S)(hK:K≤K'):Good K' S:=
 {
  h with
  n:=Nat.le_trans h.n hK
  e:=Nat.le_trans h.e hK
  o:=Nat.le_trans h.o hK
  links:=fun x hx=>⟨(h.links x hx).1,by have:=(h.links x hx).2;omega⟩}
theorem Good.take{K:Nat}{S:Fil}(h:Good K S)(d:Nat)(x:List UInt8):Good K {S with E:=take S.E d x}:=
 {
  h with
  ok:=ok_take h.ok d x
  e:=Nat.le_trans (take_le _ _ _) h.e
  name:=fun e he=>h.name e (List.mem_filter.1 he).1
  once:=h.once.sublist List.filter_sublist
  dirs:=fun e he=>h.dirs e (List.mem_filter.1 he).1}
theorem look_here{E:List En}{e:En}(h:e∈E):0≤look E e.dir e.name:=by
 induction E with
 |nil=>cases h
 |cons a r ih=>
  rw[look];split
  ·omega
  ·rename_i hn
   rcases List.mem_cons.1 h with rfl|h
   ·exact absurd ⟨rfl,rfl⟩ hn
   ·exact ih h
theorem ofd_there{O:List Op}{o:Op}(h:o∈O):0≤ofd O o.client o.fd:=by
 induction O with
 |nil=>cases h
 |cons a r ih=>
  rw[ofd];split
  ·omega
  ·rename_i hn
   rcases List.mem_cons.1 h with rfl|h
   ·exact absurd ⟨rfl,rfl⟩ hn
   ·exact ih h
theorem Good.addE{K:Nat}{S:Fil}(h:Good K S){d n:Nat}{x:List UInt8}(hd:isDir S.N d=true)(hx:Np.nameB x=true)(hl:look S.E d x<0)(hn:n<S.N.length):Good (K+1) {S with E:=S.E++[⟨d,x,n⟩]}:=
 {
  h.mono (Nat.le_succ K)with
  ok:=⟨h.ok.root,fun e he=>by
   rcases List.mem_append.1 he with he|he
   ·exact h.ok.ent e he
   ·obtain rfl:=List.mem_singleton.1 he
    exact⟨isDir_lt hd,hn⟩,h.ok.opn⟩
  e:=by
   have:=h.e
   simp
   omega
  name:=fun e he=>by
   rcases List.mem_append.1 he with he|he
   ·exact h.name e he
   ·obtain rfl:=List.mem_singleton.1 he
    exact hx
  once:=by
   rw[List.pairwise_append];refine⟨h.once,List.pairwise_singleton _ _,fun a ha b hb=> ?_⟩;obtain rfl:=List.mem_singleton.1 hb
   rintro⟨e1,e2⟩;have:=look_here ha
   rw[e1,e2]at this;simp only at this
   omega
  dirs:=fun e he=>by
   rcases List.mem_append.1 he with he|he
   ·exact h.dirs e he
   ·obtain rfl:=List.mem_singleton.1 he
    exact hd}
theorem Good.set{K:Nat}{S:Fil}(h:Good K S)(n:Nat){y:Nd}(hd:y.dir=isDir S.N n)(hdat:y.data.length≤256)(hl:y.links≤20∧ -(K:Int)≤y.links):Good K {S with N:=S.N.set n y}:=
 {
  h with
  ok:=ok_set h.ok n y
  n:=by simpa using h.n
  data:=fun x hx=>by
   rcases List.mem_or_eq_of_mem_set hx with hx|rfl
   ·exact h.data x hx
   ·exact hdat
  links:=fun x hx=>by
   rcases List.mem_or_eq_of_mem_set hx with hx|rfl
   ·exact h.links x hx
   ·exact hl
  root:=by rw[isDir_set hd];exact h.root
  dirs:=fun e he=>by rw[isDir_set hd];exact h.dirs e he
  fds:=fun o ho=>by rw[isDir_set hd];exact h.fds o ho}
theorem isDir_old{N:List Nd}{y:Nd}{k:Nat}(hk:k<N.length):isDir (N++[y]) k=isDir N k:=by
 unfold isDir;rw[List.getElem?_append_left hk]
theorem isDir_new{N:List Nd}{y:Nd}:isDir (N++[y]) N.length=y.dir:=by
 unfold isDir;rw[List.getElem?_append_right (Nat.le_refl _)];simp
theorem Good.addN{K:Nat}{S:Fil}(h:Good K S){y:Nd}(hdat:y.data.length≤256)(hl:y.links≤20∧0≤y.links):Good (K+1) {S with N:=S.N++[y]}:=
 {
  h.mono (Nat.le_succ K)with
  ok:=⟨by simp,fun e he=>by have:=h.ok.ent e he;simp;omega,fun o ho=>by have:=h.ok.opn o ho;simp;omega⟩
  n:=by have:=h.n;simp;omega
  data:=fun x hx=>by
   rcases List.mem_append.1 hx with hx|hx
   ·exact h.data x hx
   ·obtain rfl:=List.mem_singleton.1 hx
    exact hdat
  links:=fun x hx=>by
   rcases List.mem_append.1 hx with hx|hx
   ·have:=h.links x hx
    exact⟨this.1,by omega⟩
   ·obtain rfl:=List.mem_singleton.1 hx
    exact⟨hl.1,by omega⟩
  root:=by rw[isDir_old h.ok.root];exact h.root
  dirs:=fun e he=>by rw[isDir_old (h.ok.ent e he).1];exact h.dirs e he
  fds:=fun o ho=>by rw[isDir_old (h.ok.opn o ho)];exact h.fds o ho}
theorem Good.addO{K:Nat}{S:Fil}(h:Good K S){c fd:Int}{n:Nat}(hno:ofd S.O c fd<0)(hn:n<S.N.length)(hd:isDir S.N n=false):Good (K+1) {S with O:=S.O++[⟨c,fd,n⟩]}:=
 {
  h.mono (Nat.le_succ K)with
  ok:=⟨h.ok.root,h.ok.ent,fun o ho=>by
   rcases List.mem_append.1 ho with ho|ho
   ·exact h.ok.opn o ho
   ·obtain rfl:=List.mem_singleton.1 ho
    exact hn⟩
  o:=by have:=h.o;simp;omega
  one:=by
   rw[List.pairwise_append];refine⟨h.one,List.pairwise_singleton _ _,fun a ha b hb=> ?_⟩;obtain rfl:=List.mem_singleton.1 hb
   rintro⟨e1,e2⟩;have:=ofd_there ha
   rw[e1,e2]at this;simp only at this
   omega
  fds:=fun o ho=>by
   rcases List.mem_append.1 ho with ho|ho
   ·exact h.fds o ho
   ·obtain rfl:=List.mem_singleton.1 ho
    exact hd}
theorem Good.fltO{K:Nat}{S:Fil}(h:Good K S)(q:Op→Bool):Good K {S with O:=S.O.filter q}:=
 {
  h with
  ok:=⟨h.ok.root,h.ok.ent,fun o ho=>h.ok.opn o (List.mem_filter.1 ho).1⟩
  o:=Nat.le_trans (List.length_filter_le _ _) h.o
  one:=h.one.sublist List.filter_sublist
  fds:=fun o ho=>h.fds o (List.mem_filter.1 ho).1}
theorem Good.over{K:Nat}{S:Fil}(h:Good K S)(z:Int)(q:Nat×List UInt8):Good (K+1) (over S z q):=by
 unfold Pz.over;split
 ·rename_i hz
  simp only
  split
  ·exact(h.take _ _).mono (Nat.le_succ K)
  ·by_cases hl:z.toNat<S.N.length
   ·have h1:=nodeD_links h hl;have h2:=nodeD_data h hl;exact((h.take q.1 q.2).mono (Nat.le_succ K)).set z.toNat (nodeD_dir _ _) h2 ⟨by simp only;omega,by simp only;omega⟩
   ·rw[List.set_eq_of_length_le (by omega)];exact(h.take _ _).mono (Nat.le_succ K)
 ·exact h.mono (Nat.le_succ K)
theorem over_dir{S:Fil}(z:Int)(q:Nat×List UInt8)(k:Nat):isDir (over S z q).N k=isDir S.N k:=by
 unfold over;split
 ·simp only
  split
  ·rfl
  ·exact isDir_set (by simp[nodeD_dir]) k
 ·rfl
def Few(S:Fil):Prop:=∀o∈S.O,(1≤o.client∧o.client≤8)∧0≤o.fd∧o.fd≤7
theorem opens_good{K:Nat}{S:Fil}(h:Good K S)(hf:Few S){cl flags:Int}{p:List UInt8}(hc:1≤cl∧cl≤8):Good (K+3) (opens S cl flags p).1∧Few (opens S cl flags p).1:=by
 have hS:Good (K+3) S∧Few S:=⟨h.mono (by omega),hf⟩;have hfree:¬free S.O cl=8→ofd S.O cl (free S.O cl)<0∧free S.O cl≤7:=fun hn=>by
  have:=free_le (O:=S.O) (cl:=cl)
  exact⟨free_no rfl (by omega),by omega⟩
 have few:∀k:Nat,k≤7→∀n:Nat,∀o∈S.O++[(⟨cl,k,n⟩:Op)],(1≤o.client∧o.client≤8)∧0≤o.fd∧o.fd≤7:=fun k hk n o ho=>by
  rcases List.mem_append.1 ho with ho|ho
  ·exact hf o ho
  ·obtain rfl:=List.mem_singleton.1 ho
   exact⟨hc,by simp only;omega,by simp only;omega⟩
 unfold opens;split
 ·exact hS
 split
 ·rename_i n hn
  split
  ·exact hS
  split
  ·exact hS
  rename_i hd
  split
  ·exact hS
  rename_i h8
  obtain⟨h1,h2⟩:=hfree h8;exact⟨(h.addO h1 (find_lt h.ok hn) (by simpa using hd)).mono (by omega),few _ h2 _⟩
 ·rename_i e he
  split
  ·split
   ·exact hS
   ·rename_i q hq
    split
    ·exact hS
    rename_i h8
    obtain⟨h1,h2⟩:=hfree h8;have hpl:=place_lt h.ok hq;refine⟨?_,few _ h2 _⟩;have g1:=h.addN (y:=⟨false,[],1⟩) (by simp) (by simp);have g2:=g1.addE (d:=q.1) (x:=q.2) (n:=S.N.length) (by simp only;rw[isDir_old hpl.1];exact hpl.2) (place_name hq) (show look S.E q.1 q.2<0 from look_of_new he hq) (by simp);have g3:=g2.addO (c:=cl) (fd:=free S.O cl) (n:=S.N.length) h1 (by simp) (by simp only;rw[isDir_new]);exact g3
  ·exact hS
theorem mkdir_good{K:Nat}{S:Fil}(h:Good K S){p:List UInt8}:Good (K+3) (mkdir S p).1∧(mkdir S p).1.O=S.O:=by
 unfold mkdir;split
 ·exact⟨h.mono (by omega),rfl⟩
 ·rename_i e he
  split
  ·exact⟨h.mono (by omega),rfl⟩
  ·rename_i q hq
   have hpl:=place_lt h.ok hq;have g1:=h.addN (y:=⟨true,[],1⟩) (by simp) (by simp);have g2:=g1.addE (d:=q.1) (x:=q.2) (n:=S.N.length) (by simp only;rw[isDir_old hpl.1];exact hpl.2) (place_name hq) (show look S.E q.1 q.2<0 from look_of_new he hq) (by simp);exact⟨g2.mono (by omega),rfl⟩
theorem rmdir_good{K:Nat}{S:Fil}(h:Good K S){p:List UInt8}:Good (K+3) (rmdirR S p).1∧(rmdirR S p).1.O=S.O:=by
 have hS:Good (K+3) S∧S.O=S.O:=⟨h.mono (by omega),rfl⟩;unfold rmdirR;split
 ·exact hS
 split
 ·exact hS
 split
 ·split
  ·exact hS
  split
  ·exact hS
  ·exact⟨(h.take _ _).mono (by omega),rfl⟩
 ·exact hS
theorem link_good{K:Nat}{S:Fil}(h:Good K S){p p2:List UInt8}:Good (K+3) (link S p p2).1∧(link S p p2).1.O=S.O:=by
 have hS:Good (K+3) S∧S.O=S.O:=⟨h.mono (by omega),rfl⟩;unfold link;split
 ·exact hS
 split
 ·exact hS
 rename_i n hn
 split
 ·exact hS
 split
 ·exact hS
 split
 ·exact hS
 rename_i q hq
 split
 ·exact hS
 rename_i hl
 split
 ·exact hS
 rename_i h20
 have hlt:=find_lt h.ok hn;have h1:=nodeD_links h hlt;have g1:=(h.addE (place_lt h.ok hq).2 (place_name hq) (by omega) hlt).set n (y:={nodeD S.N n with links:=(nodeD S.N n).links+1}) (nodeD_dir _ _) (nodeD_data h hlt) ⟨by simp only;omega,by simp only;omega⟩;exact⟨g1.mono (by omega),rfl⟩
theorem unlink_good{K:Nat}{S:Fil}(h:Good K S){p:List UInt8}:Good (K+3) (unlink S p).1∧(unlink S p).1.O=S.O:=by
 have hS:Good (K+3) S∧S.O=S.O:=⟨h.mono (by omega),rfl⟩;unfold unlink;split
 ·exact hS
 rename_i n hn
 split
 ·exact hS
 split
 ·exact hS
 rename_i q hq
 have hlt:=find_lt h.ok hn;have h1:=nodeD_links h hlt;have g1:=((h.take q.1 q.2).mono (Nat.le_succ K)).set n (y:={nodeD S.N n with links:=(nodeD S.N n).links-1}) (nodeD_dir _ _) (nodeD_data h hlt) ⟨by simp only;omega,by simp only;omega⟩;exact⟨g1.mono (by omega),rfl⟩
theorem rename_good{K:Nat}{S:Fil}(h:Good K S){p p2:List UInt8}:Good (K+3) (rename S p p2).1∧(rename S p p2).1.O=S.O:=by
 have hS:Good (K+3) S∧S.O=S.O:=⟨h.mono (by omega),rfl⟩;unfold rename;split
 ·exact hS
 split
 ·exact hS
 rename_i n hn
 split
 ·exact hS
 split
 ·exact hS
 rename_i q hq
 split
 ·exact hS
 split
 ·exact hS
 split
 ·exact hS
 rename_i o ho
 obtain⟨z,hz⟩:=nm (look S.E q.1 q.2);rw[←hz];have g1:=(h.over z q).take o.1 o.2;have hl:look (take (over S z q).E o.1 o.2) q.1 q.2<0:=by
  by_cases hoq:q.1=o.1∧q.2=o.2
  ·rw[hoq.1,hoq.2,look_take_same];omega
  ·rw[look_take_other hoq];unfold over;split
   ·simp only
    rw[look_take_same];omega
   ·rename_i hneg
    rw[←hz];omega
 have g2:=g1.addE (d:=q.1) (x:=q.2) (n:=n) (by simp only;rw[over_dir];exact(place_lt h.ok hq).2) (place_name hq) hl (by simp only;rw[(over_len z q).1];exact find_lt h.ok hn);exact⟨g2.mono (by omega),(over_len z q).2.2⟩
theorem laid_len{s d:List UInt8}{o:Nat}:(laid s o d).length=max s.length (o+d.length):=by
 unfold laid;rw[List.length_append,List.length_append,sized_len,List.length_drop];omega
theorem file_good{K:Nat}{S:Fil}(h:Good K S)(hf:Few S){cl:Int}{n:Nat}{kind fd off m:Int}{d:List UInt8}(hn:n<S.N.length):Good (K+3) (file S cl n kind fd off m d).1∧Few (file S cl n kind fd off m d).1:=by
 have hS:Good (K+3) S∧Few S:=⟨h.mono (by omega),hf⟩;have h1:=nodeD_links h hn;have h2:=nodeD_data h hn;unfold file;split
 ·exact⟨(h.fltO _).mono (by omega),fun o ho=>hf o (List.mem_filter.1 ho).1⟩
 split
 ·exact hS
 split
 ·split
  ·exact hS
  split
  ·exact hS
  split
  ·exact hS
  ·exact⟨(h.set n (y:={nodeD S.N n with data:=laid (nodeD S.N n).data off.toNat d}) (nodeD_dir _ _) (by simp only;rw[laid_len];omega) h1).mono (by omega),hf⟩
 split
 ·split
  ·exact hS
  split
  ·exact hS
  ·exact⟨(h.set n (y:={nodeD S.N n with data:=sized (nodeD S.N n).data m.toNat}) (nodeD_dir _ _) (by simp only;rw[sized_len];omega) h1).mono (by omega),hf⟩
 ·exact hS
theorem few_same{S T:Fil}(h:Few S)(e:T.O=S.O):Few T:=by
 unfold Few;rw[e];exact h
theorem do_good{K:Nat}{S:Fil}(h:Good K S)(hf:Few S)(cl kind:Int)(p p2:List UInt8)(flags fd off m:Int)(d:List UInt8):Good (K+3) (doA S cl kind p p2 flags fd off m d).1∧Few (doA S cl kind p p2 flags fd off m d).1:=by
 have hS:Good (K+3) S∧Few S:=⟨h.mono (by omega),hf⟩;unfold doA;split
 ·exact hS
 rename_i hc
 split
 ·exact opens_good h hf (by omega)
 split
 ·split
  ·exact hS
  ·rename_i hz
   have:=ofd_lt (c:=cl) (fd:=fd) h.ok.opn
   exact file_good h hf (by omega)
 split
 ·exact⟨(mkdir_good h).1,few_same hf (mkdir_good h).2⟩
 split
 ·exact⟨(rmdir_good h).1,few_same hf (rmdir_good h).2⟩
 split
 ·exact⟨(link_good h).1,few_same hf (link_good h).2⟩
 split
 ·exact⟨(unlink_good h).1,few_same hf (unlink_good h).2⟩
 split
 ·exact⟨(rename_good h).1,few_same hf (rename_good h).2⟩
 split
 ·exact hS
 ·exact hS
theorem drop_good{K:Nat}{S:Fil}(h:Good K S)(hf:Few S)(cl:Int):Good K {S with O:=drop S.O cl}∧Few {S with O:=drop S.O cl}:=
 ⟨h.fltO _,fun o ho=>hf o (List.mem_filter.1 ho).1⟩
theorem new_good:Good 1 newFS∧Few newFS:=
 ⟨{
  ok:=⟨by decide,fun e he=>by simp[newFS]at he,fun o ho=>by simp[newFS]at ho⟩
  n:=by decide
  e:=by decide
  o:=by decide
  data:=fun x hx=>by simp[newFS]at hx;subst hx;decide
  links:=fun x hx=>by simp[newFS]at hx;subst hx;decide
  name:=fun e he=>by simp[newFS]at he
  once:=List.Pairwise.nil
  one:=List.Pairwise.nil
  root:=rfl
  dirs:=fun e he=>by simp[newFS]at he
  fds:=fun o ho=>by simp[newFS]at ho},fun o ho=>by simp[newFS]at ho⟩
theorem Few.i64{S:Fil}(h:Few S):∀o∈S.O,I64 o.client∧I64 o.fd:=fun o ho=>by
 have:=h o ho
 exact⟨i64_small (by omega) (by omega),i64_small (by omega) (by omega)⟩
end Pz

end Go.Proofs.YtckoobkjpndgnaaGreatDoor
