/- Walks: the document's rename, where the old path is a file's. -/
import Derived.Test.YtckoobkjpndgnaaGreatDoorW19
set_option linter.unusedVariables false
set_option linter.unusedSimpArgs false
set_option linter.unusedSectionVars false
set_option maxHeartbeats 8000000
set_option maxRecDepth 100000
namespace Go.Proofs.YtckoobkjpndgnaaGreatDoor
open Go.RowKit
open Lib(hid)
open Go.Proofs.Tryz
theorem rrename_file(r:Nat)(S:Pz.Fil)(kind flags fd off n:Int)(p p2 data:ByteArray)(w:World)(F:Nat→Prop)(hpre:RenPre S p p2)(m:Nat)(hf:Pz.find S p.data.toList= .ok m)(hDt:Pz.isDir S.N m=false)(hR:RefF r S w F):
 Calls prog 58 #[.pointer (some ⟨r,0,none⟩),callV kind p p2 flags fd off n data] w (Does (RefF r) (Pz.rename S p.data.toList p2.data.toList) w F):=by
 have h0:=fun W=>rpaths_any kind flags fd off n p p2 data W hpre.hp hpre.hp2;have hE:=hpre.good.e;have hN:=hpre.good.n;have h1:=fun W G (hR:RefF r S W G)=>pfind_any 0 r S p W hpre.hp (by omega) (by omega) hpre.good.ok hR.is;have h2:=fun W G (hR:RefF r S W G)=>place_any 0 r S p2 W hpre.hp2 (by omega) (by omega) hpre.good.ok hR.is;have FX:=pst hR kind p p2 flags fd off n data;unfold callV at h0⊢;rw[both_of hpre.ok]at h0;have H0:=hid h0;have h47a:=path_ne hpre.h1;have h47b:=path_ne hpre.h2;have hm:=Pz.find_lt hpre.good.ok hf;obtain⟨o,y,hpo,hlk,hod⟩:=Pz.place_of_find hf hpre.h1;rw[hf]at h1;simp only[toT]at h1;have HF:=hid h1;have HD:=hid fun W G (h:RefF r S W G)=>h.dirAt hm;obtain⟨q,hq⟩:=nm S.N.length;have Hq:=hid hq;rw[←hq,hDt]at HD;obtain⟨R,hres⟩:=nm (Pz.rename S p.data.toList p2.data.toList);rw[←hres];have HRes2:Hid (R=match Pz.place S p2.data.toList with
  | .error g=>(S,Pz.er g)
  | .ok q=>if Pz.look S.E q.1 q.2=m then(S,Pz.er 0)else if Pz.overErr S m (Pz.look S.E q.1 q.2)≠0 then(S,Pz.er (Pz.overErr S m (Pz.look S.E q.1 q.2)))else
   match Pz.place S p.data.toList with
   | .error _=>(S,Pz.er 0)
   | .ok o=>({Pz.over S (Pz.look S.E q.1 q.2) q with E:=Pz.take (Pz.over S (Pz.look S.E q.1 q.2) q).E o.1 o.2++[⟨q.1,q.2,m⟩]},Pz.er 0)):=hid (by
  rw[hres,Pz.rename,if_neg (by
   rintro(h|h|h|h)
   ·exact hpre.ok (Or.inl h)
   ·exact hpre.ok (Or.inr h)
   ·exact hpre.h1 h
   ·exact hpre.h2 h),hf]
  simp only[hDt,Bool.false_eq_true,false_and,if_false];rfl)
 have hmq:m<q:=by omega
 have hm1:(0:Int)≤m:=by omega
 have hm2:(m:Int)<q:=by omega
 clear h0 h1 hq hres hR hE hN hm hod;have HPre:=hid (And.intro hpre (And.intro h2 (And.intro hlk (And.intro hf (And.intro hpo hDt)))));clear h2 hpre hlk hf hpo hDt;go_enter func58,ntmps58;go_wp2_with fail
 refine ppl FX H0 fun w1 FX1=> ?_;obtain⟨b0,b1,b2,b3,b4,b5,b6,b7⟩:=FX1.o.c8;go_wp2_with fail
 refine prd FX1 HF fun w2 FX2=> ?_;clear b0 b1 b2 b3 b4 b5 b6 b7;obtain⟨b0,b1,b2,b3,b4,b5,b6,b7⟩:=FX2.o.c8;obtain⟨b,c,g,g0,_,_⟩:=HD.o _ _ FX2.o.inv;obtain⟨hpre,h2,hlk,hf,hpo,hDt⟩:=HPre.o
 cases hpl:Pz.place S p2.data.toList with
 |error v=>
  clear hDt hlk hpo;obtain⟨hv1,hv2,hv3⟩:=ne_of_err (Pz.place_err hpl);rw[hpl]at h2;have HRes3:Hid (R=(S,Pz.er v)):=hid (by rw[HRes2.o,hpl]);simp only[toP]at h2;have HP:=hid h2;clear h2 hpl hpre hf;go_wp2_with fail
  refine prd FX2 HP fun w3 FX3=> ?_;clear b0 b1 b2 b3 b4 b5 b6 b7;clear g g0;go_wp2_with fail
  refine pfail FX3.o v fun wf FXF=> ?_;obtain⟨c0,c1,c2,c3,c4,c5,c6,f0,f1,f2,f3,f4,f5,f6⟩:=pcells FXF.o.res;go_wp2;try simp only[Exit.inBlock,Exit.then]
  exact pret HRes3.o FXF.o none 0 (Or.inl rfl)
 |ok dx=>
  obtain⟨d,x⟩:=dx;rw[hpl]at h2;simp only[toP]at h2;have HP:=hid h2;have hE:=hpre.good.e;have hN:=hpre.good.n;have HL:=hid fun W G (h:RefF r S W G)=>look_any 0 r S d ⟨x.toArray⟩ W (by omega) h.is;have HRes3:Hid (R=if Pz.look S.E d x=m then(S,Pz.er 0)else if Pz.overErr S m (Pz.look S.E d x)≠0 then(S,Pz.er (Pz.overErr S m (Pz.look S.E d x)))else match Pz.place S p.data.toList with| .error _=>(S,Pz.er 0)| .ok o=>({Pz.over S (Pz.look S.E d x) (d,x)with E:=Pz.take (Pz.over S (Pz.look S.E d x) (d,x)).E o.1 o.2++[⟨d,x,m⟩]},Pz.er 0)):=hid (by rw[HRes2.o,hpl]);have hlq:=Pz.look_lt (n:=S.N.length) (i:=d) (x:=x) hpre.good.ok.ent;by_cases hzm:Pz.look S.E d x=m
  ·clear hDt hlk hpo;have HRes4:=hid (HRes3.o.trans (if_pos hzm));rw[show(⟨x.toArray⟩:ByteArray).data.toList=x from rfl,hzm]at HL;have hzb:((m:Int)==(m:Int))=true:=by simp
   clear h2 hpl hpre hf hE hN hzm hlq;go_wp2_with fail
   refine prd FX2 HP fun w3 FX3=> ?_;clear b0 b1 b2 b3 b4 b5 b6 b7;clear g g0;go_wp2_with fail
   refine prd FX3 HL fun w4 FX4=> ?_;obtain⟨b0,b1,b2,b3,b4,b5,b6,b7⟩:=FX4.o.c8;clear b0 b1 b2 b3 b4 b5 b6 b7;obtain⟨c0,c1,c2,c3,c4,c5,c6,f0,f1,f2,f3,f4,f5,f6⟩:=pcells FX4.o.res;go_wp2;try simp only[Exit.inBlock,Exit.then]
   exact pret HRes4.o FX4.o none 0 (Or.inl rfl)
  by_cases hz:Pz.look S.E d x<0
  ·clear hDt;have hz0:Pz.look S.E d x<0:=by omega
   have HResF:Hid (R=({S with E:=Pz.take S.E o y++[⟨d,x,m⟩]},Pz.er 0)):=hid (by
    rw[HRes3.o,if_neg hzm,if_neg (by unfold Pz.overErr;rw[if_neg (by omega)];simp),hpo];unfold Pz.over;rw[if_neg (by omega)])
   rw[show(⟨x.toArray⟩:ByteArray).data.toList=x from rfl]at HL;have hzb:(Pz.look S.E d x==(m:Int))=false:=by rw[beq_eq_false_iff_ne];exact hzm
   generalize Pz.look S.E d x=z at HL hz0 hzb;have h3:=fun W G (hR:RefF r S W G)=>place_any 0 r S p W hpre.hp (by omega) (by omega) hpre.good.ok hR.is;rw[hpo]at h3;simp only[toP]at h3;have HP1:=hid h3;have HT2:=hid fun W G (h:RefF r S W G)=>ptake_any r S o ⟨y.toArray⟩ W G (by omega) h;have HPut:=hid fun W G (h:RefF r {S with E:=Pz.take S.E o y} W G)=>pput_any r {S with E:=Pz.take S.E o y} d m ⟨x.toArray⟩ W G (by have:=Pz.take_le S.E o y;show(Pz.take S.E o y).length≤_;omega) h;clear h2 h3 hpl hpre hf hE hN hzm hlq HRes3 hpo hlk;go_wp2_with fail
   refine prd FX2 HP fun w3 FX3=> ?_;clear b0 b1 b2 b3 b4 b5 b6 b7;clear g g0;go_wp2_with fail
   refine prd FX3 HL fun w4 FX4=> ?_;obtain⟨b0,b1,b2,b3,b4,b5,b6,b7⟩:=FX4.o.c8;go_wp2_with fail
   refine prd FX4 HP1 fun w7 FX7=> ?_;clear b0 b1 b2 b3 b4 b5 b6 b7;go_wp2_with fail
   refine pwr FX7 HT2 fun w8 FX8=> ?_;go_wp2_with fail
   refine pwr FX8 HPut fun w9 FX9=> ?_;obtain⟨c0,c1,c2,c3,c4,c5,c6,f0,f1,f2,f3,f4,f5,f6⟩:=pcells FX9.o.res;go_wp2;try simp only[Exit.inBlock,Exit.then]
   exact pret HResF.o FX9.o none 0 (Or.inl rfl)
  obtain⟨k,hk⟩:∃k:Nat,Pz.look S.E d x=k:=⟨(Pz.look S.E d x).toNat,by omega⟩;have hkl:k<S.N.length:=by omega
  have HDk:=hid fun W G (h:RefF r S W G)=>h.dirAt hkl;have HCk:=hid fun W G (h:RefF r S W G)=>pcount_any 0 r S k W (by omega) h.is;rw[show(⟨x.toArray⟩:ByteArray).data.toList=x from rfl,hk]at HL;have hzb:((k:Int)==(m:Int))=false:=by rw[beq_eq_false_iff_ne];omega
  have hk1:(0:Int)≤k:=by omega
  have hk2:(k:Int)<q:=by have:=Hq.o;omega
  have hk3:0≤Pz.look S.E d x:=by omega
  obtain⟨E,hE0⟩:=nm (Pz.isDir S.N k);obtain⟨C,hC0⟩:=nm (Pz.count S.E k);rw[←Hq.o,←hE0]at HDk;rw[←hC0]at HCk;rw[hk]at HRes3;have hov:=Pz.overErr_nat (S:=S) (m:=m) (k:=k);rw[hDt,if_neg (by decide),←hE0]at hov
  cases E with
  |true=>
   have HResF:Hid (R=(S,Pz.er 13)):=hid (by rw[HRes3.o,if_neg (by omega),hov];rfl);clear h2 hpl hpre hf hE hN hzm hz hlq hpo hlk hDt hov hE0 hC0 HRes3 hk hk3 hkl;go_wp2_with fail
   refine prd FX2 HP fun w3 FX3=> ?_;clear b0 b1 b2 b3 b4 b5 b6 b7;clear g g0;go_wp2_with fail
   refine prd FX3 HL fun w4 FX4=> ?_;obtain⟨b0,b1,b2,b3,b4,b5,b6,b7⟩:=FX4.o.c8;obtain⟨bk,ck,gk,gk0,_,_⟩:=HDk.o _ _ FX4.o.inv;clear b0 b1 b2 b3 b4 b5 b6 b7;go_wp2_with fail
   refine pfail FX4.o 13 fun wf FXF=> ?_;obtain⟨c0,c1,c2,c3,c4,c5,c6,f0,f1,f2,f3,f4,f5,f6⟩:=pcells FXF.o.res;go_wp2;try simp only[Exit.inBlock,Exit.then]
   exact pret HResF.o FXF.o none 0 (Or.inl rfl)
  |false=>
   rw[if_neg (by decide)]at hov;obtain⟨l,hl⟩:=nm ((Pz.nodeD S.N k).links);obtain⟨hlb1,hlb2⟩:l≤20∧ -1000≤l:=by rw[hl];exact Pz.nodeD_links hpre.good hkl
   have hso:=Pz.over_nat (S:=S) (k:=k) (q:=(d,x));rw[←hE0,if_neg (by decide),←hl]at hso;obtain⟨N1,hN1⟩:∃N1,N1=S.N.set k {Pz.nodeD S.N k with links:=l-1}:=⟨_,rfl⟩;rw[←hN1]at hso;have hpo1:=Pz.place_over (d:=d) (x:=x) hpo hlk hk3 (by rw[hk];exact hov);rw[hk,hso]at hpo1;have HResF:Hid (R=({S with N:=N1,E:=Pz.take (Pz.take S.E d x) o y++[⟨d,x,m⟩]},Pz.er 0)):=hid (by rw[HRes3.o,if_neg (by omega),if_neg (by rw[hov];simp),hpo,hso]);have hle:=Pz.take_le S.E d x;have hle2:=Pz.take_le (Pz.take S.E d x) o y;have hlN:N1.length=S.N.length:=by rw[hN1];simp
   have hok1:Pz.Ok {S with N:=N1,E:=Pz.take S.E d x}:=by rw[hN1];exact Pz.ok_set (S:={S with E:=Pz.take S.E d x}) (Pz.ok_take hpre.good.ok _ _) _ _
   have HT:=hid fun W G (h:RefF r S W G)=>ptake_any r S d ⟨x.toArray⟩ W G (by omega) h;have hDk1:=fun W G (h:RefF r {S with E:=Pz.take S.E d x} W G)=>h.nodeAt (show k<S.N.length from hkl);rw[show Pz.isDir ({S with E:=Pz.take S.E d x}:Pz.Fil).N k=false from hE0.symm,show({S with E:=Pz.take S.E d x}:Pz.Fil).N.length=q from Hq.o.symm,show(Pz.nodeD ({S with E:=Pz.take S.E d x}:Pz.Fil).N k).links=l from hl.symm]at hDk1;have HDk1:=hid hDk1;have HN1:=hid hN1;have h3:=fun W G (hR:RefF r {S with N:=N1,E:=Pz.take S.E d x} W G)=>place_any 0 r {S with N:=N1,E:=Pz.take S.E d x} p W hpre.hp (show(Pz.take S.E d x).length≤_ by omega) (show N1.length≤_ by omega) hok1 hR.is;rw[show Pz.place ({S with N:=N1,E:=Pz.take S.E d x}:Pz.Fil) p.data.toList= .ok (o,y) from hpo1]at h3;simp only[toP]at h3;have HP1:=hid h3
   have HT2:=hid fun W G (h:RefF r {S with N:=N1,E:=Pz.take S.E d x} W G)=>ptake_any r {S with N:=N1,E:=Pz.take S.E d x} o ⟨y.toArray⟩ W G (show(Pz.take S.E d x).length≤_ by omega) h;have HPut:=hid fun W G (h:RefF r {S with N:=N1,E:=Pz.take (Pz.take S.E d x) o y} W G)=>pput_any r {S with N:=N1,E:=Pz.take (Pz.take S.E d x) o y} d m ⟨x.toArray⟩ W G (show(Pz.take (Pz.take S.E d x) o y).length≤_ by omega) h;clear h2 h3 hpl hpre hf hE hN hzm hz hlq hpo hlk hDt hov hE0 hC0 HRes3 hk hk3 hkl hso hpo1 hle hle2 hDk1 hl hN1 hlN hok1;go_wp2_with fail
   refine prd FX2 HP fun w3 FX3=> ?_;clear b0 b1 b2 b3 b4 b5 b6 b7;clear g g0;go_wp2_with fail
   refine prd FX3 HL fun w4 FX4=> ?_;obtain⟨b0,b1,b2,b3,b4,b5,b6,b7⟩:=FX4.o.c8;obtain⟨bk,ck,gk,gk0,_,_⟩:=HDk.o _ _ FX4.o.inv;clear b0 b1 b2 b3 b4 b5 b6 b7;go_wp2_with fail
   refine pwr FX4 HT fun w5 FX5=> ?_;obtain⟨bk,ck,gk,gk0,_,gk2,_,fk2,_,hst⟩:=HDk1.o _ _ FX5.o.inv;have hst1:=hst (l-1);rw[show S.N.set k {Pz.nodeD ({S with E:=Pz.take S.E d x}:Pz.Fil).N k with links:=l-1}=N1 from HN1.o.symm]at hst1;have FX6:=hid (FX5.o.put (RefF.held _ _) hst1.1 hst1.2);clear hst hst1;obtain⟨b0,b1,b2,b3,b4,b5,b6,b7⟩:=FX6.o.c8;go_wp2_with fail
   refine prd FX6 HP1 fun w7 FX7=> ?_;clear b0 b1 b2 b3 b4 b5 b6 b7;go_wp2_with fail
   refine pwr FX7 HT2 fun w8 FX8=> ?_;go_wp2_with fail
   refine pwr FX8 HPut fun w9 FX9=> ?_;obtain⟨c0,c1,c2,c3,c4,c5,c6,f0,f1,f2,f3,f4,f5,f6⟩:=pcells FX9.o.res;go_wp2;try simp only[Exit.inBlock,Exit.then]
   exact pret HResF.o FX9.o none 0 (Or.inl rfl)
theorem ropen_bad(r:Nat)(S:Pz.Fil)(cl kind flags fd off n:Int)(p p2 data:ByteArray)(w:World)(F:Nat→Prop)(hfl:¬(flags=0∨flags=1∨flags=3))(hR:RefF r S w F):
 Calls prog 48 #[.pointer (some ⟨r,0,none⟩),.int .i64 cl,callV kind p p2 flags fd off n data] w (Does (RefF r) (S,Pz.er 15) w F):=by
 have FX:=pst hR kind p p2 flags fd off n data;have h0:(flags==0)=false:=by rw[beq_eq_false_iff_ne];exact fun e=>hfl (Or.inl e)
 have h1:(flags==1)=false:=by rw[beq_eq_false_iff_ne];exact fun e=>hfl (Or.inr (Or.inl e))
 have h3:(flags==3)=false:=by rw[beq_eq_false_iff_ne];exact fun e=>hfl (Or.inr (Or.inr e))
 have h0':(flags !=0)=true:=by rw[bne,h0];rfl
 have h1':(flags !=1)=true:=by rw[bne,h1];rfl
 have h3':(flags !=3)=true:=by rw[bne,h3];rfl
 clear hfl hR;unfold callV;go_enter func48,ntmps48;go_wp2_with fail
 refine pfail FX.o 15 fun wf FXF=> ?_;obtain⟨c0,c1,c2,c3,c4,c5,c6,f0,f1,f2,f3,f4,f5,f6⟩:=pcells FXF.o.res;go_wp2;try simp only[Exit.inBlock,Exit.then]
 exact pret rfl FXF.o none 0 (Or.inl rfl)
structure OpenPre(S:Pz.Fil)(p:ByteArray):Prop where
 hp:p.size≤100000
 good:Pz.Good 1000 S
theorem ropen_ok3(r:Nat)(S:Pz.Fil)(cl kind fd off n:Int)(p p2 data:ByteArray)(w:World)(F:Nat→Prop)(hpre:OpenPre S p)(m:Nat)(hf:Pz.find S p.data.toList= .ok m)(hR:RefF r S w F):
 Calls prog 48 #[.pointer (some ⟨r,0,none⟩),.int .i64 cl,callV kind p p2 3 fd off n data] w (Does (RefF r) (S,Pz.er 11) w F):=by
 have hE:=hpre.good.e;have hN:=hpre.good.n;have hOl:=hpre.good.o;have h1:=fun W G (hR:RefF r S W G)=>pfind_any 0 r S p W hpre.hp (by omega) (by omega) hpre.good.ok hR.is;have hOf:=fun(k:Nat) W G (hR:RefF r S W G)=>of_any 0 r S cl k W (by omega) hR.is;have FX:=pst hR kind p p2 3 fd off n data;rw[hf]at h1;simp only[toT]at h1;have HF:=hid h1;have HOF:=hid hOf;obtain⟨fr,hfr⟩:=nm (Pz.free S.O cl);have HFr:Hid (fr=Pz.freeN S.O cl (8-0) 0):=hid hfr;clear h1 hOf hR hE hN hOl hf hpre hfr;unfold callV;go_enter func48,ntmps48;go_wp2;go_loopw[7] (fun v wr=>∃k:Nat,k≤8∧v= .int .i64 k∧Hid (fr=Pz.freeN S.O cl (8-k) k)∧Hid (pFx (RefF r S) F w #[.int .i64 kind,.string p,.string p2,.int .i64 3,.int .i64 fd,.int .i64 off,.int .i64 n,.string data] wr)) (fun v _=>8-(intOf v).toNat)
 case atStart=>exact⟨0,by omega,rfl,HFr.o,FX⟩
 case round=>
  obtain⟨k,hk,rfl,hfr,FX0⟩:=hrel;by_cases hk8:k<8
  case' pos=>
   have hk1:(k:Int)<8:=by omega
   have hk2:(0:Int)≤k:=by omega
   have ho:=HOF.o k;have hst:fr=if 0≤Pz.ofd S.O cl k then Pz.freeN S.O cl (8-(k+1)) (k+1)else k:=by
    rw[hfr.o,show 8-k=(8-(k+1))+1 by omega,Pz.freeN]
   generalize Pz.ofd S.O cl k=z at ho hst;have HOf:=hid ho;clear ho;by_cases hz0:0≤z
   case pos=>
    rw[if_pos hz0]at hst;have Hst:=hid hst;clear hst;go_wp2_with fail
    refine prd FX0 HOf fun w1 FX1=> ?_;go_wp2;go_roundw
    case rel=>exact⟨k+1,by omega,by go_num,Hst.o,FX1⟩
    case measure=>simp[intOf];omega
   rw[if_neg hz0]at hst;have Hst:=hid hst;clear hst;have hz1:z<0:=by omega
   have hk9:((k:Int)==8)=false:=by rw[beq_eq_false_iff_ne];omega
   go_wp2_with fail
   refine prd FX0 HOf fun w1 FX1=> ?_;obtain⟨b0,b1,b2,b3,b4,b5,b6,b7⟩:=FX1.o.c8
  case' neg=>
   obtain rfl:k=8:=by omega
   have Hst:Hid (fr=8):=hid (by rw[hfr.o];rfl);have FX1:=FX0;obtain⟨b0,b1,b2,b3,b4,b5,b6,b7⟩:=FX1.o.c8
  all_goals
   go_wp2_with fail
   refine prd FX1 HF fun w2 FX2=> ?_;clear b0 b1 b2 b3 b4 b5 b6 b7;obtain⟨b0,b1,b2,b3,b4,b5,b6,b7⟩:=FX2.o.c8;go_wp2_with fail
   refine pfail FX2.o 11 fun wf FXF=> ?_;obtain⟨c0,c1,c2,c3,c4,c5,c6,f0,f1,f2,f3,f4,f5,f6⟩:=pcells FXF.o.res;go_wp2;try simp only[Exit.inBlock,Exit.then]
   exact pret rfl FXF.o none 0 (Or.inl rfl)
theorem ropen_ok(r:Nat)(S:Pz.Fil)(cl kind flags fd off n:Int)(p p2 data:ByteArray)(w:World)(F:Nat→Prop)(hfl:flags=0∨flags=1)(hpre:OpenPre S p)(m:Nat)(hf:Pz.find S p.data.toList= .ok m)(R:Pz.Fil×Pz.Rep)(hres:R=if Pz.isDir S.N m=true then(S,Pz.er 13)else if Pz.free S.O cl=8 then(S,Pz.er 17)else({S with O:=S.O++[⟨cl,Pz.free S.O cl,m⟩]},Pz.fdR (Pz.free S.O cl)))(hR:RefF r S w F):
 Calls prog 48 #[.pointer (some ⟨r,0,none⟩),.int .i64 cl,callV kind p p2 flags fd off n data] w (Does (RefF r) R w F):=by
 obtain⟨i0,hi,hy0,hy1,hy2⟩:=info_parts infoO;have hE:=hpre.good.e;have hN:=hpre.good.n;have hOl:=hpre.good.o;have h1:=fun W G (hR:RefF r S W G)=>pfind_any 0 r S p W hpre.hp (by omega) (by omega) hpre.good.ok hR.is;have hOf:=fun(k:Nat) W G (hR:RefF r S W G)=>of_any 0 r S cl k W (by omega) hR.is;have FX:=pst hR kind p p2 flags fd off n data;rw[hf]at h1;simp only[toT]at h1;have HF:=hid h1;have HOF:=hid hOf;obtain⟨fr,hfr⟩:=nm (Pz.free S.O cl);have HFr:Hid (fr=Pz.freeN S.O cl (8-0) 0):=hid hfr;have hm:=Pz.find_lt hpre.good.ok hf;have HD:=hid fun W G (h:RefF r S W G)=>h.dirAt hm;obtain⟨q,hq⟩:=nm S.N.length;obtain⟨D,hD⟩:=nm (Pz.isDir S.N m);rw[←hq,←hD]at HD;rw[←hD,←hfr]at hres;have HRes:=hid hres;have hm1:(0:Int)≤m:=by omega
 have hm2:(m:Int)<q:=by omega
 clear h1 hOf hR hE hN hf hpre hfr hres hq hD hm;have key:((flags==0)=true∧(flags !=0)=false∧(flags==1)=false∧(flags !=1)=true∧(flags==3)=false∧(flags !=3)=true)∨((flags==0)=false∧(flags !=0)=true∧(flags==1)=true∧(flags !=1)=false∧(flags==3)=false∧(flags !=3)=true):=by rcases hfl with rfl|rfl<;>simp
 clear hfl;unfold callV;rcases key with⟨e0,d0,e1,d1,e3,d3⟩|⟨e0,d0,e1,d1,e3,d3⟩
 all_goals
  go_enter func48,ntmps48;go_wp2;go_loopw[7] (fun v wr=>∃k:Nat,k≤8∧v= .int .i64 k∧Hid (fr=Pz.freeN S.O cl (8-k) k)∧Hid (pFx (RefF r S) F w #[.int .i64 kind,.string p,.string p2,.int .i64 flags,.int .i64 fd,.int .i64 off,.int .i64 n,.string data] wr)) (fun v _=>8-(intOf v).toNat)
  case atStart=>exact⟨0,by omega,rfl,HFr.o,FX⟩
  case round=>
   obtain⟨k,hk,rfl,hfr,FX0⟩:=hrel;by_cases hk8:k<8
   case' pos=>
    have hk1:(k:Int)<8:=by omega
    have hk2:(0:Int)≤k:=by omega
    have ho:=HOF.o k;have hst:fr=if 0≤Pz.ofd S.O cl k then Pz.freeN S.O cl (8-(k+1)) (k+1)else k:=by
     rw[hfr.o,show 8-k=(8-(k+1))+1 by omega,Pz.freeN]
    generalize Pz.ofd S.O cl k=z at ho hst;have HOf:=hid ho;clear ho;by_cases hz0:0≤z
    case pos=>
     rw[if_pos hz0]at hst;have Hst:=hid hst;clear hst;go_wp2_with fail
     refine prd FX0 HOf fun w1 FX1=> ?_;go_wp2;go_roundw
     case rel=>exact⟨k+1,by omega,by go_num,Hst.o,FX1⟩
     case measure=>simp[intOf];omega
    rw[if_neg hz0]at hst;have Hst:=hid hst;clear hst;have hz1:z<0:=by omega
    have hk9:((k:Int)==8)=false:=by rw[beq_eq_false_iff_ne];omega
    go_wp2_with fail
    refine prd FX0 HOf fun w1 FX1=> ?_;obtain⟨b0,b1,b2,b3,b4,b5,b6,b7⟩:=FX1.o.c8
   case' neg=>
    obtain rfl:k=8:=by omega
    have Hst:Hid (fr=8):=hid (by rw[hfr.o];rfl);have FX1:=FX0;obtain⟨b0,b1,b2,b3,b4,b5,b6,b7⟩:=FX1.o.c8
   ·go_wp2_with fail
    refine prd FX1 HF fun w2 FX2=> ?_;clear b0 b1 b2 b3 b4 b5 b6 b7;obtain⟨b0,b1,b2,b3,b4,b5,b6,b7⟩:=FX2.o.c8;obtain⟨b,c,g,g0,_,_⟩:=HD.o _ _ FX2.o.inv
    cases D with
    |true=>
     have HResF:=hid (HRes.o.trans (if_pos rfl));go_wp2_with fail
     refine pfail FX2.o 13 fun wf FXF=> ?_;obtain⟨c0,c1,c2,c3,c4,c5,c6,f0,f1,f2,f3,f4,f5,f6⟩:=pcells FXF.o.res;go_wp2;try simp only[Exit.inBlock,Exit.then]
     exact pret HResF.o FXF.o none 0 (Or.inl rfl)
    |false=>
     have HResF:Hid (R=(S,Pz.er 17)):=hid (by rw[HRes.o,if_neg (by decide),Hst.o,if_pos rfl]);go_wp2_with fail
     refine pfail FX2.o 17 fun wf FXF=> ?_;obtain⟨c0,c1,c2,c3,c4,c5,c6,f0,f1,f2,f3,f4,f5,f6⟩:=pcells FXF.o.res;go_wp2;try simp only[Exit.inBlock,Exit.then]
     exact pret HResF.o FXF.o none 0 (Or.inl rfl)
   ·go_wp2_with fail
    refine prd FX1 HF fun w2 FX2=> ?_;clear b0 b1 b2 b3 b4 b5 b6 b7;obtain⟨b0,b1,b2,b3,b4,b5,b6,b7⟩:=FX2.o.c8;obtain⟨b,c,g,g0,_,_⟩:=HD.o _ _ FX2.o.inv
    cases D with
    |true=>
     have HResF:=hid (HRes.o.trans (if_pos rfl));go_wp2_with fail
     refine pfail FX2.o 13 fun wf FXF=> ?_;obtain⟨c0,c1,c2,c3,c4,c5,c6,f0,f1,f2,f3,f4,f5,f6⟩:=pcells FXF.o.res;go_wp2;try simp only[Exit.inBlock,Exit.then]
     exact pret HResF.o FXF.o none 0 (Or.inl rfl)
    |false=>
     have HResF:Hid (R=({S with O:=S.O++[⟨cl,k,m⟩]},Pz.fdR k)):=hid (by rw[HRes.o,if_neg (by decide),Hst.o,if_neg (by omega)]);obtain⟨vN,vE,vO,hA,hr,hiN,hiE,hiO⟩:=FX2.o.inv;have hba:=(Below.refl w2.heap.size w2).alloc (Nat.le_refl _) (.cells #[.int .i64 cl,.int .i64 k,.int .i64 m] 117);have HBa:=hid hba;have hoO:w2.ownsRow 0 117 3 vO S.O.length (cO S.O):=hA.oO;have gO:=hA.c2;have HA:=hid (hA.keep hba);have HI:=hid (And.intro hr (And.intro hiN (And.intro hiE hiO)));clear hba hA hr hiN hiE hiO
     go_wp2_with(at_builtin;go_loud (refine wpList_append_own_at _ rfl _ _ 111 rfl 0 117 i0 _ 3 24 underlying111 hi hy0 hy1 hy2 rfl (by decide) vO S.O.length (cO S.O) rfl (hoO.alloc _) ⟨w2.heap.size,0,none⟩ 1 1 [.int .i64 cl,.int .i64 k,.int .i64 m] rfl rfl ?_ (by intro u hu;simp at hu;rcases hu with rfl|rfl|rfl<;>rfl) (by unfold maxLen;omega) (by omega) (Nat.zero_le _) ?_))
     ·exact pcells_new3 _ _ _ _ _
     intro v' wa hown hgrow _ hat;have hA0:=HA.o;obtain⟨hr,hiN,hiE,hiO⟩:=HI.o;rw[show cO S.O++[.int .i64 cl,.int .i64 k,.int .i64 m]=cO (S.O++[⟨cl,k,m⟩]) by unfold cO;rw[Pz.three_snoc],show S.O.length+1=(S.O++[(⟨cl,k,m⟩:Pz.Op)]).length by simp]at hown;obtain⟨A',c',rfl,_,_⟩:=row3 hown;obtain⟨hR',hb'⟩:=hA0.putO hr hiN hiE hiO hgrow hown (lies_at (by simpa using hat));have hre:some r≠vO.ownBlock:=fun e=>hA0.aO e.symm;have c1':=(gcell (j:=2) hgrow hA0.lt hre).trans hA0.c2;have f1':=(gfrozen (j:=2) hgrow hA0.lt hre).trans (hA0.fr 2);have hB2:=(RefF.held _ _).back HBa.o hR' hb';rw[List.length_append,List.length_singleton]at hB2;have FXa:=hid (FX2.o.write (RefF.held _ _) hB2.1 hB2.2);clear hR' hA0 hown hb' hat hB2 hr hiN hiE hiO hre hgrow hoO gO;obtain⟨c0,c1,c2,c3,c4,c5,c6,f0,f1,f2,f3,f4,f5,f6⟩:=pcells FXa.o.res;go_wp2;try simp only[Exit.inBlock,Exit.then]
     exact pret HResF.o FXa.o none 0 (Or.inl rfl)
end Go.Proofs.YtckoobkjpndgnaaGreatDoor
