/- Walks: the document's open, where the path is no node's. -/
import Derived.Test.YtckoobkjpndgnaaGreatDoorW20
set_option linter.unusedVariables false
set_option linter.unusedSimpArgs false
set_option linter.unusedSectionVars false
set_option maxHeartbeats 8000000
set_option maxRecDepth 100000
namespace Go.Proofs.YtckoobkjpndgnaaGreatDoor
open Go.RowKit
open Lib(hid)
open Go.Proofs.Tryz
theorem toP_any(R:Except Int (Nat×List UInt8)):∃(a:Nat) (x:List UInt8) (g:Int),toP R= .tuple #[.int .i64 a,.string ⟨x.toArray⟩,.int .i64 g]:=by
 cases R with
 |error e=>exact⟨0,[],e,rfl⟩
 |ok q=>exact⟨q.1,q.2,0,rfl⟩
theorem ropen_err(r:Nat)(S:Pz.Fil)(cl kind flags fd off n:Int)(p p2 data:ByteArray)(w:World)(F:Nat→Prop)(hfl:flags=0∨flags=1∨flags=3)(hpre:OpenPre S p)(v:Int)(hf:Pz.find S p.data.toList= .error v)(hbad:flags=0∨v≠10∨∃g,Pz.place S p.data.toList= .error g)(hR:RefF r S w F):
 Calls prog 48 #[.pointer (some ⟨r,0,none⟩),.int .i64 cl,callV kind p p2 flags fd off n data] w (Does (RefF r) (S,Pz.er v) w F):=by
 have hE:=hpre.good.e;have hN:=hpre.good.n;have hOl:=hpre.good.o;have h1:=fun W G (hR:RefF r S W G)=>pfind_any 0 r S p W hpre.hp (by omega) (by omega) hpre.good.ok hR.is;have hOf:=fun(k:Nat) W G (hR:RefF r S W G)=>of_any 0 r S cl k W (by omega) hR.is;have FX:=pst hR kind p p2 flags fd off n data;rw[hf]at h1;simp only[toT]at h1;have HF:=hid h1;have HOF:=hid hOf;have h2:=fun W G (hR:RefF r S W G)=>place_any 0 r S p W hpre.hp (by omega) (by omega) hpre.good.ok hR.is;obtain⟨a,x,u,hP,hu⟩:∃(a:Nat) (x:List UInt8) (u:Int),toP (Pz.place S p.data.toList)= .tuple #[.int .i64 a,.string ⟨x.toArray⟩,.int .i64 u]∧(flags=0∨v≠10∨(u !=0)=true):=by
  rcases hbad with h|h|⟨g,h⟩
  ·obtain⟨a,x,u,hP⟩:=toP_any (Pz.place S p.data.toList);exact⟨a,x,u,hP,Or.inl h⟩
  ·obtain⟨a,x,u,hP⟩:=toP_any (Pz.place S p.data.toList);exact⟨a,x,u,hP,Or.inr (Or.inl h)⟩
  ·rw[h];exact⟨0,[],g,rfl,Or.inr (Or.inr (ne_of_err (Pz.place_err h)).1)⟩
 rw[hP]at h2;have HP:=hid h2;obtain⟨hv1,hv2,hv3⟩:=ne_of_err (Pz.find_err hf);obtain⟨fr,hfr⟩:=nm (Pz.free S.O cl);have HFr:Hid (fr=Pz.freeN S.O cl (8-0) 0):=hid hfr;have key:((flags==0)=true∧(flags !=0)=false∧(flags==1)=false∧(flags !=1)=true∧(flags==3)=false∧(flags !=3)=true)∨((flags==0)=false∧(flags !=0)=true∧(flags==1)=true∧(flags !=1)=false∧(flags==3)=false∧(flags !=3)=true)∨((flags==0)=false∧(flags !=0)=true∧(flags==1)=false∧(flags !=1)=true∧(flags==3)=true∧(flags !=3)=false):=by rcases hfl with rfl|rfl|rfl<;>simp
 have way:(v !=10)=true∨((v !=10)=false∧(u !=0)=true)∨((v !=10)=false∧(u !=0)=false∧(flags==0)=true):=by
  by_cases hv:v=10
  ·by_cases h:u=0
   ·rcases hu with h0|h0|h0
    ·right;right;simp[hv,h,h0]
    ·exact absurd hv h0
    ·rw[h]at h0;cases h0
   ·right;left;simp[hv,h]
  ·left;simp[hv]
 clear h1 h2 hP hOf hR hE hN hOl hf hpre hfr hbad hu hfl;unfold callV;rcases way with hv4|⟨hv4,hu1⟩|⟨hv4,hu1,hz⟩
 all_goals
  rcases key with⟨e0,d0,e1,d1,e3,d3⟩|⟨e0,d0,e1,d1,e3,d3⟩|⟨e0,d0,e1,d1,e3,d3⟩
 all_goals try(rw[e0]at hz;cases hz)
 all_goals
  go_enter func48,ntmps48;go_wp2;go_loopw[7] (fun v wr=>∃k:Nat,k≤8∧v= .int .i64 k∧Hid (fr=Pz.freeN S.O cl (8-k) k)∧Hid (pFx (RefF r S) F w #[.int .i64 kind,.string p,.string p2,.int .i64 flags,.int .i64 fd,.int .i64 off,.int .i64 n,.string data] wr)) (fun v _=>8-(intOf v).toNat)
  case atStart=>exact⟨0,by omega,rfl,HFr.o,FX⟩
  case round=>
   obtain⟨k,hk,rfl,hfr,FX0⟩:=hrel;by_cases hk8:k<8
   case' pos=>
    have hk1:(k:Int)<8:=by omega
    have hk2:(0:Int)≤k:=by omega
    have ho:=HOF.o k;have hst:fr=if 0≤Pz.ofd S.O cl k then Pz.freeN S.O cl (8-(k+1)) (k+1)else k:=by
     rw[hfr.o,show 8-k=(8-(k+1))+1 by omega,Pz.freeN]
    generalize Pz.ofd S.O cl k=z at ho hst;have HOf:=hid ho;clear ho;by_cases hz0:0≤z
    case pos=>
     rw[if_pos hz0]at hst;have Hst:=hid hst;clear hst;go_wp2_with fail
     refine prd FX0 HOf fun w1 FX1=> ?_;go_wp2;go_roundw
     case rel=>exact⟨k+1,by omega,by go_num,Hst.o,FX1⟩
     case measure=>simp[intOf];omega
    rw[if_neg hz0]at hst;have Hst:=hid hst;clear hst;have hz1:z<0:=by omega
    have hk9:((k:Int)==8)=false:=by rw[beq_eq_false_iff_ne];omega
    go_wp2_with fail
    refine prd FX0 HOf fun w1 FX1=> ?_;obtain⟨b0,b1,b2,b3,b4,b5,b6,b7⟩:=FX1.o.c8
   case' neg=>
    obtain rfl:k=8:=by omega
    have Hst:Hid (fr=8):=hid (by rw[hfr.o];rfl);have FX1:=FX0;obtain⟨b0,b1,b2,b3,b4,b5,b6,b7⟩:=FX1.o.c8
   all_goals
    go_wp2_with fail
    refine prd FX1 HF fun w2 FX2=> ?_;clear b0 b1 b2 b3 b4 b5 b6 b7;obtain⟨b0,b1,b2,b3,b4,b5,b6,b7⟩:=FX2.o.c8;go_wp2_with fail
    refine prd FX2 HP fun w3 FX3=> ?_;clear b0 b1 b2 b3 b4 b5 b6 b7;obtain⟨b0,b1,b2,b3,b4,b5,b6,b7⟩:=FX3.o.c8;go_wp2_with fail
    refine pfail FX3.o v fun wf FXF=> ?_;obtain⟨c0,c1,c2,c3,c4,c5,c6,f0,f1,f2,f3,f4,f5,f6⟩:=pcells FXF.o.res;go_wp2;try simp only[Exit.inBlock,Exit.then]
    exact pret rfl FXF.o none 0 (Or.inl rfl)
theorem ropen_new(r:Nat)(S:Pz.Fil)(cl kind flags fd off n:Int)(p p2 data:ByteArray)(w:World)(F:Nat→Prop)(hfl:flags=1∨flags=3)(hpre:OpenPre S p)(hf:Pz.find S p.data.toList= .error 10)(d:Nat)(x:List UInt8)(hpl:Pz.place S p.data.toList= .ok (d,x))(R:Pz.Fil×Pz.Rep)(hres:R=if Pz.free S.O cl=8 then(S,Pz.er 17)else({N:=S.N++[⟨false,[],1⟩],E:=S.E++[⟨d,x,S.N.length⟩],O:=S.O++[⟨cl,Pz.free S.O cl,S.N.length⟩]},Pz.fdR (Pz.free S.O cl)))(hR:RefF r S w F):
 Calls prog 48 #[.pointer (some ⟨r,0,none⟩),.int .i64 cl,callV kind p p2 flags fd off n data] w (Does (RefF r) R w F):=by
 obtain⟨i0,hi,hy0,hy1,hy2⟩:=info_parts infoO;have hE:=hpre.good.e;have hN:=hpre.good.n;have hOl:=hpre.good.o;have h1:=fun W G (hR:RefF r S W G)=>pfind_any 0 r S p W hpre.hp (by omega) (by omega) hpre.good.ok hR.is;have hOf:=fun(k:Nat) W G (hR:RefF r S W G)=>of_any 0 r S cl k W (by omega) hR.is;have FX:=pst hR kind p p2 flags fd off n data;rw[hf]at h1;simp only[toT]at h1;have HF:=hid h1;have HOF:=hid hOf;have h2:=fun W G (hR:RefF r S W G)=>place_any 0 r S p W hpre.hp (by omega) (by omega) hpre.good.ok hR.is;rw[hpl]at h2;simp only[toP]at h2;have HP:=hid h2;have HNode:=hid fun W G (h:RefF r S W G)=>node_any r S false W G (by omega) h;have HPut:=hid fun W G (h:RefF r {S with N:=S.N++[⟨false,[],1⟩]} W G)=>pput_any r {S with N:=S.N++[⟨false,[],1⟩]} d S.N.length ⟨x.toArray⟩ W G (show S.E.length≤_ by omega) h;obtain⟨fr,hfr⟩:=nm (Pz.free S.O cl);have HFr:Hid (fr=Pz.freeN S.O cl (8-0) 0):=hid hfr
 rw[←hfr]at hres;have HRes:=hid hres;clear h1 h2 hOf hR hE hN hf hpre hfr hres hpl;have key:((flags==0)=false∧(flags !=0)=true∧(flags==1)=true∧(flags !=1)=false∧(flags==3)=false∧(flags !=3)=true)∨((flags==0)=false∧(flags !=0)=true∧(flags==1)=false∧(flags !=1)=true∧(flags==3)=true∧(flags !=3)=false):=by rcases hfl with rfl|rfl<;>simp
 clear hfl;unfold callV;rcases key with⟨e0,d0,e1,d1,e3,d3⟩|⟨e0,d0,e1,d1,e3,d3⟩
 all_goals
  go_enter func48,ntmps48;go_wp2;go_loopw[7] (fun v wr=>∃k:Nat,k≤8∧v= .int .i64 k∧Hid (fr=Pz.freeN S.O cl (8-k) k)∧Hid (pFx (RefF r S) F w #[.int .i64 kind,.string p,.string p2,.int .i64 flags,.int .i64 fd,.int .i64 off,.int .i64 n,.string data] wr)) (fun v _=>8-(intOf v).toNat)
  case atStart=>exact⟨0,by omega,rfl,HFr.o,FX⟩
  case round=>
   obtain⟨k,hk,rfl,hfr,FX0⟩:=hrel;by_cases hk8:k<8
   case' pos=>
    have hk1:(k:Int)<8:=by omega
    have hk2:(0:Int)≤k:=by omega
    have ho:=HOF.o k;have hst:fr=if 0≤Pz.ofd S.O cl k then Pz.freeN S.O cl (8-(k+1)) (k+1)else k:=by
     rw[hfr.o,show 8-k=(8-(k+1))+1 by omega,Pz.freeN]
    generalize Pz.ofd S.O cl k=z at ho hst;have HOf:=hid ho;clear ho;by_cases hz0:0≤z
    case pos=>
     rw[if_pos hz0]at hst;have Hst:=hid hst;clear hst;go_wp2_with fail
     refine prd FX0 HOf fun w1 FX1=> ?_;go_wp2;go_roundw
     case rel=>exact⟨k+1,by omega,by go_num,Hst.o,FX1⟩
     case measure=>simp[intOf];omega
    rw[if_neg hz0]at hst;have Hst:=hid hst;clear hst;have hz1:z<0:=by omega
    have hk9:((k:Int)==8)=false:=by rw[beq_eq_false_iff_ne];omega
    go_wp2_with fail
    refine prd FX0 HOf fun w1 FX1=> ?_;obtain⟨b0,b1,b2,b3,b4,b5,b6,b7⟩:=FX1.o.c8
   case' neg=>
    obtain rfl:k=8:=by omega
    have Hst:Hid (fr=8):=hid (by rw[hfr.o];rfl);have FX1:=FX0;obtain⟨b0,b1,b2,b3,b4,b5,b6,b7⟩:=FX1.o.c8
   ·go_wp2_with fail
    refine prd FX1 HF fun w2 FX2=> ?_;clear b0 b1 b2 b3 b4 b5 b6 b7;obtain⟨b0,b1,b2,b3,b4,b5,b6,b7⟩:=FX2.o.c8;go_wp2_with fail
    refine prd FX2 HP fun w3 FX3=> ?_;clear b0 b1 b2 b3 b4 b5 b6 b7;obtain⟨b0,b1,b2,b3,b4,b5,b6,b7⟩:=FX3.o.c8;have HResF:Hid (R=(S,Pz.er 17)):=hid (by rw[HRes.o,Hst.o,if_pos rfl]);go_wp2_with fail
    refine pfail FX3.o 17 fun wf FXF=> ?_;obtain⟨c0,c1,c2,c3,c4,c5,c6,f0,f1,f2,f3,f4,f5,f6⟩:=pcells FXF.o.res;go_wp2;try simp only[Exit.inBlock,Exit.then]
    exact pret HResF.o FXF.o none 0 (Or.inl rfl)
   ·go_wp2_with fail
    refine prd FX1 HF fun w2 FX2=> ?_;clear b0 b1 b2 b3 b4 b5 b6 b7;obtain⟨b0,b1,b2,b3,b4,b5,b6,b7⟩:=FX2.o.c8;go_wp2_with fail
    refine prd FX2 HP fun w3 FX3=> ?_;clear b0 b1 b2 b3 b4 b5 b6 b7;obtain⟨b0,b1,b2,b3,b4,b5,b6,b7⟩:=FX3.o.c8;have HResF:Hid (R=({N:=S.N++[⟨false,[],1⟩],E:=S.E++[⟨d,x,S.N.length⟩],O:=S.O++[⟨cl,k,S.N.length⟩]},Pz.fdR k)):=hid (by rw[HRes.o,Hst.o,if_neg (by omega)]);go_wp2_with fail
    refine pwr FX3 HNode fun w4 FX4=> ?_;clear b0 b1 b2 b3 b4 b5 b6 b7;go_wp2_with fail
    refine pwr FX4 HPut fun w5 FX5=> ?_;obtain⟨vN,vE,vO,hA,hr,hiN,hiE,hiO⟩:=FX5.o.inv;have hba:=(Below.refl w5.heap.size w5).alloc (Nat.le_refl _) (.cells #[.int .i64 cl,.int .i64 k,.int .i64 S.N.length] 117);have HBa:=hid hba;have hoO:w5.ownsRow 0 117 3 vO S.O.length (cO S.O):=hA.oO;have gO:=hA.c2;have HA:=hid (hA.keep hba);have HI:=hid (And.intro hr (And.intro hiN (And.intro hiE hiO)));clear hba hA hr hiN hiE hiO
    go_wp2_with(at_builtin;go_loud (refine wpList_append_own_at _ rfl _ _ 111 rfl 0 117 i0 _ 3 24 underlying111 hi hy0 hy1 hy2 rfl (by decide) vO S.O.length (cO S.O) rfl (hoO.alloc _) ⟨w5.heap.size,0,none⟩ 1 1 [.int .i64 cl,.int .i64 k,.int .i64 S.N.length] rfl rfl ?_ (by intro u hu;simp at hu;rcases hu with rfl|rfl|rfl<;>rfl) (by unfold maxLen;omega) (by omega) (Nat.zero_le _) ?_))
    ·exact pcells_new3 _ _ _ _ _
    intro v' wa hown hgrow _ hat;have hA0:=HA.o;obtain⟨hr,hiN,hiE,hiO⟩:=HI.o;rw[show cO S.O++[.int .i64 cl,.int .i64 k,.int .i64 S.N.length]=cO (S.O++[⟨cl,k,S.N.length⟩]) by unfold cO;rw[Pz.three_snoc],show S.O.length+1=(S.O++[(⟨cl,k,S.N.length⟩:Pz.Op)]).length by simp]at hown;obtain⟨A',c',rfl,_,_⟩:=row3 hown;obtain⟨hR',hb'⟩:=hA0.putO hr hiN hiE hiO hgrow hown (lies_at (by simpa using hat));have hre:some r≠vO.ownBlock:=fun e=>hA0.aO e.symm;have c1':=(gcell (j:=2) hgrow hA0.lt hre).trans hA0.c2;have f1':=(gfrozen (j:=2) hgrow hA0.lt hre).trans (hA0.fr 2);have hB2:=(RefF.held _ _).back HBa.o hR' hb';rw[List.length_append,List.length_singleton]at hB2;have FXa:=hid (FX5.o.write (RefF.held _ _) hB2.1 hB2.2);clear hR' hA0 hown hb' hat hB2 hr hiN hiE hiO hre hgrow hoO gO;obtain⟨c0,c1,c2,c3,c4,c5,c6,f0,f1,f2,f3,f4,f5,f6⟩:=pcells FXa.o.res;go_wp2;try simp only[Exit.inBlock,Exit.then]
    exact pret HResF.o FXa.o none 0 (Or.inl rfl)
end Go.Proofs.YtckoobkjpndgnaaGreatDoor
