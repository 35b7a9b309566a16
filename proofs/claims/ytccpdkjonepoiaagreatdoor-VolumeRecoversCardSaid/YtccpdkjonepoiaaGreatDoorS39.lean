/- Walk: commonslaw17: VolumeRecovers. -/
import Derived.Test.YtccpdkjonepoiaaGreatDoorS36
import Derived.Deep.CutBlock
set_option linter.unusedVariables false
set_option linter.unusedSimpArgs false
set_option linter.unusedSectionVars false
set_option maxHeartbeats 8000000
set_option maxRecDepth 100000
namespace Go.Proofs.YtccpdkjonepoiaaGreatDoor
open Go.RowKit
open Lib(hid)
open Go.Proofs.Tryz
open Go.Shelf
attribute [local go_sem] Oper.semAt_some
theorem law_vrecovers(A:Option Addr)(L:List Dd)(c:Nat)(m:Int)(A2:Option Addr)(N2 c2:Nat)(w:World)(hl:L.length≤9223372036854775807)(hA:Dds w A L)(hD:∀d∈L,Y4 w d)(hm:I64 m)(hn2:N2≤c2)(hc2:c2≤9223372036854775807)(hP:jb w A2 N2)(hM:Mx w):
 Calls prog 8 #[.slice A L.length c,.int .i64 m,.slice A2 N2 c2] w fun e w'=>e= .returned (.bool true)∧Below w.heap.size w w':=by
 have HBg:=hid (vq w hM);have HA:=hid hA;have HD:=hid hD;have HP:=hid hP;obtain⟨n,hn⟩:=nm L.length;rw[←hn]at hl⊢;have Hn:=hid hn;have HM:=hid hm;unfold I64 at hm;have HN2:=hid (And.intro hn2 hc2);clear hA hD hn hM hP;go_enter func8,ntmps8;go_wp2_with fail
 refine HBg.o.mono ?_;rintro e w1 ⟨mn,p,rfl,hbg⟩;obtain⟨R,o,x,t,f,hv⟩:=JB hbg;have HV:=hid hv;clear hbg hv HBg;go_upto_block 0 with fail
 go_cut[8,9] from 20 to 43 (fun s8 s9 wx=>∃(V:Gd.Vl) (o x t f:Nat),Hid (V.Ok∧V.Inv∧V.n≤9604)∧Hid (Bv o x t f R V V 40665100000 w wx [(p,zo o R.r)]))
 case first=>
  go_wp2_with fail
  go_loopw[8] (fun z wr=>∃(k:Nat) (V:Gd.Vl) (o x t f:Nat),z= .int .i64 k∧k≤n∧k≤20∧Hid (V.Ok∧V.Inv∧V.n≤4+480*k)∧Hid (Bv o x t f R V V (665100000+2000000000*k) w wr [(p,zo o R.r)])) (fun z _=>20-(intOf z).toNat)
  case atStart=>exact⟨0,Zo,o,x,t,f,rfl,by omega,by omega,hid ⟨Qr,US,Nat.le_refl _⟩,HV⟩
  case round=>
   obtain⟨k,V,o,x,t,f,rfl,hkn,hk,HO,HV⟩:=hrel;by_cases hlt:k<n∧k<20
   ·obtain⟨hk1,hk2⟩:=hlt;obtain⟨d,hd⟩:∃d,L[k]? =some d:=⟨_,List.getElem?_eq_getElem (by have:=Hn.o;omega)⟩;obtain⟨b,q,rfl,HRw⟩:∃b q,A=some ⟨b,q,none⟩∧Hid (∀W,Below wr.heap.size wr W→W.rangeAt b (q+k*14) (ddC d).toList):=by
     rcases HA.o with h|⟨b,q,h1,h2,h3⟩
     ·rw[h]at hd;simp at hd
     ·exact⟨b,q,h1,hid fun W hW i v hi=>((HV.o.below hW).belowW.cell (p:=⟨b,q+k*14+i,none⟩) h2).trans (h3 k d hd i v hi)⟩
    have HFa:=hid (UR HV.o d);have HDd:=hid (HD.o d (List.mem_of_getElem? hd));obtain⟨fb,hfb⟩:=nm (UP V d);rw[←hfb]at HFa;have HFb:=hid hfb;have i1:(k:Int)<n:=by omega
    have i2:(k:Int)<20:=by omega
    have i0:(0:Int)≤k:=by omega
    have hrow:=HRw.o wr (Below.refl _ _);clear hd hfb;go_wp2_with(refine wpList_load_mid rfl 60 _ rfl b (q+k*14) rfl (ddC d).toList _ hrow underlying60 rfl sizeDd ?_)
    refine HFa.o.mono ?_;rintro e w2 ⟨rfl,hb2⟩;have HB2:=hid hb2;have H2:=hid (HV.o.below hb2);clear hrow HFa hb2
    cases fb with
    |true=>
     go_wp2_with fail
     go_roundw
     case rel=>exact⟨k+1,V,o,x,t,f,by go_num,by omega,by omega,hid ⟨HO.o.1,HO.o.2.1,by have:=HO.o.2.2;omega⟩,hid (H2.o.more (by omega))⟩
     case measure=>simp[intOf];omega
    |false=>
     have hrow:=HRw.o w2 HB2.o;have HDo:=hid (Ju H2.o HO.o.1 d HDd.o (by omega) (by have:=HO.o.2.2;omega));have HO2:Hid ((doD V d).Ok∧(doD V d).Inv∧(doD V d).n≤4+480*(k+1)):=hid ⟨YN HO.o.1 d,UU HO.o.2.1 HO.o.1 HFb.o.symm,by have:=(VR V d).2;have:=HO.o.2.2;omega⟩;go_wp2_with(refine wpList_load_mid rfl 60 _ rfl b (q+k*14) rfl (ddC d).toList _ hrow underlying60 rfl sizeDd ?_)
     refine HDo.o.mono ?_;rintro e w3 ⟨rfl,o2,x2,t2,f2,h3⟩;have H3:=hid h3;clear h3 hrow HDo;go_wp2_with fail
     go_roundw
     case rel=>exact⟨k+1,doD V d,o2,x2,t2,f2,by go_num,by omega,by omega,HO2,hid (by rw[show 665100000+2000000000*(k+1)=(665100000+2000000000*k)+2000000000 by omega];exact H3.o)⟩
     case measure=>simp[intOf];omega
   ·by_cases h1:k<n
    ·have h2:k=20:=by omega
     have i1:(k:Int)<n:=by omega
     have i2:¬(k:Int)<20:=by omega
     clear hlt h2;go_wp2_with fail
     go_meet
     exact⟨V,o,x,t,f,hid ⟨HO.o.1,HO.o.2.1,by have:=HO.o.2.2;omega⟩,hid (HV.o.more (by omega))⟩
    ·have i1:¬(k:Int)<n:=by omega
     clear hlt;go_wp2_with fail
     go_meet
     exact⟨V,o,x,t,f,hid ⟨HO.o.1,HO.o.2.1,by have:=HO.o.2.2;omega⟩,hid (HV.o.more (by omega))⟩
 case rest=>
 obtain⟨V,o1,x1,t1,f1,HO,HV1⟩:=hcut;obtain⟨w2,rfl⟩:=nm wc;clear HV hl;have HN:Hid (∀W,Below w2.heap.size w2 W→Bv o1 x1 t1 f1 R V V 40665100000 w W [(p,zo o1 R.r)]):=hid fun W hW=>HV1.o.below hW;go_upto_region 12 with fail
 go_loopw[10] (fun z wr=>∃k:Nat,z= .int .i64 ((k:Int)+1)∧k≤8∧Hid (∀c,1≤c→c≤k→(V.s c).e<536870912)∧Hid (Below w2.heap.size w2 wr)) (fun z _=>9-(intOf z).toNat)
 case atStart=>exact⟨0,rfl,by omega,hid fun c h1 h2=>by omega,hid (Below.refl _ _)⟩
 case round=>
  obtain⟨d,rfl,hd,HE,HB⟩:=hrel;by_cases hlt:d<8
  ·have h1:(d:Int)+1≤8:=by omega
   have hwr:IntKind.i64.wrap ((d:Int)+1-1)=(d:Int):=by rw[IntKind.wrap_i64];omega
   have hwr2:IntKind.i64.wrap (d:Int)=(d:Int):=by rw[IntKind.wrap_i64];omega
   have hd1:(d:Int)<8:=by omega
   have hd0:(0:Int)≤d:=by omega
   obtain⟨-,p1,p2⟩:=zl ((HN.o wr HB.o).get (k:=p) (List.mem_singleton.2 rfl));obtain⟨cc,-,-,a0,-,-,-,-⟩:=(HN.o wr HB.o).ref.c4;have hsl:wr.cell? ⟨R.g1,d*6,none⟩=some (.int .i64 ((V.s (d+1)).e:Nat)):=(HN.o wr HB.o).ref.slot hlt 0 (by omega);obtain⟨ev,hev⟩:=nm ((V.s (d+1)).e);rw[←hev]at hsl;have HEv:=hid hev;have HD8:=hid hlt;clear p1 hev hlt hd;by_cases he:ev<536870912
   ·have he1:¬(536870912:Int)≤(ev:Int):=by omega
    have HE2:Hid (∀c,1≤c→c≤d+1→(V.s c).e<536870912):=hid fun c c1 c2=>by
     by_cases e:c=d+1
     ·rw[e,←HEv.o];exact he
     ·exact HE.o c c1 (by omega)
    clear he;go_wp2_with fail
    go_roundw
    case rel=>exact⟨d+1,by go_num,by have:=HD8.o;omega,HE2,HB⟩
    case measure=>simp[intOf];have:=HD8.o;omega
   ·have he1:(536870912:Int)≤(ev:Int):=by omega
    have HLv:=hid (xF wr);clear he;go_wp2_with fail
    refine HLv.o.mono ?_;rintro e w3 ⟨rfl,hb3⟩;have HB3:=hid (((HN.o wr HB.o).below hb3).belowW);clear hb3 HLv p2 a0 hsl;go_wp2_with fail
    go_ret
    exact⟨rfl,HB3.o⟩
  ·have h1:¬(d:Int)+1≤8:=by omega
   have hsees:=Gd.Vl.recov_sees (V:=V) fun c c1 c2=>by have:=HE.o c c1 (by omega);omega
   have HSee:=hid hsees;have HTw:=hid (fun k (hk:k≤8)=>Gd.Vl.recov_twice HO.o.2.1 (fun c c1 c2=>HE.o c c1 (by omega)) hk);have HV2:=hid (HN.o wr HB.o);clear hlt hd hsees HE HN HV1;go_upto_if 63 with fail
   obtain⟨bq,hbq⟩:=nm (decide (m<0));rw[←hbq];have HBq:=hid hbq;clear hbq;go_cut[1] from 64 to 66 (fun z wx=>(∃q:Nat,z= .int .i64 q)∧wx=wr)
   case first=>
    have hm2:=HM.o.lo;obtain⟨hm3,hm4⟩:=hm2
    cases bq with
    |true=>
     have h1:m<0:=of_decide_eq_true HBq.o.symm;go_wp2_with fail
     go_meet
     exact⟨⟨(-(m+1)).toNat,by congr 1;omega⟩,rfl⟩
    |false=>
     have h1:¬m<0:=of_decide_eq_false HBq.o.symm;go_wp2_with fail
     go_meet
     exact⟨⟨m.toNat,by congr 1;omega⟩,rfl⟩
   case rest=>
   obtain⟨⟨q,rfl⟩,hwc⟩:=hcut;subst wc;clear hm HBq;go_upto_region 19 with fail
   go_loopw[11] (fun z wr=>∃k:Nat,z= .int .i64 ((k:Int)+1)∧k≤q % 9∧Hid (Bv o1 x1 t1 f1 R (V.recov k).1 V (40665100000+202000000*k) w wr [(p,zo o1 R.r)])) (fun z _=>10-(intOf z).toNat)
   case atStart=>exact⟨0,rfl,by omega,HV2⟩
   case round=>
    obtain⟨k,rfl,hkq,HW⟩:=hrel;have hk8:k≤8:=by omega
    by_cases hlt:k<q % 9
    ·have g1:(k:Int)+1≤(q:Int) % 9:=by omega
     have HK:Hid (k<q % 9∧k<8):=hid ⟨hlt,by omega⟩;have HOk:=hid (HO.o.1.recov k hk8);have HNk:Hid ((V.recov k).1.n≤20000):=hid (by have:=(V.recov_n k).2;have:=HO.o.2.2;omega);have ht:=HW.o.takeV HOk.o (k+1) (by omega) (by omega) (by omega) (by have:=HNk.o;omega);rw[show((k+1:Nat):Int)=(k:Int)+1 by omega]at ht;have HT:=hid ht;obtain⟨-,p1,-⟩:=zl (HW.o.get (k:=p) (List.mem_singleton.2 rfl));clear ht hlt hkq hk8;go_wp2_with fail
     refine HT.o.mono ?_;rintro e w4 ⟨u,rfl,-,h4⟩;have hf:=h4.fenceV (k+1) (by omega) (by have:=HK.o.2;omega) (by have:=HK.o.2;omega) (by have:=((V.recov k).1.take_n (k+1)).2;have:=HNk.o;omega);rw[show((k+1:Nat):Int)=(k:Int)+1 by omega]at hf;obtain⟨E,hE⟩:∃E:Int,E=(if(((V.recov k).1.take (k+1)).s (k+1)).e<1073741824 then 0 else 1):=⟨_,rfl⟩;rw[←hE]at hf;have HF:=hid hf;have hp4:=zl (h4.get (k:=p) (List.mem_singleton.2 rfl));clear p1 h4 hf hE HT;obtain⟨-,p1,-⟩:=hp4;go_wp2_with fail
     refine HF.o.mono ?_;rintro e w5 ⟨rfl,h5⟩;have H5:Hid (Bv o1 x1 t1 f1 R (V.recov (k+1)).1 V (40665100000+202000000*(k+1)) w w5 [(p,zo o1 R.r)]):=hid (by
      rw[Gd.Vl.recov_go (HSee.o k (by have:=HK.o.2;omega)).1];exact h5.more (by omega))
     clear h5 p1 HF;go_wp2_with fail
     go_roundw
     case rel=>exact⟨k+1,by go_num,by have:=HK.o.1;omega,H5⟩
     case measure=>simp[intOf];have:=HK.o.2;omega
    ·have g1:¬(k:Int)+1≤(q:Int) % 9:=by omega
     have HK8:=hid hk8;clear hlt hkq;go_upto_if 87 with fail
     obtain⟨bq,hbq⟩:=nm (decide ((300:Int)<N2));rw[←hbq];have HBq:=hid hbq;clear hbq;go_cut[2] from 88 to 89 (fun z wx'=>(∃N3:Nat,z= .slice A2 N3 c2∧N3≤300∧Hid (N3≤N2))∧wx'=wr)
     case first=>
      cases bq with
      |true=>
       have h2:(300:Int)<N2:=of_decide_eq_true HBq.o.symm;have h3:(300:Int)≤c2:=by omega
       go_wp2_with fail
       go_meet
       exact⟨⟨300,rfl,by omega,hid (by omega)⟩,rfl⟩
      |false=>
       have h2:¬(300:Int)<N2:=of_decide_eq_false HBq.o.symm;go_wp2_with fail
       go_meet
       exact⟨⟨N2,rfl,by omega,hid (by omega)⟩,rfl⟩
     case rest=>
     obtain⟨⟨N3,rfl,hN3,HN3⟩,hwc⟩:=hcut;subst wc;clear hn2 hc2 g1 HBq;have HAg:=hid (HW.o.again (pn:=N3) (pc:=c2) (pA:=A2) (fun q hq=>by cases hq) (by
      rcases HP.o with h|⟨b,q,h1,h2,h3⟩
      ·exact Or.inl (by have:=HN3.o;omega)
      ·exact Or.inr ⟨b,q,h1,Nat.lt_of_lt_of_le h2 HW.o.belowW.size,fun j hj=>by
        obtain⟨y,hy⟩:=h3 j (by have:=HN3.o;omega);exact⟨y,(HW.o.belowW.cell (p:=⟨b,q+j,none⟩) h2).trans hy⟩⟩) (by
      intro h0 b q e;rcases HP.o with h|⟨b',q',h1,h2,-⟩
      ·have:=HN3.o;omega
      ·rw[e]at h1;have e2:b=b':=by injection h1 with h1;injection h1
       omega) (by omega) (by have:=HK8.o;omega))
     go_wp2_with fail
     refine HAg.o.mono ?_;rintro e w4 ⟨rfl,o2,x2,t2,f2,h4⟩;have H4:=hid h4;have hrv:=h4.recoverV (HO.o.1.recov k HK8.o) (by have:=HK8.o;omega) (by have:=(V.recov_n k).2;have:=HO.o.2.2;have:=HK8.o;omega);rw[(HTw.o k HK8.o).1]at hrv;have HRv:Hid (Calls prog 38 #[.pointer (some ⟨o2,0,none⟩)] w4 fun e b=>e= .returned (.int .i64 0)∧Bv o2 x2 t2 f2 R ((V.recov k).1.recov 8).1 V (40665100000+202000000*k+700000000+1700000000) w b [(p,zo o2 R.r)]):=hid hrv;have hp4:=zl (h4.get (k:=p) (List.mem_singleton.2 rfl));clear h4 hrv HAg;obtain⟨-,p1,-⟩:=hp4;go_wp2_with fail
     refine HRv.o.mono ?_;rintro e w5 ⟨rfl,h5⟩;have H5:=hid h5;have hrr:=Zl h5.ref HO.o.1 (by have:=HO.o.2.2;omega);rw[(HTw.o k HK8.o).2.1]at hrr;have HRr:Hid (Calls prog 39 #[.pointer (some ⟨R.r,0,none⟩)] w5 fun e w'=>e= .returned (.int .i64 0)∧RvC R (V.recov 8).1 w'∧zi R.has w5 w'):=hid hrr;have hp5:=zl (h5.get (k:=p) (List.mem_singleton.2 rfl));clear h5 hrr p1 HRv;obtain⟨-,p1,p2⟩:=hp5;go_wp2_with fail
     refine HRr.o.mono ?_;rintro e w6 ⟨rfl,hC6,hO6⟩;have H6:=hid (H5.o.turn hO6 hC6 fun q hq=>by
      rw[List.mem_singleton.1 hq];exact H5.o.apart (List.mem_singleton.2 rfl))
     clear hC6 hO6 p1 p2 HRr;obtain⟨Vend,hVend⟩:=nm (((V.recov k).1.recov 8).1);have hfs:=(HTw.o k HK8.o).2.2.1;have hpe:=(HTw.o k HK8.o).2.2.2;have hok8:=(HO.o.1.recov k HK8.o).recov 8 (by omega);rw[←hVend]at H6 hfs hpe hok8;have HF8:=hid (And.intro hfs (And.intro hpe hok8));clear hVend hfs hpe hok8 H4 H5;have hN:Hid (∀W,Below w6.heap.size w6 W→Bv o2 x2 t2 f2 R Vend (V.recov 8).1 (40665100000+202000000*k+700000000+1700000000) w W [(p,zo o2 R.r)]):=hid fun W hW=>H6.o.below hW;obtain⟨cc1,cc2,cc3,-,-,a2,-,-⟩:=H6.o.ref.c4;have hlt6:=H6.o.ref.lt R.has_r;have HPp:Hid (∀W,Below w6.heap.size w6 W→(W.cell? ⟨p,1,none⟩=some (.pointer (some ⟨o2,0,none⟩))∧W.cell? ⟨p,2,none⟩=some (.pointer (some ⟨R.r,0,none⟩))∧W.cell? ⟨R.r,2,none⟩=some (.slice (some ⟨R.g2,0,none⟩) 4 cc2))):=hid fun W hW=>by
      have:=zl ((hN.o W hW).get (k:=p) (List.mem_singleton.2 rfl))
      exact⟨this.2.1,this.2.2,(hW.cell (p:=⟨R.r,2,none⟩) hlt6).trans a2⟩
     clear a2 hlt6;go_upto_region 29 with fail
     go_loopw[13] (fun z wr=>∃j:Nat,z= .int .i64 j∧j≤4∧Hid (Below w6.heap.size w6 wr)) (fun z _=>4-(intOf z).toNat)
     case atStart=>exact⟨0,rfl,by omega,hid (Below.refl _ _)⟩
     case round=>
      obtain⟨j,rfl,hj,HBk⟩:=hrel;by_cases hlt:j<4
      ·have h1:(j:Int)<4:=by omega
       have h0:(0:Int)≤j:=by omega
       obtain⟨p1,p2,-⟩:=HPp.o wr HBk.o;have HFi:=hid (vG wr (hN.o wr HBk.o).vol);have hfb:=(hN.o wr HBk.o).filesB (j+2) (by omega) (by omega);rw[show((j+2:Nat):Int)=(j:Int)+2 by omega,HF8.o.1]at hfb;have Hlt:=hid hlt;obtain⟨st,hst⟩:∃st:ByteArray,st=⟨((V.recov 8).1.fs (j+2)).toArray⟩:=⟨_,rfl⟩;rw[←hst]at hfb;have HFb:=hid hfb;have HSt:=hid hst;clear hfb hlt hst;go_wp2_with fail
       refine HFi.o.mono ?_;rintro e w7 ⟨rfl,rfl⟩;go_wp2_with fail
       refine HFb.o.mono ?_;rintro e w8 ⟨rfl,hb8⟩;have HB8:=HBk.t hb8;clear p1 p2 hb8 HFi HFb;obtain⟨p1,p2,q2⟩:=HPp.o w8 HB8.o;have q3:=(hN.o w8 HB8.o).ref.file Hlt.o;rw[←HSt.o]at q3;go_wp2_with fail
       go_roundw
       case rel=>exact⟨j+1,by go_num,by have:=Hlt.o;omega,HB8⟩
       case measure=>simp[intOf];have:=Hlt.o;omega
      ·have h4:¬(j:Int)<4:=by omega
       clear hlt;go_upto_region 35 with fail
       go_loopw[16] (fun z wr=>∃j:Nat,z= .int .i64 ((j:Int)+1)∧j≤8∧Hid (Below w6.heap.size w6 wr)) (fun z _=>9-(intOf z).toNat)
       case atStart=>exact⟨0,rfl,by omega,HBk⟩
       case round=>
        obtain⟨j,rfl,hj,HBj⟩:=hrel;by_cases hlt:j<8
        ·have h1:(j:Int)+1≤8:=by omega
         obtain⟨p1,-,-⟩:=HPp.o wr HBj.o;have hpd:=(hN.o wr HBj.o).pendV HF8.o.2.2 (j+1) (by omega) (by omega);rw[show((j+1:Nat):Int)=(j:Int)+1 by omega,HF8.o.2.1 (j+1) (by omega) (by omega)]at hpd;have HPd:=hid hpd;have Hlt:=hid hlt;clear hpd hlt;go_wp2_with fail
         refine HPd.o.mono ?_;rintro e w9 ⟨u9,rfl,hr9,hb9⟩;obtain⟨A9,c9,rfl⟩:=UO hr9 rfl;have HB9:=HBj.t hb9;clear p1 hr9 hb9 HPd;go_wp2_with fail
         go_roundw
         case rel=>exact⟨j+1,by go_num,by have:=Hlt.o;omega,HB9⟩
         case measure=>simp[intOf];have:=Hlt.o;omega
        ·obtain rfl:j=8:=by omega
         have h1:¬(((8:Nat):Int)+1)≤8:=by omega
         have HLv:=hid (xF wr);clear hlt;go_wp2_with fail
         refine HLv.o.mono ?_;rintro e w10 ⟨rfl,hb10⟩;have HB10:=hid (((hN.o wr HBj.o).below hb10).belowW);clear hb10 HLv;go_wp2_with fail
         go_ret
         exact⟨rfl,HB10.o⟩
end Go.Proofs.YtccpdkjonepoiaaGreatDoor
