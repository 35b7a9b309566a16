/- Walks: commonslaw14: MetaWalks. -/
import Derived.Test.YtjlpkbhgphjpeaaGreatDoorV39
set_option linter.unusedVariables false
set_option linter.unusedSimpArgs false
set_option linter.unusedSectionVars false
set_option maxHeartbeats 8000000
set_option maxRecDepth 100000
namespace Go.Proofs.YtjlpkbhgphjpeaaGreatDoor
open Go.RowKit
open Lib(hid)
open Go.Proofs.Tryz
open Go.Shelf
attribute [local go_sem] Oper.semAt_some
namespace Gd
theorem walkT_zero(M:Vol)(T:Nat→Tab):∀(L:List (List UInt8)) (d:Nat),(walkT M T L d).2≠0→(walkT M T L d).1=0
 |[],d=>fun h=>absurd rfl h
 |s::r,d=>by
  unfold walkT;split
  ·split
   ·exact fun _=>rfl
   ·exact walkT_zero M T r _
  ·exact fun _=>rfl
theorem walkP_zero(M:Vol)(T:Nat→Tab)(p:List UInt8)(h:(walkP M T p).2≠0):(walkP M T p).1=0:=by
 unfold walkP at h⊢
 cases hp:Np.pathL p with
 |none=>rfl
 |some L=>
  rw[hp]at h;exact walkT_zero M T L 1 h
end Gd
theorem law_mwalks(A:Option Addr)(L:List Ak)(c:Nat)(s:ByteArray)(w:World)(hl:L.length≤9223372036854775807)(hA:Ua w A L)(hM:Mx w):
 Calls prog 8 #[.slice A L.length c,.string s] w fun e w'=>e= .returned (.bool true)∧Below w.heap.size w w':=by
 have HBg:=hid (vB w);obtain⟨n,hn⟩:∃n,n=L.length:=⟨_,rfl⟩;have HA:=hid hA;have HM:=hid hM;have Hn:=hid hn;rw[←hn]at hl⊢;have hl2:(n:Int)≤9223372036854775807:=by omega
 obtain⟨pu,hpu⟩:∃u,u=yN s 60:=⟨_,rfl⟩;have hpl:pu.size≤60:=by rw[hpu];exact jX _ _
 unfold yN at hpu;have HPu:=hid hpu;have HPl:=hid hpl;clear hM hA hn hl hpu hpl;go_enter func8,ntmps8;go_wp2_with fail
 refine HBg.o.mono ?_;rintro e w1 ⟨mn,p,x,t,r,S,V,rfl,hP⟩;have HK:=hid (J9 hP);clear hP HBg;go_upto_region 5 with fail
 go_loopw[6,23,24,25,26,27,28,29,30,31,32,33,34,35,36,37,38] (fun z _ _ _ _ _ _ _ _ _ _ _ _ _ _ _ _ wr=>∃k:Nat,z= .int .i64 k∧k≤n∧k≤30∧Hid (yy x t r p (2000000+2000000*k) (1+3*k) w wr)) (fun z _ _ _ _ _ _ _ _ _ _ _ _ _ _ _ _ _=>30-(intOf z).toNat)
 case atStart=>exact⟨0,rfl,by omega,by omega,HK⟩
 case round=>
  obtain⟨k,rfl,hkn,hk,HK⟩:=hrel;by_cases h12:(k:Int)<n∧(k:Int)<30
  case pos=>
   obtain⟨h1,h2⟩:=h12;obtain⟨a,ha⟩:∃a,L[k]? =some a:=⟨_,List.getElem?_eq_getElem (by have:=Hn.o;omega)⟩;obtain⟨b,o,rfl,hcells⟩:∃b o,A=some ⟨b,o,none⟩∧∀(i:Nat) v,(akC a).toList[i]? =some v→wr.cell? ⟨b,o+k*11+i,none⟩=some v:=by
    rcases HA.o.keep HK.o.belowW with h|⟨b,o,e1,_,e3⟩
    ·rw[h]at ha;simp at ha
    ·exact⟨b,o,e1,e3 k a ha⟩
   obtain⟨cl,kind,sa,s2,fl,fd,off,m,data,spare,dr⟩:=a;have c0:wr.cell? ⟨b,o+k*11,none⟩=some (.int .i64 cl):=hcells 0 _ rfl;have c1:wr.cell? ⟨b,o+k*11+1,none⟩=some (.int .i64 kind):=hcells 1 _ rfl;have c2:wr.cell? ⟨b,o+k*11+2,none⟩=some (.string sa):=hcells 2 _ rfl;have c3:wr.cell? ⟨b,o+k*11+3,none⟩=some (.string s2):=hcells 3 _ rfl;have c4:wr.cell? ⟨b,o+k*11+4,none⟩=some (.int .i64 fl):=hcells 4 _ rfl;have c5:wr.cell? ⟨b,o+k*11+5,none⟩=some (.int .i64 fd):=hcells 5 _ rfl;have c6:wr.cell? ⟨b,o+k*11+6,none⟩=some (.int .i64 off):=hcells 6 _ rfl;have c7:wr.cell? ⟨b,o+k*11+7,none⟩=some (.int .i64 m):=hcells 7 _ rfl;have c8:wr.cell? ⟨b,o+k*11+8,none⟩=some (.string data):=hcells 8 _ rfl;have c9:wr.cell? ⟨b,o+k*11+9,none⟩=some (.int .i64 spare):=hcells 9 _ rfl;have c10:wr.cell? ⟨b,o+k*11+10,none⟩=some (.bool dr):=hcells 10 _ rfl;have h0:(0:Int)≤k:=by omega
   have HD:=hid ((Xl cl kind fl fd off m spare sa s2 data dr wr HK.o HM.o (by omega) (by omega)));have HNx:Hid (∀{W:World},yy x t r p (2000000+2000000*k+2000000) (1+3*k+3) w W→Hid (yy x t r p (2000000+2000000*(k+1)) (1+3*(k+1)) w W)):=hid fun h=>by
    rw[show 2000000+2000000*(k+1)=2000000+2000000*k+2000000 by omega,show 1+3*(k+1)=1+3*k+3 by omega];exact hid h
   unfold akV akC at HD;try dsimp only at HD
   clear ha hcells hkn hk;go_wp2_with fail
   refine HD.o.mono ?_;rintro e w3 ⟨rfl,hK3⟩;have HK3:=hid hK3;clear hK3 HD;go_wp2;go_roundw
   case rel=>exact⟨k+1,by go_num,by omega,by omega,HNx.o HK3.o⟩
   case measure=>simp[intOf];omega
  have hx:¬(k:Int)<n∨((k:Int)<n∧¬(k:Int)<30):=by omega
  clear h12;obtain⟨wo,rfl⟩:∃v,v=wr:=⟨_,rfl⟩;obtain⟨S,M,T,D,Z,φ,hP,hSim,-,-⟩:=HK.o;have hT:=hSim.rel.tree;have HT:=hid hT;have HP:=hid hP;obtain⟨F,hm,-,-⟩:=hP.open;have Hm:=hid hm;have hmx:=hP.mx HM.o;have HMx:=hid hmx;have HBw:=hid hP.belowW;have p2:=(zE (hP.get (k:=p) (o:=zL t x r D) (by simp))).2.2.1;have HPp:=hid (za (hP.get (k:=p) (o:=zL t x r D) (by simp)));have hus:pu.size≤100000:=Nat.le_trans HPl.o (by omega);have hw:=fun W (hb:Below wo.heap.size wo W)=>qb pu W (hm.below hb) hT hus (hmx.keep hb);have hz:=Gd.walkP_zero M T pu.data.toList;have hat:=hSim.rel.at (p:=pu.data.toList);obtain⟨i,hi⟩:∃i,i=(Gd.walkP M T pu.data.toList).1:=⟨_,rfl⟩;obtain⟨E,hE⟩:∃E,E=(Gd.walkP M T pu.data.toList).2:=⟨_,rfl⟩;rw[←hi,←hE]at hw hz;rw[←hi,←hE]at hat;have HWk:=hid hw;have HHold:=hid hSim.rel.hold;by_cases hE0:E=0
  case neg=>
   have hEi:(E:Int)≠0:=by omega
   have HSt:=hid fun W (hb:Below wo.heap.size wo W)=>Yt (xv:= .pointer (some ⟨x,0,none⟩)) pu (i:Nat) (E:Nat) hEi W (fun W' hb'=>hw W' (hb.trans (hb'.mono hb.size)));have hi0:i=0:=hz hE0;rw[hi0]at HWk;have hEn:((E:Int) !=0)=true:=by simpa using hE0
   clear hP hSim hT hm hmx hw hz hat hi hE HK hkn hk hus hEi hi0 HHold;rcases hx with h1|⟨h1,h2⟩
   all_goals
    go_upto_if 41 with fail
    go_cut[1] from 39 to 43 (fun z wx=>z= .string pu∧wx=wo)
    case first=>
     have hq:=HPu.o;by_cases h6:60<s.size
     ·rw[if_pos h6]at hq;have HQ:=hid hq;clear hq;go_wp2_with fail
      go_meet
      exact⟨by rw[HQ.o],rfl⟩
     ·rw[if_neg h6]at hq;have HQ:=hid hq;clear hq;go_wp2_with fail
      go_meet
      exact⟨by rw[HQ.o],rfl⟩
    case rest=>
    obtain⟨rfl,hwc⟩:=hcut;subst wc;go_upto_region 11 with(go_at_call 25;refine(HWk.o wo (Below.refl _ _)).mono ?_;rintro e w2 ⟨rfl,hb2⟩;have q2:=(hb2.cell (p:=⟨p,2,none⟩) HPp.o).trans p2;have HB2:=hid hb2;clear hb2)
    have HSt2:=hid (HSt.o w2 HB2.o);go_upto_region 12 with(go_at_call 26;refine HSt2.o.mono ?_;rintro e w3 ⟨rfl,hb3⟩;have HB3:=HB2.t hb3;clear hb3)
    have hs0:=heap_alloc_new w3 (.cells #[.int .i64 0,.int .i64 0,.int .i64 0] 54);have hb4:Below wo.heap.size wo (w3.alloc (.cells #[.int .i64 0,.int .i64 0,.int .i64 0] 54)):=HB3.o.alloc HB3.o.size _;obtain⟨sb,hsb⟩:∃sb,sb=w3.heap.size:=⟨_,rfl⟩;obtain⟨w4,hw4⟩:∃v,v=w3.alloc (.cells #[.int .i64 0,.int .i64 0,.int .i64 0] 54):=⟨_,rfl⟩;rw[←hw4,←hsb]at hs0;rw[←hw4]at hb4;rw[←hw4,←hsb];have s0:w4.cell? ⟨sb,0,none⟩=some (.int .i64 0):=cell_of_row w4 sb 0 _ _ _ hs0;have s1:w4.cell? ⟨sb,1,none⟩=some (.int .i64 0):=cell_of_row w4 sb 1 _ _ _ hs0;have s2:w4.cell? ⟨sb,2,none⟩=some (.int .i64 0):=cell_of_row w4 sb 2 _ _ _ hs0;have HB4:=HBw.t hb4;have HLv:=hid (yV w4 (HM.o.under HB4.o));clear hs0 hb4 hw4 hsb q2 p2;go_wp2_with(go_at_call 11;refine HLv.o.mono ?_;rintro e w9 ⟨rfl,hb9⟩;have HB9:=HB4.t hb9;clear hb9)
    go_ret
    exact⟨rfl,HB9.o⟩
  obtain⟨i1,i2,i3⟩:=hat hE0;have hpL:∃Ln,Np.pathL pu.data.toList=some Ln∧Gd.walkT M T Ln 1=(i,0):=by
   have e1:Gd.walkP M T pu.data.toList=(i,0):=by rw[hi,←hE0,hE]
   unfold Gd.walkP at e1
   cases hp:Np.pathL pu.data.toList with
   |none=>rw[hp]at e1;cases e1
   |some Ln=>rw[hp]at e1;exact⟨Ln,rfl,e1⟩
  obtain⟨Ln,hLn,hWT⟩:=hpL;have HPa:=hid fun W=>yD pu Ln W hus hLn;have HLs:=hid (ZZ hLn).1;have hln:=(ZZ hLn).2;obtain⟨hsh,-⟩:=hSim.rel.hold.may i i1 i2;have hI:=fun W (hb:Below wo.heap.size wo W)=>zZ (i:Int) W (hm.below hb) (by omega) (by omega);rw[Int.toNat_natCast]at hI;obtain⟨y,hy⟩:∃y,y=M.ino i:=⟨_,rfl⟩;rw[←hy]at hI hsh;have hE1:(E:Int)=0:=by omega
  rw[hE1]at hw HWk;have HSt:=hid fun W (hb:Below wo.heap.size wo W)=>Qz pu i y hsh W (fun W' hb'=>hw W' (hb.trans (hb'.mono hb.size))) (fun W' hb'=>hI W' (hb.trans (hb'.mono hb.size)));have HI:=hid hI;have HSh:=hid hsh;have HS:=hid (zm hsh);have HWT:=hid hWT;unfold zv at HI;clear hP hSim hT hm hmx hw hz hat hi hE HK hkn hk hus HHold hE0 hE1 i1 i2 i3 hLn hWT hsh hI hy;rcases hx with h1|⟨h1,h2⟩
  all_goals
   go_upto_if 41 with fail
   go_cut[1] from 39 to 43 (fun z wx=>z= .string pu∧wx=wo)
   case first=>
    have hq:=HPu.o;by_cases h6:60<s.size
    ·rw[if_pos h6]at hq;have HQ:=hid hq;clear hq;go_wp2_with fail
     go_meet
     exact⟨by rw[HQ.o],rfl⟩
    ·rw[if_neg h6]at hq;have HQ:=hid hq;clear hq;go_wp2_with fail
     go_meet
     exact⟨by rw[HQ.o],rfl⟩
   case rest=>
   obtain⟨rfl,hwc⟩:=hcut;subst wc;go_upto_region 11 with(go_at_call 25;refine(HWk.o wo (Below.refl _ _)).mono ?_;rintro e w2 ⟨rfl,hb2⟩;have q2:=(hb2.cell (p:=⟨p,2,none⟩) HPp.o).trans p2;have HB2:=hid hb2;clear hb2)
   have HSt2:=hid (HSt.o w2 HB2.o);go_upto_region 12 with(go_at_call 26;refine HSt2.o.mono ?_;rintro e w3 ⟨rfl,hb3⟩;have HB3:=HB2.t hb3;clear hb3)
   have hs0:=heap_alloc_new w3 (.cells #[.int .i64 y.k,.int .i64 y.l,.int .i64 y.s] 54);have hb4:Below wo.heap.size wo (w3.alloc (.cells #[.int .i64 y.k,.int .i64 y.l,.int .i64 y.s] 54)):=HB3.o.alloc HB3.o.size _;obtain⟨sb,hsb⟩:∃sb,sb=w3.heap.size:=⟨_,rfl⟩;obtain⟨w4,hw4⟩:∃v,v=w3.alloc (.cells #[.int .i64 y.k,.int .i64 y.l,.int .i64 y.s] 54):=⟨_,rfl⟩;rw[←hw4,←hsb]at hs0;rw[←hw4]at hb4;rw[←hw4,←hsb];have HS0:=hid hs0;have HB4:=hid hb4;have q4:=(hb4.cell (p:=⟨p,2,none⟩) HPp.o).trans p2;have HI4:=hid (HI.o w4 hb4);clear hs0 hb4 hw4 hsb q2
   go_upto_region 17 with(first|(go_at_call 17;refine HI4.o.mono ?_;rintro e w5 ⟨rfl,hb5⟩;have HB5:=HB4.t hb5;have HS5:=HS0.r hb5;clear hb5)|(rw[←zA];refine wpList_store_mid rfl 48 _ _ rfl w5.heap.size 0 (zf y) rfl rfl (zd (heap_alloc_new _ _) (by rw[zc,HS.o])) (by rw[HS.o];exact sizeIno) (zr _) ?_;obtain⟨hbw,hbg⟩:=zi w5 zU 48 (zf y).toList (by rw[zc,Array.length_toList,HS.o]);generalize (World.setCells _ _ _ _)=w6 at hbw hbg⊢;have HB6:=HB5.t hbw;have HS6:=HS5.r hbw;have HIr:Hid (w6.heap[w5.heap.size]? =some (.cells (zf y) 48 (0,0))):=hid hbg;clear hbw hbg))
   go_upto_region 18 with(go_at_call 27;refine(HPa.o w6).mono ?_;rintro e w7 ⟨A7,c7,rfl,-,hS7,hb7⟩;have HB7:=HB6.t hb7;have HS7:=HS6.r hb7;have HI7:=HIr.r hb7;have HN7:=hid hS7;clear hb7 hS7)
   have q7:=(HB7.o.cell (p:=⟨p,2,none⟩) HPp.o).trans p2;have s0:w7.cell? ⟨sb,0,none⟩=some (.int .i64 y.k):=cell_of_row w7 sb 0 _ _ _ HS7.o;have s1:w7.cell? ⟨sb,1,none⟩=some (.int .i64 y.l):=cell_of_row w7 sb 1 _ _ _ HS7.o;have s2:w7.cell? ⟨sb,2,none⟩=some (.int .i64 y.s):=cell_of_row w7 sb 2 _ _ _ HS7.o;have hia:zp w7 w5.heap.size y:=⟨HI7.o,HSh.o⟩;have i0:=hia.c0;have i1:=hia.c1;have i2:=hia.c2;have hnq:∀z:Int,(z !=z)=false:=fun z=>by simp
   have k0:=hnq y.k;have k1:=hnq y.l;have k2:=hnq y.s;clear hnq hia q4;go_cut[122] from 91 to 121 (fun z wx=>z= .bool false∧wx=w7)
   case first=>
    by_cases hL0:Ln.length=0
    ·have h0:((Ln.length:Int)==0)=true:=by rw[hL0];rfl
     have hi1:((i:Int) !=1)=false:=by
      have hq:=HWT.o;rw[List.eq_nil_of_length_eq_zero hL0]at hq;have e1:1=i:=congrArg Prod.fst hq;rw[←e1];rfl
     clear hL0;go_wp2_with fail
     go_meet
     exact⟨rfl,rfl⟩
    ·have h0:((Ln.length:Int)==0)=false:=by simpa using hL0
     clear hL0;go_wp2_with fail
     go_meet
     exact⟨rfl,rfl⟩
   case rest=>
   obtain⟨rfl,hwc⟩:=hcut;subst wc;clear s0 s1 s2 i0 i1 i2 k0 k1 k2;go_upto_region 22 with fail
   go_loopw[15,16] (fun v z w8=>∃(j d:Nat),z= .int .i64 j∧v= .int .i64 d∧j≤Ln.length∧Hid (Gd.walkT M T (Ln.drop j) d=(i,0)∧1≤d∧d≤32)∧Hid (Below w7.heap.size w7 w8)) (fun _ z _=>Ln.length-(intOf z).toNat)
   case atStart=>exact⟨0,1,rfl,rfl,by omega,hid ⟨HWT.o,by omega,by omega⟩,hid (Below.refl _ _)⟩
   case round=>
    obtain⟨j,d,rfl,rfl,hj,HW,HB⟩:=hrel;have HBr:=hid (HB7.o.trans (HB.o.mono HB7.o.size));by_cases hlt:j<Ln.length
    ·obtain⟨nm,hnm⟩:∃nm,Ln[j]? =some nm:=⟨_,List.getElem?_eq_getElem hlt⟩;rcases HN7.o with h|⟨b,o,rfl,hb1,hb2,hcell,-⟩
     ·subst h;simp at hlt
     have c0:=(HB.o.cell (p:=⟨b,o+j,none⟩) hb2).trans (hcell j nm hnm);have Hb2:=hid hb2;have hdrop:Ln.drop j=nm::Ln.drop (j+1):=by
      rw[List.drop_eq_getElem_cons hlt,(List.getElem?_eq_some_iff.1 hnm).2]
     have hsl:=HLs.o nm (List.mem_of_getElem? hnm);have hW:=HW.o.1;rw[hdrop]at hW;unfold Gd.walkT at hW;have h3:(j:Int)<Ln.length:=by omega
     have h0:(0:Int)≤j:=by omega
     have hk:(M.ino d).k=2:=by
      by_cases h:(M.ino d).k=2
      ·exact h
      ·rw[if_neg h]at hW
       cases hW
     rw[if_pos hk]at hW;have hD:=HT.o.dir d HW.o.2.1 HW.o.2.2 hk;have HTb:=hid (jw wr (Hm.o.below HBr.o) hD);have HTs:=hid (zF hD.ok.len);have HFd:=hid fun W=>xH (T d) hD.ok.len ⟨nm.toArray⟩ (by rw[Lib.size_eq];show nm.length≤_;omega) hsl.1 (Gd.hN nm) rfl W;rw[show(⟨nm.toArray⟩:ByteArray).data.toList=nm from rfl]at HFd;obtain⟨nb,hnb⟩:∃nb:ByteArray,nb=⟨nm.toArray⟩:=⟨_,rfl⟩;rw[←hnb]at c0 HFd;obtain⟨f,hf⟩:∃f,f=Gd.findT (T d) nm (Gd.hN nm):=⟨_,rfl⟩;rw[←hf]at hW HFd;obtain⟨f,rfl⟩:∃f',f=some f':=by
      cases f with
      |none=>cases hW
      |some f'=>exact⟨f',rfl⟩
     have hW2:Gd.walkT M T (Ln.drop (j+1)) (Gd.entAt (T d) f.val).i=(i,0):=hW;have hfe:=Gd.find_ent HT.o HW.o.2.1 HW.o.2.2 hk hf.symm;obtain⟨D2,hDe⟩:∃D2,D2=T d:=⟨_,rfl⟩;rw[←hDe]at HTb HTs HFd hfe hW2;obtain⟨q,hq⟩:∃q,q=(Gd.entAt D2 f.val).i:=⟨_,rfl⟩;have hf16:=f.isLt;obtain⟨k,hk9⟩:∃k,k=f.val:=⟨_,rfl⟩;have hnk:vG (some f)=(k:Int):=by rw[hk9];rfl
     rw[hnk]at HFd;rw[←hq]at hW2;have HQ:=hid (And.intro hfe.1 hfe.2.1);rw[←hq]at HQ;have hfe4:=hfe.2.2.2;rw[←hk9]at hfe4 hf16 hq;have HFe:=hid hfe4;have Hq:=hid hq;have HW2:=hid hW2;have hk16:¬(15<(k:Int)):=by omega
     have hk0:¬((k:Int)<0):=by omega
     have hk17:(k:Int)<16:=by omega
     have hk18:(0:Int)≤k:=by omega
     have qx8:=(HBr.o.cell (p:=⟨p,2,none⟩) HPp.o).trans p2;unfold zW at HTb HFd;clear hnm hcell hdrop hsl hW hW2 hk hD hnb hDe hlt hf hfe hq hf16 hk9 hnk hfe4 hb1;go_upto_region 25 with(first|(go_at_call 28;refine HTb.o.mono ?_;rintro e w2' ⟨rfl,hb2'⟩;have HB2':=HB.t hb2';clear hb2')|(rw[←qh];refine wpList_store_mid rfl 77 _ _ rfl w2'.heap.size 0 (zk D2) rfl rfl (zd (heap_alloc_new _ _) (by rw[zn,HTs.o])) (by rw[HTs.o];exact sizeTab) (zQ _) ?_;obtain⟨hbw,hbg⟩:=zi w2' (zk Gd.noTab) 77 (zk D2).toList (by rw[zn,Array.length_toList,HTs.o]);generalize (World.setCells _ _ _ _)=w3' at hbw hbg⊢;have HT3:Hid (w3'.heap[w2'.heap.size]? =some (.cells (zk D2) 77 (0,0))):=hid hbg;have HB3':=HB2'.t hbw;clear hbw hbg))
     obtain⟨tb,htb⟩:∃tb,tb=w2'.heap.size:=⟨_,rfl⟩;rw[←htb]at HT3⊢;have c1:=(((HB3'.o.cell (p:=⟨b,o+j,none⟩) Hb2.o).trans (HB.o.cell (p:=⟨b,o+j,none⟩) Hb2.o).symm)).trans c0;clear c0 htb;have hs0:w3'.drew.cell? ⟨b,o+j,none⟩=some (.string nb)∧w3'.drew.heap[tb]? =some (.cells (zk D2) 77 (0,0)):=⟨c1,HT3.o⟩;refine wp_region_held_drew (S:=(fun W=>W.cell? ⟨b,o+j,none⟩=some (.string nb)∧W.heap[tb]? =some (.cells (zk D2) 77 (0,0)))) (by kernel_rfl) ?_ (fun hHeld=> ?_)
     ·exact hs0
     refine th (v:= ?_) 0 ?_ ?_;rotate_left
     ·intro w hSw;refine qH 77 (.tmp 17) ?_ tb ?_ 77 (zk D2) (0,0) _ hSw.2 underlying77 ?_ (by rw[HTs.o];exact sizeTab);all_goals rfl
     try simp only[put]
     refine tk 1 ?_;refine tk 2 ?_;refine tk 3 ?_;refine tk 4 ?_;refine rd 5 (fun K hK=> ?_);go_simp
     refine(HFd.o _).mono ?_
     rintro e w4' ⟨rfl,hb4'⟩;have HB4':=hid (HB3'.o.drew.trans (hb4'.mono HB3'.o.drew.size));have HT4:Hid (w4'.heap[tb]? =some (.cells (zk D2) 77 (0,0))):=hid ((hb4'.block _ (za hs0.2)).trans hs0.2);have hs5:w4'.cell? ⟨b,o+j,none⟩=some (.string nb)∧w4'.heap[tb]? =some (.cells (zk D2) 77 (0,0)):=⟨(hb4'.cell (p:=⟨b,o+j,none⟩) (World.block_lt_of_cell? _ _ hs0.1)).trans hs0.1,HT4.o⟩;clear hb4';try dsimp only
     refine hK.o _ _ hs5 (fun hHeld=> ?_);clear hK K;try simp only[put]
     refine tk 6 ?_;refine dn ?_
     (try simp only[Exit.then])
     have n1:w4'.cell? ⟨tb,k*2+1,none⟩=some (.int .i64 q):=by
      have h1:=(jH HT4.o HFe.o).2;rw[←Hq.o]at h1;exact h1
     go_wp2_with fail
     go_roundw
     case rel=>exact⟨j+1,q,by go_num,rfl,by omega,hid ⟨HW2.o,HQ.o⟩,HB4'⟩
     case measure=>simp[intOf];omega
    ·obtain rfl:j=Ln.length:=by omega
     have hdi:((d:Int)==i)=true:=by
      have h:=HW.o.1;rw[List.drop_length]at h;have e1:d=i:=congrArg Prod.fst h;rw[e1];simp
     have HBz:=hid (HBw.o.trans (HBr.o.mono HBw.o.size));have HLv:=hid (yV wr (HM.o.under HBz.o));clear hlt;go_wp2_with(go_at_call 11;refine HLv.o.mono ?_;rintro e w9 ⟨rfl,hb9⟩;have HB9:=HBz.t hb9;clear hb9)
     go_ret
     exact⟨rfl,HB9.o⟩
end Go.Proofs.YtjlpkbhgphjpeaaGreatDoor
