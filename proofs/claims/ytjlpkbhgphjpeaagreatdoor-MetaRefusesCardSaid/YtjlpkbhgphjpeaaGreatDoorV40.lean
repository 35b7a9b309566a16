/- Walks: commonslaw14: MetaRefuses. -/
import Derived.Test.YtjlpkbhgphjpeaaGreatDoorV39
set_option linter.unusedVariables false
set_option linter.unusedSimpArgs false
set_option linter.unusedSectionVars false
set_option maxHeartbeats 8000000
set_option maxRecDepth 100000
namespace Go.Proofs.YtjlpkbhgphjpeaaGreatDoor
open Go.RowKit
open Lib(hid)
open Go.Proofs.Tryz
open Go.Shelf
attribute [local go_sem] Oper.semAt_some
theorem law_mrefuses(A:Option Addr)(L:List Ak)(c:Nat)(a:Ak)(w:World)(hl:L.length≤9223372036854775807)(hA:Ua w A L)(hM:Mx w):
 Calls prog 6 #[.slice A L.length c,akV a] w fun e w'=>e= .returned (.bool true)∧Below w.heap.size w w':=by
 obtain⟨cl,kind,s0,s20,fl,fd,off,m,data,spare,dr⟩:=a;obtain⟨w0,hw0⟩:=nm (w.alloc (.cells #[.int .i64 cl,.int .i64 kind,.string s0,.string s20,.int .i64 fl,.int .i64 fd,.int .i64 off,.int .i64 m,.string data,.int .i64 spare,.bool dr] 29));obtain⟨bx,hbx⟩:=nm w.heap.size;have hb0:Below w.heap.size w w0:=by rw[hw0];exact(Below.refl _ _).alloc (Nat.le_refl _) _
 have hr0:w0.heap[bx]? =some (.cells #[.int .i64 cl,.int .i64 kind,.string s0,.string s20,.int .i64 fl,.int .i64 fd,.int .i64 off,.int .i64 m,.string data,.int .i64 spare,.bool dr] 29 (0,0)):=by rw[hw0,hbx];exact heap_alloc_new _ _
 have HB0:=hid hb0;have HR0:=hid hr0;have HW0:=hid hw0.symm;have Hbx:=hid hbx.symm;have HBg:=hid (vB w0);obtain⟨n,hn⟩:=nm L.length;have HA:=hid (hA.keep hb0);have HM:=hid (hM.under hb0);have HMw:=hid hM;have Hn:=hid hn;rw[←hn]at hl⊢;have hl2:(n:Int)≤9223372036854775807:=by omega
 obtain⟨s,hs⟩:=nm (yN s0 60);obtain⟨s2,hs2⟩:=nm (yN s20 60);have hsl:s.size≤100000:=by rw[hs];exact Nat.le_trans (jX _ _) (by omega)
 have hsl2:s2.size≤100000:=by rw[hs2];exact Nat.le_trans (jX _ _) (by omega)
 have HCut:=hid fun W=>yg kind fl fd off m s0 s20 data W;rw[←hs,←hs2]at HCut;unfold zN at HCut;have Hsl:=hid (And.intro hsl hsl2);clear hM hA hn hl hb0 hr0 hw0 hbx hs hs2 hsl hsl2;unfold akV akC;try dsimp only
 go_enter func6,ntmps6;go_upto_region 1 with fail
 rw[HW0.o,Hbx.o];go_wp2_with fail
 refine HBg.o.mono ?_;rintro e w1 ⟨mn,p,x,t,r,S,V,rfl,hP⟩;have HK:=hid (J9 hP);clear hP HBg;go_upto_region 5 with fail
 go_loopw[6,19,20,21,22,23,24,25,26,27,28,29,30,31,32,33,34] (fun z _ _ _ _ _ _ _ _ _ _ _ _ _ _ _ _ wr=>∃k:Nat,z= .int .i64 k∧k≤n∧k≤30∧Hid (yy x t r p (2000000+2000000*k) (1+3*k) w0 wr)) (fun z _ _ _ _ _ _ _ _ _ _ _ _ _ _ _ _ _=>30-(intOf z).toNat)
 case atStart=>exact⟨0,rfl,by omega,by omega,HK⟩
 case round=>
  obtain⟨k,rfl,hkn,hk,HK⟩:=hrel;by_cases h12:(k:Int)<n∧(k:Int)<30
  case pos=>
   obtain⟨h1,h2⟩:=h12;obtain⟨a,ha⟩:∃a,L[k]? =some a:=⟨_,List.getElem?_eq_getElem (by have:=Hn.o;omega)⟩;obtain⟨b,o,rfl,hcells⟩:∃b o,A=some ⟨b,o,none⟩∧∀(i:Nat) v,(akC a).toList[i]? =some v→wr.cell? ⟨b,o+k*11+i,none⟩=some v:=by
    rcases HA.o.keep HK.o.belowW with h|⟨b,o,e1,_,e3⟩
    ·rw[h]at ha;simp at ha
    ·exact⟨b,o,e1,e3 k a ha⟩
   obtain⟨cl,kind,s,s2,fl,fd,off,m,data,spare,dr⟩:=a;have c0:wr.cell? ⟨b,o+k*11,none⟩=some (.int .i64 cl):=hcells 0 _ rfl;have c1:wr.cell? ⟨b,o+k*11+1,none⟩=some (.int .i64 kind):=hcells 1 _ rfl;have c2:wr.cell? ⟨b,o+k*11+2,none⟩=some (.string s):=hcells 2 _ rfl;have c3:wr.cell? ⟨b,o+k*11+3,none⟩=some (.string s2):=hcells 3 _ rfl;have c4:wr.cell? ⟨b,o+k*11+4,none⟩=some (.int .i64 fl):=hcells 4 _ rfl;have c5:wr.cell? ⟨b,o+k*11+5,none⟩=some (.int .i64 fd):=hcells 5 _ rfl;have c6:wr.cell? ⟨b,o+k*11+6,none⟩=some (.int .i64 off):=hcells 6 _ rfl;have c7:wr.cell? ⟨b,o+k*11+7,none⟩=some (.int .i64 m):=hcells 7 _ rfl;have c8:wr.cell? ⟨b,o+k*11+8,none⟩=some (.string data):=hcells 8 _ rfl;have c9:wr.cell? ⟨b,o+k*11+9,none⟩=some (.int .i64 spare):=hcells 9 _ rfl;have c10:wr.cell? ⟨b,o+k*11+10,none⟩=some (.bool dr):=hcells 10 _ rfl;have h0:(0:Int)≤k:=by omega
   have HD:=hid ((Xl cl kind fl fd off m spare s s2 data dr wr HK.o HM.o (by omega) (by omega)));have HNx:Hid (∀{W:World},yy x t r p (2000000+2000000*k+2000000) (1+3*k+3) w0 W→Hid (yy x t r p (2000000+2000000*(k+1)) (1+3*(k+1)) w0 W)):=hid fun h=>by
    rw[show 2000000+2000000*(k+1)=2000000+2000000*k+2000000 by omega,show 1+3*(k+1)=1+3*k+3 by omega];exact hid h
   unfold akV akC at HD;try dsimp only at HD
   clear ha hcells hkn hk;go_wp2_with fail
   refine HD.o.mono ?_;rintro e w3 ⟨rfl,hK3⟩;have HK3:=hid hK3;clear hK3 HD;go_wp2;go_roundw
   case rel=>exact⟨k+1,by go_num,by omega,by omega,HNx.o HK3.o⟩
   case measure=>simp[intOf];omega
  have hx:¬(k:Int)<n∨((k:Int)<n∧¬(k:Int)<30):=by omega
  clear h12;obtain⟨S,M,T,D,Z,φ,hP,hSim,hG,hF⟩:=HK.o;have hP1:=hP.rebase HB0.o (by have:=Hbx.o;omega) HR0.o;have HP1:=hid hP1;have HSim:=hid hSim;have HG:=hid hG;have HGd:=hid hP.good;have HNe:Hid (p≠bx):=hid (by have h1:=hP.low (k:=p) (o:=zL t x r D) (by simp);have h2:=za HR0.o;omega);clear hP hP1 hSim hG hF HK hkn hk;have HR1:=hid (HP1.o.get (k:=bx) (o:= .cells #[.int .i64 cl,.int .i64 kind,.string s0,.string s20,.int .i64 fl,.int .i64 fd,.int .i64 off,.int .i64 m,.string data,.int .i64 spare,.bool dr] 29 (0,0)) (by simp));obtain⟨r0,r1,r2,r3,r4,r5,r6,r7,r8,r9,r10⟩:=qS HR1.o;rcases hx with h1|⟨h1,h2⟩
  all_goals
   go_upto_region 9 with(first|(go_at_call 13;refine(HCut.o _).mono ?_;rintro e w2 ⟨rfl,hb2⟩;have HP2:=hid (HP1.o.below hb2);have HR2:=HR1.r hb2;clear hb2)|(refine wpList_store_mid rfl 27 _ _ rfl bx 1 #[.int .i64 kind,.string s,.string s2,.int .i64 fl,.int .i64 fd,.int .i64 off,.int .i64 m,.string data] rfl rfl (jC HR2.o (show 9≤11 by decide)) sizeCall14 (yu _ _ _ _ _ _ _ _) ?_;have hp3:=Zt HR2.o (.int .i64 kind) (.string s) (.string s2) (.int .i64 fl) (.int .i64 fd) (.int .i64 off) (.int .i64 m) (.string data);have HP3:=hid (HP2.o.turn (k:=bx) (List.mem_cons_self ..) (zw (F:=fun q=>q=bx) (zo bx [.int .i64 kind,.string s,.string s2,.int .i64 fl,.int .i64 fd,.int .i64 off,.int .i64 m,.string data] 1 w2) fun q e=>(Option.some.inj e).symm) hp3 [(bx,.cells #[.int .i64 cl,.int .i64 kind,.string s,.string s2,.int .i64 fl,.int .i64 fd,.int .i64 off,.int .i64 m,.string data,.int .i64 spare,.bool dr] 29 (0,0)),(p,zL t x r D)] (ya HNe.o));generalize (World.setCells _ _ _ _)=w3 at hp3 HP3⊢;have HR3:=hid hp3;clear hp3))
   clear r0 r1 r2 r3 r4 r5 r6 r7 r8 r9 r10;have c0:w3.cell? ⟨bx,0,none⟩=some (.int .i64 cl):=cell_of_row w3 _ 0 _ _ _ HR3.o;have c10:w3.cell? ⟨bx,10,none⟩=some (.bool dr):=cell_of_row w3 _ 10 _ _ _ HR3.o;by_cases hc:cl<1∨8<cl∨dr=true
   ·have HMx:=hid (HP3.o.mx HMw.o);have HBw:=hid HP3.o.belowW;have hc2:cl<1∨(¬cl<1∧8<cl)∨(¬cl<1∧¬8<cl∧dr=true):=by
     rcases hc with h|h|h
     ·exact Or.inl h
     ·by_cases h9:cl<1
      ·exact Or.inl h9
      ·exact Or.inr (Or.inl ⟨h9,h⟩)
     ·by_cases h9:cl<1
      ·exact Or.inl h9
      ·by_cases h10:8<cl
       ·exact Or.inr (Or.inl ⟨h9,h10⟩)
       ·exact Or.inr (Or.inr ⟨h9,h10,h⟩)
    clear hc;rcases hc2 with h3|⟨h3,h4⟩|⟨h3,h4,rfl⟩
    all_goals
     have HLv:=hid (yV w3 (HMx.o));go_wp2_with(go_at_call 11;refine HLv.o.mono ?_;rintro e w9 ⟨rfl,hb9⟩;have HB9:=HBw.t hb9;clear hb9)
     go_ret
     exact⟨rfl,HB9.o⟩
   obtain⟨k,rfl⟩:∃k:Nat,cl=(k:Int)+1:=⟨(cl-1).toNat,by omega⟩;have hk:k<8:=by omega
   have hk0:¬((k:Int)+1<1):=by omega
   have hk8:¬(8<(k:Int)+1):=by omega
   obtain rfl:dr=false:=by
    cases dr
    ·rfl
    ·exact absurd (Or.inr (Or.inr rfl)) hc
   have Hk8:=hid hk;clear hc hk;obtain⟨hlen,hld⟩:=HP3.o.loads;have HLn:=hid hlen;have HLd:=hid hld;have p0:=(zE (HP3.o.get (k:=p) (o:=zL t x r D) (by simp))).1;clear hlen hld;go_upto_region 12 with(go_at_call 19;refine HLd.o.mono ?_;rintro e w4 ⟨v,rfl,hv,hb4⟩;obtain⟨g,cap,o,rfl,hg1,hg2,hg3⟩:=hv.box (by intro h;have:=HLn.o;rw[h]at this;cases this);have HP4:=hid (HP3.o.new hb4 hg1 hg2);have HG3:=hid hg3;have HR4:=HR3.r hb4;clear hv hb4 hg1 hg2 hg3)
   have HAs:=hid (jg k Hk8.o kind fl fd off m spare s s2 data false Hsl.o.1 Hsl.o.2 HP4.o (p:=p) (by simp) HMw.o HSim.o HG.o);unfold akV akC xf at HAs;try dsimp only at HAs
   clear p0 c0 c10;go_upto_region 13 with(first|(refine wpList_load_row rfl 29 _ rfl bx rfl 29 #[.int .i64 ((k:Int)+1),.int .i64 kind,.string s,.string s2,.int .i64 fl,.int .i64 fd,.int .i64 off,.int .i64 m,.string data,.int .i64 spare,.bool false] (0,0) _ HR4.o underlying29 rfl infoAsk ?_)|(go_at_call 18;refine HAs.o.mono ?_;rintro e w5 ⟨q,A5,c5,i5,is,Lq,N5,c6,rfl,hq,hP5⟩;obtain⟨q0,q1,q2,q3,q4,q5,q6⟩:=q;have HP5:=hid hP5;have Hq:=hid hq;clear hP5 hq))
   obtain⟨w6,hw6⟩:=nm (w5.alloc (.cells #[.int .i64 q0,.int .i64 q1,.string ⟨q2.toArray⟩,.slice A5 q3.length c5,.int .i64 q4,.int .i64 q5,.int .i64 q6] 56));obtain⟨b6,hb6⟩:=nm w5.heap.size;have hP6:=HP5.o.alloc #[.int .i64 q0,.int .i64 q1,.string ⟨q2.toArray⟩,.slice A5 q3.length c5,.int .i64 q4,.int .i64 q5,.int .i64 q6] 56;rw[←hw6,←hb6]at hP6;have HP6:=hid hP6;have HDr:=hid (hP6.tdrop HGd.o);have p1:=(zE (hP6.get (k:=p) (o:=zL t x r D) (by simp))).2.1;rw[←hw6,←hb6];clear hw6 hb6 hP6;go_upto_region 14 with(go_at_call 20;refine HDr.o.mono ?_;rintro e w7 ⟨rfl,hP7⟩;have HP7:=hid hP7;clear hP7)
   have HCm:=hid HP7.o.commit0;have p1:=(zE (HP7.o.get (k:=p) (o:=zL t x r D) (by simp))).2.1;go_upto_region 15 with(go_at_call 21;refine HCm.o.mono ?_;rintro e w8 ⟨rfl,rfl⟩)
   have HLd2:=hid HP7.o.loads.2;have p0:=(zE (HP7.o.get (k:=p) (o:=zL t x r D) (by simp))).1;go_upto_region 16 with(go_at_call 19;refine HLd2.o.mono ?_;rintro e w10 ⟨v2,rfl,hv2,hb10⟩;have HP10:=hid (HP7.o.below hb10);have HV2:=hid hv2.at_;clear hv2 hb10)
   have HSm:=hid (zj _ _ S w10 (HG3.o w10 (HP10.o.get (k:=g) (by simp))) HV2.o (by have:=HLn.o;omega));clear p0 p1;go_upto_region 17 with(go_at_call 22;refine HSm.o.mono ?_;rintro e w11 ⟨rfl,hb11⟩;have HP11:=hid (HP10.o.below hb11);clear hb11)
   have d0:w11.cell? ⟨b6,0,none⟩=some (.int .i64 q0):=cell_of_row w11 _ 0 _ _ _ (HP11.o.get (k:=b6) (List.mem_cons_self ..));have HMx:=hid (HP11.o.mx HMw.o);have HBw:=hid HP11.o.belowW;have hqq:(q0==0)=true∨((q0==0)=false∧((i5:Int)==0)=true):=by
    have h:=Hq.o;try dsimp only at h
    by_cases e:q0=0
    ·left;simp[e]
    ·right;exact⟨by simp[e],by rw[h.resolve_left e];rfl⟩
   rcases hqq with h3|⟨h3,h4⟩
   all_goals
    have HLv:=hid (yV w11 (HMx.o));go_wp2_with(go_at_call 11;refine HLv.o.mono ?_;rintro e w9 ⟨rfl,hb9⟩;have HB9:=HBw.t hb9;clear hb9)
    go_ret
    exact⟨rfl,HB9.o⟩
end Go.Proofs.YtjlpkbhgphjpeaaGreatDoor
