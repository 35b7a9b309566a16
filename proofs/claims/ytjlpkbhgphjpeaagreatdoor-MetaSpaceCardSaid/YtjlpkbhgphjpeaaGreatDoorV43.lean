/- Walks: commonslaw14: MetaSpace. -/
import Derived.Test.YtjlpkbhgphjpeaaGreatDoorV42
set_option linter.unusedVariables false
set_option linter.unusedSimpArgs false
set_option linter.unusedSectionVars false
set_option maxHeartbeats 8000000
set_option maxRecDepth 100000
namespace Go.Proofs.YtjlpkbhgphjpeaaGreatDoor
open Go.RowKit
open Lib(hid)
open Go.Proofs.Tryz
open Go.Shelf
attribute [local go_sem] Oper.semAt_some
theorem law_mspace(A:Option Addr)(L:List Ak)(c:Nat)(a:Ak)(w:World)(hl:L.length≤9223372036854775807)(hA:Ua w A L)(hM:Mx w):
 Calls prog 5 #[.slice A L.length c,akV a] w fun e w'=>e= .returned (.bool true)∧Below w.heap.size w w':=by
 obtain⟨cl,kind,s0,s20,fl,fd,off,m,data,spare,dr⟩:=a;obtain⟨w0,hw0⟩:=nm (w.alloc (.cells #[.int .i64 cl,.int .i64 kind,.string s0,.string s20,.int .i64 fl,.int .i64 fd,.int .i64 off,.int .i64 m,.string data,.int .i64 spare,.bool dr] 29));obtain⟨bx,hbx⟩:=nm w.heap.size;have hb0:Below w.heap.size w w0:=by rw[hw0];exact(Below.refl _ _).alloc (Nat.le_refl _) _
 have hr0:w0.heap[bx]? =some (.cells #[.int .i64 cl,.int .i64 kind,.string s0,.string s20,.int .i64 fl,.int .i64 fd,.int .i64 off,.int .i64 m,.string data,.int .i64 spare,.bool dr] 29 (0,0)):=by rw[hw0,hbx];exact heap_alloc_new _ _
 have HB0:=hid hb0;have HR0:=hid hr0;have HW0:=hid hw0.symm;have Hbx:=hid hbx.symm;have HBg:=hid (vB w0);obtain⟨n,hn⟩:=nm L.length;have HA:=hid (hA.keep hb0);have HM:=hid (hM.under hb0);have HMw:=hid hM;have Hn:=hid hn;rw[←hn]at hl⊢;have hl2:(n:Int)≤9223372036854775807:=by omega
 obtain⟨s,hs⟩:=nm (yN s0 60);obtain⟨s2,hs2⟩:=nm (yN s20 60);have hsl:s.size≤100000:=by rw[hs];exact Nat.le_trans (jX _ _) (by omega)
 have hsl2:s2.size≤100000:=by rw[hs2];exact Nat.le_trans (jX _ _) (by omega)
 have HCut:=hid fun W=>yg kind fl fd off m s0 s20 data W;rw[←hs,←hs2]at HCut;unfold zN at HCut;have Hsl:=hid (And.intro hsl hsl2);clear hM hA hn hl hb0 hr0 hw0 hbx hs hs2 hsl hsl2;unfold akV akC;try dsimp only
 go_enter func5,ntmps5;go_upto_region 1 with fail
 rw[HW0.o,Hbx.o];go_wp2_with fail
 refine HBg.o.mono ?_;rintro e w1 ⟨mn,p,x,t,r,S,V,rfl,hP⟩;have HK:=hid (J9 hP);clear hP HBg;go_upto_region 5 with fail
 go_loopw[6,21,22,23,24,25,26,27,28,29,30,31,32,33,34,35,36] (fun z _ _ _ _ _ _ _ _ _ _ _ _ _ _ _ _ wr=>∃k:Nat,z= .int .i64 k∧k≤n∧k≤40∧Hid (yy x t r p (2000000+2000000*k) (1+3*k) w0 wr)) (fun z _ _ _ _ _ _ _ _ _ _ _ _ _ _ _ _ _=>40-(intOf z).toNat)
 case atStart=>exact⟨0,rfl,by omega,by omega,HK⟩
 case round=>
  obtain⟨k,rfl,hkn,hk,HK⟩:=hrel;by_cases h12:(k:Int)<n∧(k:Int)<40
  case pos=>
   obtain⟨h1,h2⟩:=h12;obtain⟨a,ha⟩:∃a,L[k]? =some a:=⟨_,List.getElem?_eq_getElem (by have:=Hn.o;omega)⟩;obtain⟨b,o,rfl,hcells⟩:∃b o,A=some ⟨b,o,none⟩∧∀(i:Nat) v,(akC a).toList[i]? =some v→wr.cell? ⟨b,o+k*11+i,none⟩=some v:=by
    rcases HA.o.keep HK.o.belowW with h|⟨b,o,e1,_,e3⟩
    ·rw[h]at ha;simp at ha
    ·exact⟨b,o,e1,e3 k a ha⟩
   obtain⟨cl,kind,s,s2,fl,fd,off,m,data,spare,dr⟩:=a;have c0:wr.cell? ⟨b,o+k*11,none⟩=some (.int .i64 cl):=hcells 0 _ rfl;have c1:wr.cell? ⟨b,o+k*11+1,none⟩=some (.int .i64 kind):=hcells 1 _ rfl;have c2:wr.cell? ⟨b,o+k*11+2,none⟩=some (.string s):=hcells 2 _ rfl;have c3:wr.cell? ⟨b,o+k*11+3,none⟩=some (.string s2):=hcells 3 _ rfl;have c4:wr.cell? ⟨b,o+k*11+4,none⟩=some (.int .i64 fl):=hcells 4 _ rfl;have c5:wr.cell? ⟨b,o+k*11+5,none⟩=some (.int .i64 fd):=hcells 5 _ rfl;have c6:wr.cell? ⟨b,o+k*11+6,none⟩=some (.int .i64 off):=hcells 6 _ rfl;have c7:wr.cell? ⟨b,o+k*11+7,none⟩=some (.int .i64 m):=hcells 7 _ rfl;have c8:wr.cell? ⟨b,o+k*11+8,none⟩=some (.string data):=hcells 8 _ rfl;have c9:wr.cell? ⟨b,o+k*11+9,none⟩=some (.int .i64 spare):=hcells 9 _ rfl;have c10:wr.cell? ⟨b,o+k*11+10,none⟩=some (.bool dr):=hcells 10 _ rfl;have h0:(0:Int)≤k:=by omega
   have HD:=hid ((Xl cl kind fl fd off m spare s s2 data dr wr HK.o HM.o (by omega) (by omega)));have HNx:Hid (∀{W:World},yy x t r p (2000000+2000000*k+2000000) (1+3*k+3) w0 W→Hid (yy x t r p (2000000+2000000*(k+1)) (1+3*(k+1)) w0 W)):=hid fun h=>by
    rw[show 2000000+2000000*(k+1)=2000000+2000000*k+2000000 by omega,show 1+3*(k+1)=1+3*k+3 by omega];exact hid h
   unfold akV akC at HD;try dsimp only at HD
   clear ha hcells hkn hk;go_wp2_with fail
   refine HD.o.mono ?_;rintro e w3 ⟨rfl,hK3⟩;have HK3:=hid hK3;clear hK3 HD;go_wp2;go_roundw
   case rel=>exact⟨k+1,by go_num,by omega,by omega,HNx.o HK3.o⟩
   case measure=>simp[intOf];omega
  have hx:¬(k:Int)<n∨((k:Int)<n∧¬(k:Int)<40):=by omega
  clear h12;obtain⟨S,M,T,D,Z,φ,hP,hSim,hG,hF⟩:=HK.o;have hP1:=hP.rebase HB0.o (by have:=Hbx.o;omega) HR0.o;have HP1:=hid hP1;have HSim:=hid hSim;have HG:=hid hG;have HGd:=hid hP.good;have HNe:Hid (p≠bx):=hid (by have h1:=hP.low (k:=p) (o:=zL t x r D) (by simp);have h2:=za HR0.o;omega);clear hP hP1 hSim hG hF HK hkn hk;have HR1:=hid (HP1.o.get (k:=bx) (o:= .cells #[.int .i64 cl,.int .i64 kind,.string s0,.string s20,.int .i64 fl,.int .i64 fd,.int .i64 off,.int .i64 m,.string data,.int .i64 spare,.bool dr] 29 (0,0)) (by simp));obtain⟨r0,r1,r2,r3,r4,r5,r6,r7,r8,r9,r10⟩:=qS HR1.o;rcases hx with h1|⟨h1,h2⟩
  all_goals
   go_upto_region 9 with(first|(go_at_call 13;refine(HCut.o _).mono ?_;rintro e w2 ⟨rfl,hb2⟩;have HP2:=hid (HP1.o.below hb2);have HR2:=HR1.r hb2;clear hb2)|(refine wpList_store_mid rfl 27 _ _ rfl bx 1 #[.int .i64 kind,.string s,.string s2,.int .i64 fl,.int .i64 fd,.int .i64 off,.int .i64 m,.string data] rfl rfl (jC HR2.o (show 9≤11 by decide)) sizeCall14 (yu _ _ _ _ _ _ _ _) ?_;have hp3:=Zt HR2.o (.int .i64 kind) (.string s) (.string s2) (.int .i64 fl) (.int .i64 fd) (.int .i64 off) (.int .i64 m) (.string data);have HP3:=hid (HP2.o.turn (k:=bx) (List.mem_cons_self ..) (zw (F:=fun q=>q=bx) (zo bx [.int .i64 kind,.string s,.string s2,.int .i64 fl,.int .i64 fd,.int .i64 off,.int .i64 m,.string data] 1 w2) fun q e=>(Option.some.inj e).symm) hp3 [(bx,.cells #[.int .i64 cl,.int .i64 kind,.string s,.string s2,.int .i64 fl,.int .i64 fd,.int .i64 off,.int .i64 m,.string data,.int .i64 spare,.bool dr] 29 (0,0)),(p,zL t x r D)] (ya HNe.o));generalize (World.setCells _ _ _ _)=w3 at hp3 HP3⊢;have HR3:=hid hp3;clear hp3))
   clear r0 r1 r2 r3 r4 r5 r6 r7 r8 r9 r10;have c0:w3.cell? ⟨bx,0,none⟩=some (.int .i64 cl):=cell_of_row w3 _ 0 _ _ _ HR3.o;have c10:w3.cell? ⟨bx,10,none⟩=some (.bool dr):=cell_of_row w3 _ 10 _ _ _ HR3.o;by_cases hc:cl<1∨8<cl∨dr=true
   ·have HMx:=hid (HP3.o.mx HMw.o);have HBw:=hid HP3.o.belowW;have hc2:cl<1∨(¬cl<1∧8<cl)∨(¬cl<1∧¬8<cl∧dr=true):=by
     rcases hc with h|h|h
     ·exact Or.inl h
     ·by_cases h9:cl<1
      ·exact Or.inl h9
      ·exact Or.inr (Or.inl ⟨h9,h⟩)
     ·by_cases h9:cl<1
      ·exact Or.inl h9
      ·by_cases h10:8<cl
       ·exact Or.inr (Or.inl ⟨h9,h10⟩)
       ·exact Or.inr (Or.inr ⟨h9,h10,h⟩)
    clear hc;rcases hc2 with h3|⟨h3,h4⟩|⟨h3,h4,rfl⟩
    all_goals
     have HLv:=hid (yV w3 (HMx.o));go_wp2_with(go_at_call 11;refine HLv.o.mono ?_;rintro e w9 ⟨rfl,hb9⟩;have HB9:=HBw.t hb9;clear hb9)
     go_ret
     exact⟨rfl,HB9.o⟩
   obtain⟨k,rfl⟩:∃k:Nat,cl=(k:Int)+1:=⟨(cl-1).toNat,by omega⟩;have hk:k<8:=by omega
   have hk0:¬((k:Int)+1<1):=by omega
   have hk8:¬(8<(k:Int)+1):=by omega
   obtain rfl:dr=false:=by
    cases dr
    ·rfl
    ·exact absurd (Or.inr (Or.inr rfl)) hc
   have Hk8:=hid hk;clear hc hk;obtain⟨-,r1,r2,r3,-,-,-,-,-,r9,-⟩:=qS HR3.o;obtain⟨pu,hpu⟩:=nm (if kind=9∨kind=11 then s2 else s);have hps:pu.size≤100000:=by
    rw[hpu];split
    ·exact Hsl.o.2
    ·exact Hsl.o.1
   have HPu:=hid hpu;obtain⟨F,hm,-,-⟩:=HP3.o.open;have hmx:=HP3.o.mx HMw.o;have Hm:=hid hm;have p2:=(zE (HP3.o.get (k:=p) (o:=zL t x r D) (by simp))).2.2.1;have hpl:=za (HP3.o.get (k:=p) (o:=zL t x r D) (by simp));have HPp:=hid hpl;have HPr:=hid (Ks pu w3 hm HSim.o.rel.tree hps hmx p2 hpl);have hml:M.map.length=16:=by
    obtain⟨P,-,hG⟩:=hm;exact hG.mapl
   obtain⟨mp,hmp⟩:=nm M.map;have hMp:=fun W (hb:Below w3.heap.size w3 W)=>va W (hm.below hb);rw[←hmp]at hml hMp;have HMp:=hid hMp;have HCo:=hid fun W=>uT mp hml W;obtain⟨cn,hcn⟩:=nm (Gd.countB mp);rw[←hcn]at HCo;have hcl:cn≤128:=by rw[hcn];exact Gd.count_le hml
   have hcw:IntKind.i64.wrap (128-(cn:Int))=128-(cn:Int):=by rw[IntKind.wrap_i64];omega
   obtain⟨sp,hsp⟩:=nm (max 0 spare);obtain⟨b1,hb1⟩:=nm (decide (128-(cn:Int)≤sp));have HB1:Hid (128-(Gd.countB M.map:Int)≤max 0 spare→b1=true):=hid fun h=>by
    rw[hb1,hsp,hcn,hmp];exact decide_eq_true h
   have Hb1:=hid hb1;have HSp:=hid hsp;clear hpu hps hm hmx hpl hml hmp hMp hcn hcl hsp hb1;go_upto_region 12 with fail
   clear c0 c10;go_cut[66] from 57 to 66 (fun z wx=>z= .bool (decide (kind=9∨kind=11))∧wx=w3)
   case first=>
    by_cases h9:kind=9
    ·have e1:(kind==9)=true:=by simp[h9]
     have e2:decide (kind=9∨kind=11)=true:=by simp[h9]
     have E2:=hid e2;clear h9 e2;go_wp2_with fail
     go_meet
     exact⟨by rw[E2.o],rfl⟩
    ·have e1:(kind==9)=false:=by simp[h9]
     by_cases h11:kind=11
     ·have e2:(kind==11)=true:=by simp[h11]
      have e3:decide (kind=9∨kind=11)=true:=by simp[h11]
      have E2:=hid e3;clear h9 h11 e3;go_wp2_with fail
      go_meet
      exact⟨by rw[E2.o],rfl⟩
     ·have e2:(kind==11)=false:=by simp[h11]
      have e3:decide (kind=9∨kind=11)=false:=by simp[h9,h11]
      have E2:=hid e3;clear h9 h11 e3;go_wp2_with fail
      go_meet
      exact⟨by rw[E2.o],rfl⟩
   case rest=>
   obtain⟨rfl,hwc⟩:=hcut;subst wc;go_upto_if 66 with fail
   go_cut[7] from 57 to 69 (fun z wx=>z= .string pu∧wx=w3)
   case first=>
    have hq:=HPu.o;by_cases h9:kind=9∨kind=11
    ·rw[if_pos h9]at hq;have e2:decide (kind=9∨kind=11)=true:=decide_eq_true h9;rw[e2];have HQ:=hid hq;clear hq h9 e2;go_wp2_with fail
     go_meet
     exact⟨by rw[HQ.o],rfl⟩
    ·rw[if_neg h9]at hq;have e2:decide (kind=9∨kind=11)=false:=decide_eq_false h9;rw[e2];have HQ:=hid hq;clear hq h9 e2;go_wp2_with fail
     go_meet
     exact⟨by rw[HQ.o],rfl⟩
   case rest=>
   obtain⟨rfl,hwc⟩:=hcut;subst wc;go_upto_region 15 with(go_at_call 14;refine HPr.o.mono ?_;rintro e w4 ⟨nn,rfl,hnn,hb4⟩;have HB4:=hid hb4;have HN4:=hid hnn;have HR4:=HR3.r hb4;clear hb4 hnn)
   have s9:w4.cell? ⟨bx,9,none⟩=some (.int .i64 spare):=cell_of_row w4 _ 9 _ _ _ HR4.o;clear r1 r2 r3 r9;go_upto_if 76 with fail
   go_cut[9] from 75 to 76 (fun z wx=>z= .int .i64 sp∧wx=w4)
   case first=>
    by_cases h9:spare<0
    ·have HQ:Hid (sp=0):=hid (by rw[HSp.o];omega);go_wp2_with fail
     go_meet
     exact⟨by rw[HQ.o],rfl⟩
    ·have HQ:Hid (sp=spare):=hid (by rw[HSp.o];omega);go_wp2_with fail
     go_meet
     exact⟨by rw[HQ.o],rfl⟩
   case rest=>
   obtain⟨rfl,hwc⟩:=hcut;subst wc;have q4:=(HB4.o.cell (p:=⟨p,2,none⟩) HPp.o).trans p2;have HMp4:=hid (HMp.o w4 HB4.o);go_upto_region 19 with(first|(go_at_call 15;refine HMp4.o.mono ?_;rintro e w5 ⟨rfl,hb5⟩;have HB5:=HB4.t hb5;clear hb5)|(go_at_call 16;refine(HCo.o w5).mono ?_;rintro e w6 ⟨rfl,hb6⟩;have HB6:=HB5.t hb6;clear hb6))
   rw[←Hb1.o];go_upto_region 21 with fail
   clear q4 s9;go_loopw[11,12] (fun v z w7=>∃(j:Nat) (b2:Bool),z= .int .i64 j∧v= .bool b2∧1≤j∧j≤33∧Hid ((∀i,1≤i→i≤32→(M.ino i).k≠0)→b2=true)∧Hid (Below w3.heap.size w3 w7)) (fun _ z _=>33-(intOf z).toNat)
   case atStart=>exact⟨1,true,rfl,rfl,by omega,by omega,hid fun _=>rfl,HB6⟩
   case round=>
    obtain⟨j,b2,rfl,rfl,hj1,hj2,HI,HB⟩:=hrel;by_cases hlt:j≤32
    ·have q7:=(HB.o.cell (p:=⟨p,2,none⟩) HPp.o).trans p2;have hin:=zZ (j:Int) wr (Hm.o.below HB.o) (by omega) (by omega);rw[Int.toNat_natCast]at hin;have hsz:(zf (M.ino j)).size=15:=by
      obtain⟨P,h3,h4⟩:=Hm.o;exact jO h4 hj1 hlt
     have Hk0:Hid ((M.ino j).k=0→∀b:Bool,(∀i,1≤i→i≤32→(M.ino i).k≠0)→b=true):=hid fun h b h2=>absurd h (h2 j hj1 hlt);obtain⟨y,hy⟩:=nm (M.ino j);rw[←hy]at hin hsz Hk0;have HIn:=hid hin;have HS:=hid hsz;unfold zv at HIn;have hj3:(j:Int)≤32:=by omega
     have hj4:(1:Int)≤j:=by omega
     clear hin hsz hy;go_upto_region 24 with(first|(go_at_call 17;refine HIn.o.mono ?_;rintro e w8 ⟨rfl,hb8⟩;have HB8:=HB.t hb8;clear hb8)|(rw[←zA];refine wpList_store_mid rfl 48 _ _ rfl w8.heap.size 0 (zf y) rfl rfl (zd (heap_alloc_new _ _) (by rw[zc,HS.o])) (by rw[HS.o];exact sizeIno) (zr _) ?_;obtain⟨hbw,hbg⟩:=zi w8 zU 48 (zf y).toList (by rw[zc,Array.length_toList,HS.o]);generalize (World.setCells _ _ _ _)=w9 at hbw hbg⊢;have HB9:=HB8.t hbw;have i0:w9.cell? ⟨w8.heap.size,0,none⟩=some (.int .i64 y.k):=(cell_of_row w9 _ 0 _ _ _ hbg).trans (jR rfl);clear hbw hbg))
     by_cases hyk:y.k=0
     ·have HY:=hid (Hk0.o hyk false);have hyb:(y.k==0)=true:=by simp[hyk]
      clear hyk;go_wp2_with fail
      go_roundw
      case rel=>exact⟨j+1,false,by go_num,rfl,by omega,by omega,HY,HB9⟩
      case measure=>simp[intOf];omega
     ·have hyb:(y.k==0)=false:=by simp[hyk]
      clear hyk;go_wp2_with fail
      go_roundw
      case rel=>exact⟨j+1,b2,by go_num,rfl,by omega,by omega,HI,HB9⟩
      case measure=>simp[intOf];omega
    ·have HPz:=hid (HP3.o.below HB.o);have HRz:=hid ((HB.o.block _ (za HR3.o)).trans HR3.o);have HAs:=hid (Kt k Hk8.o kind fl fd off m spare s s2 data false Hsl.o.1 Hsl.o.2 HPz.o (p:=p) (by simp) HMw.o HSim.o HG.o);rw[←HPu.o]at HAs;unfold akV akC xf at HAs;try dsimp only at HAs
     have hj3:¬((j:Int)≤32):=by omega
     clear hlt hj1 hj2 p2;go_upto_region 27 with(first|(refine wpList_load_row rfl 29 _ rfl bx rfl 29 #[.int .i64 ((k:Int)+1),.int .i64 kind,.string s,.string s2,.int .i64 fl,.int .i64 fd,.int .i64 off,.int .i64 m,.string data,.int .i64 spare,.bool false] (0,0) _ HRz.o underlying29 rfl infoAsk ?_)|(go_at_call 18;refine HAs.o.mono ?_;rintro e w5' ⟨q,A5,c5,i5,is,Lq,N5,c6,rfl,hq,hP5⟩;obtain⟨q0,q1,q2,q3,q4,q5,q6⟩:=q;have HP5:=hid hP5;have Hq:=hid hq;clear hP5 hq))
     obtain⟨w6',hw6⟩:=nm (w5'.alloc (.cells #[.int .i64 q0,.int .i64 q1,.string ⟨q2.toArray⟩,.slice A5 q3.length c5,.int .i64 q4,.int .i64 q5,.int .i64 q6] 56));obtain⟨b6,hb6⟩:=nm w5'.heap.size;have hP6:=HP5.o.alloc #[.int .i64 q0,.int .i64 q1,.string ⟨q2.toArray⟩,.slice A5 q3.length c5,.int .i64 q4,.int .i64 q5,.int .i64 q6] 56;rw[←hw6,←hb6]at hP6;have HP6:=hid hP6;have d0:w6'.cell? ⟨b6,0,none⟩=some (.int .i64 q0):=cell_of_row w6' _ 0 _ _ _ (hP6.get (k:=b6) (List.mem_cons_self ..));have HMx:=hid (hP6.mx HMw.o);have HBw:=hid hP6.belowW;rw[←hw6,←hb6];have hways:(q0 !=18)=true∨((q0 !=18)=false∧b1=true)∨((q0 !=18)=false∧b1=false∧b2=true)∨((q0 !=18)=false∧b1=false∧b2=false∧(nn==16)=true):=by
      by_cases e:q0=18
      ·have hr:=Hq.o e;have e2:(q0 !=18)=false:=by simp[e]
       cases hb:b1 with
       |true=>exact Or.inr (Or.inl ⟨e2,rfl⟩)
       |false=>
        cases hb':b2 with
        |true=>exact Or.inr (Or.inr (Or.inl ⟨e2,rfl,rfl⟩))
        |false=>
         refine Or.inr (Or.inr (Or.inr ⟨e2,rfl,rfl,?_⟩));rcases hr with h|h|h
         ·have:=HI.o h
          rw[hb']at this
          cases this
         ·have:=HB1.o h
          rw[hb]at this
          cases this
         ·rw[HN4.o h];rfl
      ·left
       simp[e]
     clear hw6 hb6 hP6;rcases hways with g1|⟨g1,rfl⟩|⟨g1,rfl,rfl⟩|⟨g1,rfl,rfl,g4⟩
     all_goals
      have HLv:=hid (yV w6' (HMx.o));go_wp2_with(go_at_call 11;refine HLv.o.mono ?_;rintro e w9 ⟨rfl,hb9⟩;have HB9:=HBw.t hb9;clear hb9)
      go_ret
      exact⟨rfl,HB9.o⟩
end Go.Proofs.YtjlpkbhgphjpeaaGreatDoor
