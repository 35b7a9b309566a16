/- Walk: commonslaw17: VolumeTakes. -/
import Derived.Test.YtccpdkjonepoiaaGreatDoorS36
set_option linter.unusedVariables false
set_option linter.unusedSimpArgs false
set_option linter.unusedSectionVars false
set_option maxHeartbeats 8000000
set_option maxRecDepth 100000
namespace Go.Proofs.YtccpdkjonepoiaaGreatDoor
open Go.RowKit
open Lib(hid)
open Go.Proofs.Tryz
open Go.Shelf
attribute [local go_sem] Oper.semAt_some
theorem UT{V:Gd.Vl}(hok:V.Ok)(hi:V.Inv)(m:Nat)(m1:1≤m)(m8:m≤8):∃V2,V2=V.take m∧V2.Ok∧(V2.pend m).map (·.1)=[]∧V2.take m=V2∧V2.taken m=[]∧V2.n≤V.n+59∧((V2.fence m).pend m).map (·.1)=[]∧(V2.fence m).Ok:=by
 have h1:=V.take_pend m;have h2:=Gd.Vl.take_same h1;have hn:=V.take_n m;refine⟨_,rfl,hok.take m1 m8,by rw[h1];rfl,h2.1,h2.2,by omega,?_,(hok.take m1 m8).fence m1 m8⟩;by_cases he:((V.take m).s m).e<1073741824
 ·rw[Gd.Vl.fence_pend (hi.take m) m1 m8 he];rfl
 ·have:(V.take m).fence m=V.take m:=by
   unfold Gd.Vl.fence;rw[if_neg he]
  rw[this,h1];rfl
theorem law_vtakes(A:Option Addr)(L:List Dd)(c:Nat)(m:Int)(w:World)(hl:L.length≤9223372036854775807)(hA:Dds w A L)(hD:∀d∈L,Y4 w d)(hM:Mx w):
 Calls prog 7 #[.slice A L.length c,.int .i64 m] w fun e w'=>e= .returned (.bool true)∧Below w.heap.size w w':=by
 have HBg:=hid (vq w hM);have HA:=hid hA;have HD:=hid hD;obtain⟨n,hn⟩:=nm L.length;rw[←hn]at hl⊢;have Hn:=hid hn;clear hA hD hn hM;go_enter func7,ntmps7;go_wp2_with fail
 refine HBg.o.mono ?_;rintro e w1 ⟨mn,p,rfl,hbg⟩;obtain⟨R,o,x,t,f,hv⟩:=JB hbg;have HV:=hid hv;clear hbg hv HBg;go_upto_region 5 with fail
 go_loopw[6] (fun z wr=>∃(k:Nat) (V:Gd.Vl) (o x t f:Nat),z= .int .i64 k∧k≤n∧k≤20∧Hid (V.Ok∧V.Inv∧V.n≤4+480*k)∧Hid (Bv o x t f R V V (665100000+2000000000*k) w wr [(p,zo o R.r)])) (fun z _=>20-(intOf z).toNat)
 case atStart=>exact⟨0,Zo,o,x,t,f,rfl,by omega,by omega,hid ⟨Qr,US,Nat.le_refl _⟩,HV⟩
 case round=>
  obtain⟨k,V,o,x,t,f,rfl,hkn,hk,HO,HV⟩:=hrel;by_cases hlt:k<n∧k<20
  ·obtain⟨hk1,hk2⟩:=hlt;obtain⟨d,hd⟩:∃d,L[k]? =some d:=⟨_,List.getElem?_eq_getElem (by have:=Hn.o;omega)⟩;obtain⟨b,q,rfl,HRw⟩:∃b q,A=some ⟨b,q,none⟩∧Hid (∀W,Below wr.heap.size wr W→W.rangeAt b (q+k*14) (ddC d).toList):=by
    rcases HA.o with h|⟨b,q,h1,h2,h3⟩
    ·rw[h]at hd;simp at hd
    ·exact⟨b,q,h1,hid fun W hW i v hi=>((HV.o.below hW).belowW.cell (p:=⟨b,q+k*14+i,none⟩) h2).trans (h3 k d hd i v hi)⟩
   have HFa:=hid (UR HV.o d);have HDd:=hid (HD.o d (List.mem_of_getElem? hd));obtain⟨fb,hfb⟩:=nm (UP V d);rw[←hfb]at HFa;have HFb:=hid hfb;have i1:(k:Int)<n:=by omega
   have i2:(k:Int)<20:=by omega
   have i0:(0:Int)≤k:=by omega
   have hrow:=HRw.o wr (Below.refl _ _);clear hd hfb;go_wp2_with(refine wpList_load_mid rfl 60 _ rfl b (q+k*14) rfl (ddC d).toList _ hrow underlying60 rfl sizeDd ?_)
   refine HFa.o.mono ?_;rintro e w2 ⟨rfl,hb2⟩;have HB2:=hid hb2;have H2:=hid (HV.o.below hb2);clear hrow HFa hb2
   cases fb with
   |true=>
    go_wp2_with fail
    go_roundw
    case rel=>exact⟨k+1,V,o,x,t,f,by go_num,by omega,by omega,hid ⟨HO.o.1,HO.o.2.1,by have:=HO.o.2.2;omega⟩,hid (H2.o.more (by omega))⟩
    case measure=>simp[intOf];omega
   |false=>
    have hrow:=HRw.o w2 HB2.o;have HDo:=hid (Ju H2.o HO.o.1 d HDd.o (by omega) (by have:=HO.o.2.2;omega));have HO2:Hid ((doD V d).Ok∧(doD V d).Inv∧(doD V d).n≤4+480*(k+1)):=hid ⟨YN HO.o.1 d,UU HO.o.2.1 HO.o.1 HFb.o.symm,by have:=(VR V d).2;have:=HO.o.2.2;omega⟩;go_wp2_with(refine wpList_load_mid rfl 60 _ rfl b (q+k*14) rfl (ddC d).toList _ hrow underlying60 rfl sizeDd ?_)
    refine HDo.o.mono ?_;rintro e w3 ⟨rfl,o2,x2,t2,f2,h3⟩;have H3:=hid h3;clear h3 hrow HDo;go_wp2_with fail
    go_roundw
    case rel=>exact⟨k+1,doD V d,o2,x2,t2,f2,by go_num,by omega,by omega,HO2,hid (by rw[show 665100000+2000000000*(k+1)=(665100000+2000000000*k)+2000000000 by omega];exact H3.o)⟩
    case measure=>simp[intOf];omega
  ·have HKn:Hid (k≤n∧k≤20):=hid ⟨hkn,hk⟩;by_cases hm:1≤m∧m≤8
   ·obtain⟨mc,hmc⟩:∃mc:Nat,m=mc:=⟨m.toNat,by omega⟩;subst hmc;have HM:Hid (1≤mc∧mc≤8):=hid ⟨by omega,by omega⟩;obtain⟨V2,hV2,hok2,hp2,ht2,htk2,hn2,hp3,hok3⟩:=UT HO.o.1 HO.o.2.1 mc HM.o.1 HM.o.2;have HTk:=HV.o.takeV HO.o.1 mc HM.o.1 HM.o.2 (by have:=HKn.o.2;omega) (by have:=HO.o.2.2;have:=HKn.o.2;omega);rw[←hV2]at HTk;have HT:=hid HTk;have HF2:=hid (And.intro hok2 (And.intro hp2 (And.intro ht2 (And.intro htk2 (And.intro (show V2.n≤10000 by have:=HO.o.2.2;have:=HKn.o.2;omega) hp3)))));have HOk3:=hid hok3;obtain⟨n2,hn2e⟩:=nm V2.n;have HN2:=hid hn2e;obtain⟨-,q1,-⟩:=zl (HV.o.get (k:=p) (List.mem_singleton.2 rfl));clear hV2 hok2 hp2 ht2 htk2 hn2 hp3 hok3 HTk hm hn2e;by_cases h1:k<n
    ·have h2:k=20:=by omega
     have i1:(k:Int)<n:=by omega
     have i2:¬(k:Int)<20:=by omega
     clear hlt h2 hk hkn;go_wp2_with fail
     refine HT.o.mono ?_;rintro e w2 ⟨u,rfl,-,h2⟩;have H2:=hid h2;clear h2 q1 HT;obtain⟨-,q1,-⟩:=zl (H2.o.get (k:=p) (List.mem_singleton.2 rfl));have HP:=hid (H2.o.pendV HF2.o.1 mc HM.o.1 HM.o.2);go_wp2_with fail
     refine HP.o.mono ?_;rintro e w3 ⟨u2,rfl,hr3,hb3⟩;obtain⟨A2,c2,rfl⟩:=UO hr3 (by rw[HF2.o.2.1];rfl);have H3:=hid (H2.o.below hb3);clear hr3 hb3 q1 HP;obtain⟨-,q1,-⟩:=zl (H3.o.get (k:=p) (List.mem_singleton.2 rfl));have hcm:=H3.o.commits;rw[←HN2.o]at hcm;have HC:=hid hcm;clear hcm;go_wp2_with fail
     refine HC.o.mono ?_;rintro e w4 ⟨rfl,hb⟩;have H4:=hid (H3.o.below hb);clear hb q1 HC;obtain⟨-,q1,-⟩:=zl (H4.o.get (k:=p) (List.mem_singleton.2 rfl));have ht5:=H4.o.takeV HF2.o.1 mc HM.o.1 HM.o.2 (by have:=HKn.o.2;omega) (by have:=HF2.o.2.2.2.2.1;omega);rw[HF2.o.2.2.1,HF2.o.2.2.2.1]at ht5;have HT5:=hid ht5;clear ht5;go_wp2_with fail
     refine HT5.o.mono ?_;rintro e w5 ⟨u5,rfl,hr5,h5⟩;obtain⟨A5,c5,rfl⟩:=UO hr5 rfl;have H5:=hid h5;clear hr5 h5 q1 HT5;obtain⟨-,q1,-⟩:=zl (H5.o.get (k:=p) (List.mem_singleton.2 rfl));have hcm:=H5.o.commits;rw[←HN2.o]at hcm;have HC:=hid hcm;clear hcm;go_wp2_with fail
     refine HC.o.mono ?_;rintro e w6 ⟨rfl,hb⟩;have H6:=hid (H5.o.below hb);clear hb q1 HC;obtain⟨-,q1,-⟩:=zl (H6.o.get (k:=p) (List.mem_singleton.2 rfl));obtain⟨⟨e0,h0,r0,ke0,ki0,s0⟩,hsk⟩:∃y,y=V2.s mc:=⟨_,rfl⟩;have HSl:=H6.o.slotB mc HM.o.1 HM.o.2;rw[←hsk]at HSl;unfold zO zm at HSl;dsimp only at HSl;have HS:=hid HSl;have HSk:Hid ((V2.s mc).e=e0):=hid (by rw[←hsk]);clear HSl hsk;go_wp2_with fail
     refine HS.o.mono ?_;rintro e w7 ⟨rfl,hb7⟩;have H7:=hid (H6.o.below (hb7.alloc hb7.size (.cells #[.int .i64 e0,.int .i64 h0,.int .i64 r0,.int .i64 ke0,.int .i64 ki0,.int .i64 s0] 48)));obtain⟨wa,hwa⟩:=nm (w7.alloc (.cells #[.int .i64 e0,.int .i64 h0,.int .i64 r0,.int .i64 ke0,.int .i64 ki0,.int .i64 s0] 48));obtain⟨g,hg⟩:=nm w7.heap.size;rw[←hwa]at H7;have hga:wa.heap[g]? =some (.cells #[.int .i64 e0,.int .i64 h0,.int .i64 r0,.int .i64 ke0,.int .i64 ki0,.int .i64 s0] 48 (0,0)):=by rw[hwa,hg];exact heap_alloc_new _ _
     obtain⟨oG,hoG⟩:=nm (Obj.cells #[.int .i64 e0,.int .i64 h0,.int .i64 r0,.int .i64 ke0,.int .i64 ki0,.int .i64 s0] 48 (0,0));have HOG:=hid hoG;have H7b:Hid (Bv o x t f R V2 V ((665100000+2000000000*k)+200000000+200000000) w wa [(g,oG),(p,zo o R.r)]):=hid (by
      have h8:Bv o x t f R V2 V ((665100000+2000000000*k)+200000000+200000000) w w7 [(p,zo o R.r)]:=H6.o.below hb7;rw[hwa];refine h8.news ((Below.refl _ _).alloc (Nat.le_refl _) _) (Lu:=[(g,oG)]) fun q hq=> ?_;rw[List.mem_singleton.1 hq];refine⟨by show w7.heap.size≤g;omega,?_⟩;show(w7.alloc _).heap[g]? =some oG
      rw[hg,hoG];exact heap_alloc_new _ _)
     have HWa:=hid hwa.symm;have Hg:=hid hg.symm;have hf8:=H7b.o.fenceV mc HM.o.1 HM.o.2 (by have:=HKn.o.2;omega) (by have:=HF2.o.2.2.2.2.1;omega);rw[HSk.o]at hf8;obtain⟨E,hE⟩:∃E:Int,E=if e0<1073741824 then 0 else 1:=⟨_,rfl⟩
     rw[←hE]at hf8;have HFe:=hid hf8;have HE:=hid hE;clear hb7 hwa hg hga hoG hf8 hE q1 HS H7;obtain⟨-,q1,-⟩:=zl (H7b.o.get (k:=p) (List.mem_cons_of_mem _ (List.mem_singleton.2 rfl)));go_upto_region 18 with fail
     rw[HWa.o,Hg.o];go_wp2_with fail
     refine HFe.o.mono ?_;rintro e w8 ⟨rfl,h8⟩;have H8:=hid h8;clear h8 q1 HFe;have hg8:=H8.o.get (k:=g) (List.mem_cons_self ..);rw[HOG.o]at hg8;have s0':=cell_of_row w8 g 0 _ _ _ hg8;have sE:w8.cell? ⟨g,0,none⟩=some (.int .i64 (e0:Nat)):=s0';obtain⟨-,q1,-⟩:=zl (H8.o.get (k:=p) (List.mem_cons_of_mem _ (List.mem_singleton.2 rfl)));have HP8:=hid (H8.o.pendV HOk3.o mc HM.o.1 HM.o.2);clear hg8 s0';by_cases he:e0<1073741824
     ·have hE0:E=0:=by rw[HE.o,if_pos he]
      subst hE0;have he1:(e0:Int)<1073741824:=by omega
      clear he;go_wp2_with fail
      refine HP8.o.mono ?_;rintro e w9 ⟨u9,rfl,hr9,hb9⟩;obtain⟨A9,c9,rfl⟩:=UO hr9 (by rw[HF2.o.2.2.2.2.2];rfl);have H9:=hid (H8.o.below hb9);have HLv:=hid (xF w9);clear hr9 hb9 q1 sE HP8;go_wp2_with fail
      refine HLv.o.mono ?_;rintro e w10 ⟨rfl,hb10⟩;have HB10:=hid ((H9.o.below hb10).belowW);clear hb10 HLv;go_wp2_with fail
      go_ret
      exact⟨rfl,HB10.o⟩
     ·have hE0:E=1:=by rw[HE.o,if_neg he]
      subst hE0;have he1:decide ((e0:Int)<1073741824)=false:=decide_eq_false (by omega);clear he;go_wp2_with fail
      refine HP8.o.mono ?_;rintro e w9 ⟨u9,rfl,hr9,hb9⟩;obtain⟨A9,c9,rfl⟩:=UO hr9 (by rw[HF2.o.2.2.2.2.2];rfl);have H9:=hid (H8.o.below hb9);have HLv:=hid (xF w9);clear hr9 hb9 q1 sE HP8;go_wp2_with fail
      refine HLv.o.mono ?_;rintro e w10 ⟨rfl,hb10⟩;have HB10:=hid ((H9.o.below hb10).belowW);clear hb10 HLv;go_wp2_with fail
      go_ret
      exact⟨rfl,HB10.o⟩
    ·have i1:¬(k:Int)<n:=by omega
     clear hlt hk hkn;go_wp2_with fail
     refine HT.o.mono ?_;rintro e w2 ⟨u,rfl,-,h2⟩;have H2:=hid h2;clear h2 q1 HT;obtain⟨-,q1,-⟩:=zl (H2.o.get (k:=p) (List.mem_singleton.2 rfl));have HP:=hid (H2.o.pendV HF2.o.1 mc HM.o.1 HM.o.2);go_wp2_with fail
     refine HP.o.mono ?_;rintro e w3 ⟨u2,rfl,hr3,hb3⟩;obtain⟨A2,c2,rfl⟩:=UO hr3 (by rw[HF2.o.2.1];rfl);have H3:=hid (H2.o.below hb3);clear hr3 hb3 q1 HP;obtain⟨-,q1,-⟩:=zl (H3.o.get (k:=p) (List.mem_singleton.2 rfl));have hcm:=H3.o.commits;rw[←HN2.o]at hcm;have HC:=hid hcm;clear hcm;go_wp2_with fail
     refine HC.o.mono ?_;rintro e w4 ⟨rfl,hb⟩;have H4:=hid (H3.o.below hb);clear hb q1 HC;obtain⟨-,q1,-⟩:=zl (H4.o.get (k:=p) (List.mem_singleton.2 rfl));have ht5:=H4.o.takeV HF2.o.1 mc HM.o.1 HM.o.2 (by have:=HKn.o.2;omega) (by have:=HF2.o.2.2.2.2.1;omega);rw[HF2.o.2.2.1,HF2.o.2.2.2.1]at ht5;have HT5:=hid ht5;clear ht5;go_wp2_with fail
     refine HT5.o.mono ?_;rintro e w5 ⟨u5,rfl,hr5,h5⟩;obtain⟨A5,c5,rfl⟩:=UO hr5 rfl;have H5:=hid h5;clear hr5 h5 q1 HT5;obtain⟨-,q1,-⟩:=zl (H5.o.get (k:=p) (List.mem_singleton.2 rfl));have hcm:=H5.o.commits;rw[←HN2.o]at hcm;have HC:=hid hcm;clear hcm;go_wp2_with fail
     refine HC.o.mono ?_;rintro e w6 ⟨rfl,hb⟩;have H6:=hid (H5.o.below hb);clear hb q1 HC;obtain⟨-,q1,-⟩:=zl (H6.o.get (k:=p) (List.mem_singleton.2 rfl));obtain⟨⟨e0,h0,r0,ke0,ki0,s0⟩,hsk⟩:∃y,y=V2.s mc:=⟨_,rfl⟩;have HSl:=H6.o.slotB mc HM.o.1 HM.o.2;rw[←hsk]at HSl;unfold zO zm at HSl;dsimp only at HSl;have HS:=hid HSl;have HSk:Hid ((V2.s mc).e=e0):=hid (by rw[←hsk]);clear HSl hsk;go_wp2_with fail
     refine HS.o.mono ?_;rintro e w7 ⟨rfl,hb7⟩;have H7:=hid (H6.o.below (hb7.alloc hb7.size (.cells #[.int .i64 e0,.int .i64 h0,.int .i64 r0,.int .i64 ke0,.int .i64 ki0,.int .i64 s0] 48)));obtain⟨wa,hwa⟩:=nm (w7.alloc (.cells #[.int .i64 e0,.int .i64 h0,.int .i64 r0,.int .i64 ke0,.int .i64 ki0,.int .i64 s0] 48));obtain⟨g,hg⟩:=nm w7.heap.size;rw[←hwa]at H7;have hga:wa.heap[g]? =some (.cells #[.int .i64 e0,.int .i64 h0,.int .i64 r0,.int .i64 ke0,.int .i64 ki0,.int .i64 s0] 48 (0,0)):=by rw[hwa,hg];exact heap_alloc_new _ _
     obtain⟨oG,hoG⟩:=nm (Obj.cells #[.int .i64 e0,.int .i64 h0,.int .i64 r0,.int .i64 ke0,.int .i64 ki0,.int .i64 s0] 48 (0,0));have HOG:=hid hoG;have H7b:Hid (Bv o x t f R V2 V ((665100000+2000000000*k)+200000000+200000000) w wa [(g,oG),(p,zo o R.r)]):=hid (by
      have h8:Bv o x t f R V2 V ((665100000+2000000000*k)+200000000+200000000) w w7 [(p,zo o R.r)]:=H6.o.below hb7;rw[hwa];refine h8.news ((Below.refl _ _).alloc (Nat.le_refl _) _) (Lu:=[(g,oG)]) fun q hq=> ?_;rw[List.mem_singleton.1 hq];refine⟨by show w7.heap.size≤g;omega,?_⟩;show(w7.alloc _).heap[g]? =some oG
      rw[hg,hoG];exact heap_alloc_new _ _)
     have HWa:=hid hwa.symm;have Hg:=hid hg.symm;have hf8:=H7b.o.fenceV mc HM.o.1 HM.o.2 (by have:=HKn.o.2;omega) (by have:=HF2.o.2.2.2.2.1;omega);rw[HSk.o]at hf8;obtain⟨E,hE⟩:∃E:Int,E=if e0<1073741824 then 0 else 1:=⟨_,rfl⟩
     rw[←hE]at hf8;have HFe:=hid hf8;have HE:=hid hE;clear hb7 hwa hg hga hoG hf8 hE q1 HS H7;obtain⟨-,q1,-⟩:=zl (H7b.o.get (k:=p) (List.mem_cons_of_mem _ (List.mem_singleton.2 rfl)));go_upto_region 18 with fail
     rw[HWa.o,Hg.o];go_wp2_with fail
     refine HFe.o.mono ?_;rintro e w8 ⟨rfl,h8⟩;have H8:=hid h8;clear h8 q1 HFe;have hg8:=H8.o.get (k:=g) (List.mem_cons_self ..);rw[HOG.o]at hg8;have s0':=cell_of_row w8 g 0 _ _ _ hg8;have sE:w8.cell? ⟨g,0,none⟩=some (.int .i64 (e0:Nat)):=s0';obtain⟨-,q1,-⟩:=zl (H8.o.get (k:=p) (List.mem_cons_of_mem _ (List.mem_singleton.2 rfl)));have HP8:=hid (H8.o.pendV HOk3.o mc HM.o.1 HM.o.2);clear hg8 s0';by_cases he:e0<1073741824
     ·have hE0:E=0:=by rw[HE.o,if_pos he]
      subst hE0;have he1:(e0:Int)<1073741824:=by omega
      clear he;go_wp2_with fail
      refine HP8.o.mono ?_;rintro e w9 ⟨u9,rfl,hr9,hb9⟩;obtain⟨A9,c9,rfl⟩:=UO hr9 (by rw[HF2.o.2.2.2.2.2];rfl);have H9:=hid (H8.o.below hb9);have HLv:=hid (xF w9);clear hr9 hb9 q1 sE HP8;go_wp2_with fail
      refine HLv.o.mono ?_;rintro e w10 ⟨rfl,hb10⟩;have HB10:=hid ((H9.o.below hb10).belowW);clear hb10 HLv;go_wp2_with fail
      go_ret
      exact⟨rfl,HB10.o⟩
     ·have hE0:E=1:=by rw[HE.o,if_neg he]
      subst hE0;have he1:decide ((e0:Int)<1073741824)=false:=decide_eq_false (by omega);clear he;go_wp2_with fail
      refine HP8.o.mono ?_;rintro e w9 ⟨u9,rfl,hr9,hb9⟩;obtain⟨A9,c9,rfl⟩:=UO hr9 (by rw[HF2.o.2.2.2.2.2];rfl);have H9:=hid (H8.o.below hb9);have HLv:=hid (xF w9);clear hr9 hb9 q1 sE HP8;go_wp2_with fail
      refine HLv.o.mono ?_;rintro e w10 ⟨rfl,hb10⟩;have HB10:=hid ((H9.o.below hb10).belowW);clear hb10 HLv;go_wp2_with fail
      go_ret
      exact⟨rfl,HB10.o⟩
   ·obtain⟨-,q1,-⟩:=zl (HV.o.get (k:=p) (List.mem_singleton.2 rfl));have HTk:=hid (XQ m wr HV.o.vol hm);have HM:=hid hm;obtain⟨n2,hn2e⟩:=nm V.n;have HN2:=hid hn2e;clear hm hn2e;by_cases h1:k<n
    ·have h2:k=20:=by omega
     have i1:(k:Int)<n:=by omega
     have i2:¬(k:Int)<20:=by omega
     clear hlt h2 hk hkn;go_wp2_with fail
     refine HTk.o.mono ?_;rintro e w2 ⟨rfl,hb2⟩;have H2:=hid (HV.o.below hb2);clear hb2 q1 HTk;obtain⟨-,q1,-⟩:=zl (H2.o.get (k:=p) (List.mem_singleton.2 rfl));have HP:=hid (UQ m w2 H2.o.vol HM.o);go_wp2_with fail
     refine HP.o.mono ?_;rintro e w3 ⟨u2,rfl,rfl,hb3⟩;have H3:=hid (H2.o.below hb3);clear hb3 q1 HP;obtain⟨-,q1,-⟩:=zl (H3.o.get (k:=p) (List.mem_singleton.2 rfl));have hcm:=H3.o.commits;rw[←HN2.o]at hcm;have HC:=hid hcm;clear hcm;go_wp2_with fail
     refine HC.o.mono ?_;rintro e w4 ⟨rfl,hb⟩;have H4:=hid (H3.o.below hb);clear hb q1 HC;obtain⟨-,q1,-⟩:=zl (H4.o.get (k:=p) (List.mem_singleton.2 rfl));have HT5:=hid (XQ m w4 H4.o.vol HM.o);go_wp2_with fail
     refine HT5.o.mono ?_;rintro e w5 ⟨rfl,hb5⟩;have H5:=hid (H4.o.below hb5);clear hb5 q1 HT5;obtain⟨-,q1,-⟩:=zl (H5.o.get (k:=p) (List.mem_singleton.2 rfl));have hcm:=H5.o.commits;rw[←HN2.o]at hcm;have HC:=hid hcm;clear hcm;go_wp2_with fail
     refine HC.o.mono ?_;rintro e w6 ⟨rfl,hb⟩;have H6:=hid (H5.o.below hb);clear hb q1 HC;obtain⟨-,q1,-⟩:=zl (H6.o.get (k:=p) (List.mem_singleton.2 rfl));have HSl:=ZC m w6 H6.o.vol HM.o;unfold zO zm at HSl;dsimp only at HSl;have HS:=hid HSl;clear HSl;go_wp2_with fail
     refine HS.o.mono ?_;rintro e w7 ⟨rfl,hb7⟩;obtain⟨wa,hwa⟩:=nm (w7.alloc (.cells #[.int .i64 0,.int .i64 0,.int .i64 0,.int .i64 0,.int .i64 0,.int .i64 0] 48));obtain⟨g,hg⟩:=nm w7.heap.size;have H7:Hid (Bv o x t f R V V (665100000+2000000000*k) w wa [(p,zo o R.r)]):=hid (by rw[hwa];exact H6.o.below (hb7.alloc hb7.size _));have HWa:=hid hwa.symm;have Hg:=hid hg.symm;have HFe:=hid (QJ m wa H7.o.vol HM.o);clear hb7 hwa hg q1 HS;obtain⟨-,q1,-⟩:=zl (H7.o.get (k:=p) (List.mem_singleton.2 rfl));go_upto_region 18 with fail
     rw[HWa.o,Hg.o];go_wp2_with fail
     refine HFe.o.mono ?_;rintro e w8 ⟨rfl,hb8⟩;have H8:=hid (H7.o.below hb8);have HLv:=hid (xF w8);clear hb8 q1 HFe;go_wp2_with fail
     refine HLv.o.mono ?_;rintro e w10 ⟨rfl,hb10⟩;have HB10:=hid ((H8.o.below hb10).belowW);clear hb10 HLv;go_wp2_with fail
     go_ret
     exact⟨rfl,HB10.o⟩
    ·have i1:¬(k:Int)<n:=by omega
     clear hlt hk hkn;go_wp2_with fail
     refine HTk.o.mono ?_;rintro e w2 ⟨rfl,hb2⟩;have H2:=hid (HV.o.below hb2);clear hb2 q1 HTk;obtain⟨-,q1,-⟩:=zl (H2.o.get (k:=p) (List.mem_singleton.2 rfl));have HP:=hid (UQ m w2 H2.o.vol HM.o);go_wp2_with fail
     refine HP.o.mono ?_;rintro e w3 ⟨u2,rfl,rfl,hb3⟩;have H3:=hid (H2.o.below hb3);clear hb3 q1 HP;obtain⟨-,q1,-⟩:=zl (H3.o.get (k:=p) (List.mem_singleton.2 rfl));have hcm:=H3.o.commits;rw[←HN2.o]at hcm;have HC:=hid hcm;clear hcm;go_wp2_with fail
     refine HC.o.mono ?_;rintro e w4 ⟨rfl,hb⟩;have H4:=hid (H3.o.below hb);clear hb q1 HC;obtain⟨-,q1,-⟩:=zl (H4.o.get (k:=p) (List.mem_singleton.2 rfl));have HT5:=hid (XQ m w4 H4.o.vol HM.o);go_wp2_with fail
     refine HT5.o.mono ?_;rintro e w5 ⟨rfl,hb5⟩;have H5:=hid (H4.o.below hb5);clear hb5 q1 HT5;obtain⟨-,q1,-⟩:=zl (H5.o.get (k:=p) (List.mem_singleton.2 rfl));have hcm:=H5.o.commits;rw[←HN2.o]at hcm;have HC:=hid hcm;clear hcm;go_wp2_with fail
     refine HC.o.mono ?_;rintro e w6 ⟨rfl,hb⟩;have H6:=hid (H5.o.below hb);clear hb q1 HC;obtain⟨-,q1,-⟩:=zl (H6.o.get (k:=p) (List.mem_singleton.2 rfl));have HSl:=ZC m w6 H6.o.vol HM.o;unfold zO zm at HSl;dsimp only at HSl;have HS:=hid HSl;clear HSl;go_wp2_with fail
     refine HS.o.mono ?_;rintro e w7 ⟨rfl,hb7⟩;obtain⟨wa,hwa⟩:=nm (w7.alloc (.cells #[.int .i64 0,.int .i64 0,.int .i64 0,.int .i64 0,.int .i64 0,.int .i64 0] 48));obtain⟨g,hg⟩:=nm w7.heap.size;have H7:Hid (Bv o x t f R V V (665100000+2000000000*k) w wa [(p,zo o R.r)]):=hid (by rw[hwa];exact H6.o.below (hb7.alloc hb7.size _));have HWa:=hid hwa.symm;have Hg:=hid hg.symm;have HFe:=hid (QJ m wa H7.o.vol HM.o);clear hb7 hwa hg q1 HS;obtain⟨-,q1,-⟩:=zl (H7.o.get (k:=p) (List.mem_singleton.2 rfl));go_upto_region 18 with fail
     rw[HWa.o,Hg.o];go_wp2_with fail
     refine HFe.o.mono ?_;rintro e w8 ⟨rfl,hb8⟩;have H8:=hid (H7.o.below hb8);have HLv:=hid (xF w8);clear hb8 q1 HFe;go_wp2_with fail
     refine HLv.o.mono ?_;rintro e w10 ⟨rfl,hb10⟩;have HB10:=hid ((H8.o.below hb10).belowW);clear hb10 HLv;go_wp2_with fail
     go_ret
     exact⟨rfl,HB10.o⟩
end Go.Proofs.YtccpdkjonepoiaaGreatDoor
