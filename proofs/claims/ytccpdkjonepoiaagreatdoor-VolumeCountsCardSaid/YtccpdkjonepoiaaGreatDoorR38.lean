/- Walk: commonslaw17: VolumeCounts. -/
import Derived.Test.YtccpdkjonepoiaaGreatDoorR36
set_option linter.unusedVariables false
set_option linter.unusedSimpArgs false
set_option linter.unusedSectionVars false
set_option maxHeartbeats 8000000
set_option maxRecDepth 100000
namespace Go.Proofs.YtccpdkjonepoiaaGreatDoor
open Go.RowKit
open Lib(hid)
open Go.Proofs.Tryz
open Go.Shelf
attribute [local go_sem] Oper.semAt_some
theorem law_vcounts(A:Option Addr)(L:List Dd)(c:Nat)(w:World)(hl:L.length≤9223372036854775807)(hA:Dds w A L)(hD:∀d∈L,Y4 w d)(hM:Mx w):
 Calls prog 5 #[.slice A L.length c] w fun e w'=>e= .returned (.bool true)∧Below w.heap.size w w':=by
 have HBg:=hid (vq w hM);have HA:=hid hA;have HD:=hid hD;obtain⟨n,hn⟩:=nm L.length;rw[←hn]at hl⊢;have Hn:=hid hn;clear hA hD hn hM;go_enter func5,ntmps5;go_wp2_with fail
 refine HBg.o.mono ?_;rintro e w1 ⟨mn,p,rfl,hbg⟩;obtain⟨R,o,x,t,f,hv⟩:=JB hbg;have HV:=hid hv;clear hbg hv HBg;go_upto_region 5 with fail
 go_loopw[4] (fun z wr=>∃(k:Nat) (V:Gd.Vl) (o x t f:Nat),z= .int .i64 k∧k≤n∧k≤20∧Hid (V.Ok∧V.n≤4+480*k)∧Hid (Bv o x t f R V V (665100000+2000000000*k) w wr [(p,zo o R.r)])) (fun z _=>20-(intOf z).toNat)
 case atStart=>exact⟨0,Zo,o,x,t,f,rfl,by omega,by omega,hid ⟨Qr,Nat.le_refl _⟩,HV⟩
 case round=>
  obtain⟨k,V,o,x,t,f,rfl,hkn,hk,HO,HV⟩:=hrel;by_cases hlt:k<n∧k<20
  ·obtain⟨hk1,hk2⟩:=hlt;obtain⟨d,hd⟩:∃d,L[k]? =some d:=⟨_,List.getElem?_eq_getElem (by have:=Hn.o;omega)⟩;obtain⟨b,q,rfl,hrow⟩:∃b q,A=some ⟨b,q,none⟩∧wr.rangeAt b (q+k*14) (ddC d).toList:=by
    rcases HA.o with h|⟨b,q,h1,h2,h3⟩
    ·rw[h]at hd;simp at hd
    ·exact⟨b,q,h1,fun i v hi=>(HV.o.belowW.cell (p:=⟨b,q+k*14+i,none⟩) h2).trans (h3 k d hd i v hi)⟩
   have HDo:=hid (Ju HV.o HO.o.1 d (HD.o d (List.mem_of_getElem? hd)) (by omega) (by have:=HO.o.2;omega));have HO2:Hid ((doD V d).Ok∧(doD V d).n≤4+480*(k+1)):=hid ⟨YN HO.o.1 d,by have:=(VR V d).2;have:=HO.o.2;omega⟩;have i1:(k:Int)<n:=by omega
   have i2:(k:Int)<20:=by omega
   have i0:(0:Int)≤k:=by omega
   clear hd;go_wp2_with(refine wpList_load_mid rfl 60 _ rfl b (q+k*14) rfl (ddC d).toList _ hrow underlying60 rfl sizeDd ?_)
   refine HDo.o.mono ?_;rintro e w2 ⟨rfl,o2,x2,t2,f2,h2⟩;have H2:=hid h2;clear h2 hrow HDo;go_wp2_with fail
   go_roundw
   case rel=>exact⟨k+1,doD V d,o2,x2,t2,f2,by go_num,by omega,by omega,HO2,hid (by rw[show 665100000+2000000000*(k+1)=665100000+2000000000*k+2000000000 by omega];exact H2.o)⟩
   case measure=>simp[intOf];omega
  ·have HOk:=hid HO.o.1;have HVn:=hid HO.o.2;have HKk:Hid (k≤20):=hid hk;obtain⟨n0,hn0⟩:=nm V.n;have HN0:=hid hn0;have hcm:=HV.o.commits;rw[←hn0]at hcm;have HC:=hid hcm;have hpr:=zl (HV.o.get (k:=p) (List.mem_singleton.2 rfl));obtain⟨-,q1,-⟩:=hpr;clear hn0 hcm;by_cases h1:k<n
   ·have h2:k=20:=by omega
    have i1:(k:Int)<n:=by omega
    have i2:¬(k:Int)<20:=by omega
    clear hlt h2 hk hkn;go_wp2_with fail
    refine HC.o.mono ?_;rintro e w2 ⟨rfl,hb2⟩;have H2:=hid (HV.o.below hb2);have HCm2:=hid H2.o.commit0;clear q1 hb2 HC;obtain⟨-,q1,-⟩:=zl (H2.o.get (k:=p) (List.mem_singleton.2 rfl));go_wp2_with fail
    refine HCm2.o.mono ?_;rintro e w3 ⟨rfl,h3⟩;have H3:=hid h3;have hs3:=h3.setany ⟨0,1,⟨0,0,false,0,[]⟩,7,0,0,0,0,0,none,0,0⟩;unfold jr at hs3;dsimp only at hs3;have HS3:=hid hs3;clear h3 hs3 HCm2 q1;obtain⟨-,q1,-⟩:=zl (H3.o.get (k:=p) (List.mem_singleton.2 rfl));go_wp2_with fail
    refine HS3.o.mono ?_;rintro e w4 ⟨⟨E,rfl⟩,h4⟩;have HDr:=hid h4.drop;have hp4:=zl (h4.get (k:=p) (List.mem_singleton.2 rfl));obtain⟨v0,-,-⟩:=zl h4.vol;clear h4 q1 HS3;obtain⟨-,q1,-⟩:=hp4;go_wp2_with fail
    refine HDr.o.mono ?_;rintro e w5 ⟨rfl,h5⟩;have H5:=hid h5;have HCm5:=hid h5.commit0;clear h5 q1 v0 HDr;obtain⟨-,q1,-⟩:=zl (H5.o.get (k:=p) (List.mem_singleton.2 rfl));go_wp2_with fail
    refine HCm5.o.mono ?_;rintro e w6 ⟨rfl,h6⟩;have H6:=hid h6;have hc6:=h6.commits;rw[←HN0.o]at hc6;have HC6:=hid hc6;clear h6 hc6 q1 HCm5;obtain⟨-,q1,-⟩:=zl (H6.o.get (k:=p) (List.mem_singleton.2 rfl));go_wp2_with fail
    refine HC6.o.mono ?_;rintro e w7 ⟨rfl,hb7⟩;have H7:=hid (H6.o.below hb7);have hs7:=H7.o.setslot 1 (by omega) (by omega) ⟨7,0,0,0,0,0⟩ ⟨by decide,by decide,by decide,by decide,by decide,by decide⟩;unfold zO zm at hs7;dsimp only at hs7;have HS7:Hid (Calls prog 22 #[.pointer (some ⟨o,0,none⟩),.int .i64 1,.agg #[.int .i64 7,.int .i64 0,.int .i64 0,.int .i64 0,.int .i64 0,.int .i64 0]] w7 fun e b=>e= .returned (.int .i64 0)∧Bn o x t f R V 1 ⟨7,0,0,0,0,0⟩ V (665100000+2000000000*k) w b [(p,zo o R.r)]):=hid hs7;clear hb7 hs7 q1 HC6;obtain⟨-,q1,-⟩:=zl (H7.o.get (k:=p) (List.mem_singleton.2 rfl));go_wp2_with fail
    refine HS7.o.mono ?_;rintro e w8 ⟨rfl,h8⟩;have H8:=hid h8;have HCm8:=hid (h8.commit (by have:=HKk.o;omega) (by have:=HVn.o;have:=HKk.o;omega));clear h8 q1 HS7;obtain⟨-,q1,-⟩:=zl (H8.o.get (k:=p) (List.mem_singleton.2 rfl));go_wp2_with fail
    refine HCm8.o.mono ?_;rintro e w9 ⟨rfl,h9⟩;have H9:=hid h9;have hs9:=h9.slotB 1 (by omega) (by omega);unfold Gd.Vl.sets Gd.updS zO zm at hs9;dsimp only at hs9;have HS9:Hid (Calls prog 17 #[.pointer (some ⟨o,0,none⟩),.int .i64 1] w9 fun e b=>e= .returned (.tuple #[.agg #[.int .i64 7,.int .i64 0,.int .i64 0,.int .i64 0,.int .i64 0,.int .i64 0],.int .i64 0])∧Below w9.heap.size w9 b):=hid hs9;clear h9 hs9 q1 HCm8;obtain⟨-,q1,-⟩:=zl (H9.o.get (k:=p) (List.mem_singleton.2 rfl));go_wp2_with fail
    refine HS9.o.mono ?_;rintro e w10 ⟨rfl,hb10⟩;have H10:=hid (H9.o.below (hb10.alloc hb10.size (.cells #[.int .i64 7,.int .i64 0,.int .i64 0,.int .i64 0,.int .i64 0,.int .i64 0] 48)));obtain⟨wa,hwa⟩:=nm (w10.alloc (.cells #[.int .i64 7,.int .i64 0,.int .i64 0,.int .i64 0,.int .i64 0,.int .i64 0] 48));obtain⟨g,hg⟩:=nm w10.heap.size;rw[←hwa]at H10;have hga:wa.heap[g]? =some (.cells #[.int .i64 7,.int .i64 0,.int .i64 0,.int .i64 0,.int .i64 0,.int .i64 0] 48 (0,0)):=by rw[hwa,hg];exact heap_alloc_new _ _
    have HGa:=hid hga;have HWa:=hid hwa.symm;have Hg:=hid hg.symm;have hc10:=H10.o.commits;have hn1:(((V.sets 1 ⟨7,0,0,0,0,0⟩).n:Nat):Int)=(n0:Int)+1:=by
     rw[HN0.o];show((V.n+1:Nat):Int)=_
     omega
    rw[hn1]at hc10;have HC10:=hid hc10;have hn0b:n0≤100000:=by have:=HN0.o;have:=HVn.o;have:=HKk.o;omega
    clear hb10 hc10 hn1 q1 HS9 hwa hg hga;obtain⟨-,q1,-⟩:=zl (H10.o.get (k:=p) (List.mem_singleton.2 rfl));go_upto_region 18 with fail
    rw[HWa.o,Hg.o];go_wp2_with fail
    refine HC10.o.mono ?_;rintro e w11 ⟨rfl,hb11⟩;have H11:=hid (H10.o.below hb11);have hg11:=(hb11.block g (za HGa.o)).trans HGa.o;have s0:=cell_of_row w11 g 0 _ _ _ hg11;have s1:=cell_of_row w11 g 1 _ _ _ hg11;have s2:=cell_of_row w11 g 2 _ _ _ hg11;have s3:=cell_of_row w11 g 3 _ _ _ hg11;have s4:=cell_of_row w11 g 4 _ _ _ hg11;have s5:=cell_of_row w11 g 5 _ _ _ hg11;have HLv:=hid (xF w11);clear hb11 hg11 q1 HC10;go_wp2_with fail
    refine HLv.o.mono ?_;rintro e w12 ⟨rfl,hb12⟩;have HB12:=hid ((H11.o.below hb12).belowW);clear hb12 HLv s0 s1 s2 s3 s4 s5;go_wp2_with fail
    go_ret
    exact⟨rfl,HB12.o⟩
   ·have i1:¬(k:Int)<n:=by omega
    clear hlt hk hkn;go_wp2_with fail
    refine HC.o.mono ?_;rintro e w2 ⟨rfl,hb2⟩;have H2:=hid (HV.o.below hb2);have HCm2:=hid H2.o.commit0;clear q1 hb2 HC;obtain⟨-,q1,-⟩:=zl (H2.o.get (k:=p) (List.mem_singleton.2 rfl));go_wp2_with fail
    refine HCm2.o.mono ?_;rintro e w3 ⟨rfl,h3⟩;have H3:=hid h3;have hs3:=h3.setany ⟨0,1,⟨0,0,false,0,[]⟩,7,0,0,0,0,0,none,0,0⟩;unfold jr at hs3;dsimp only at hs3;have HS3:=hid hs3;clear h3 hs3 HCm2 q1;obtain⟨-,q1,-⟩:=zl (H3.o.get (k:=p) (List.mem_singleton.2 rfl));go_wp2_with fail
    refine HS3.o.mono ?_;rintro e w4 ⟨⟨E,rfl⟩,h4⟩;have HDr:=hid h4.drop;have hp4:=zl (h4.get (k:=p) (List.mem_singleton.2 rfl));obtain⟨v0,-,-⟩:=zl h4.vol;clear h4 q1 HS3;obtain⟨-,q1,-⟩:=hp4;go_wp2_with fail
    refine HDr.o.mono ?_;rintro e w5 ⟨rfl,h5⟩;have H5:=hid h5;have HCm5:=hid h5.commit0;clear h5 q1 v0 HDr;obtain⟨-,q1,-⟩:=zl (H5.o.get (k:=p) (List.mem_singleton.2 rfl));go_wp2_with fail
    refine HCm5.o.mono ?_;rintro e w6 ⟨rfl,h6⟩;have H6:=hid h6;have hc6:=h6.commits;rw[←HN0.o]at hc6;have HC6:=hid hc6;clear h6 hc6 q1 HCm5;obtain⟨-,q1,-⟩:=zl (H6.o.get (k:=p) (List.mem_singleton.2 rfl));go_wp2_with fail
    refine HC6.o.mono ?_;rintro e w7 ⟨rfl,hb7⟩;have H7:=hid (H6.o.below hb7);have hs7:=H7.o.setslot 1 (by omega) (by omega) ⟨7,0,0,0,0,0⟩ ⟨by decide,by decide,by decide,by decide,by decide,by decide⟩;unfold zO zm at hs7;dsimp only at hs7;have HS7:Hid (Calls prog 22 #[.pointer (some ⟨o,0,none⟩),.int .i64 1,.agg #[.int .i64 7,.int .i64 0,.int .i64 0,.int .i64 0,.int .i64 0,.int .i64 0]] w7 fun e b=>e= .returned (.int .i64 0)∧Bn o x t f R V 1 ⟨7,0,0,0,0,0⟩ V (665100000+2000000000*k) w b [(p,zo o R.r)]):=hid hs7;clear hb7 hs7 q1 HC6;obtain⟨-,q1,-⟩:=zl (H7.o.get (k:=p) (List.mem_singleton.2 rfl));go_wp2_with fail
    refine HS7.o.mono ?_;rintro e w8 ⟨rfl,h8⟩;have H8:=hid h8;have HCm8:=hid (h8.commit (by have:=HKk.o;omega) (by have:=HVn.o;have:=HKk.o;omega));clear h8 q1 HS7;obtain⟨-,q1,-⟩:=zl (H8.o.get (k:=p) (List.mem_singleton.2 rfl));go_wp2_with fail
    refine HCm8.o.mono ?_;rintro e w9 ⟨rfl,h9⟩;have H9:=hid h9;have hs9:=h9.slotB 1 (by omega) (by omega);unfold Gd.Vl.sets Gd.updS zO zm at hs9;dsimp only at hs9;have HS9:Hid (Calls prog 17 #[.pointer (some ⟨o,0,none⟩),.int .i64 1] w9 fun e b=>e= .returned (.tuple #[.agg #[.int .i64 7,.int .i64 0,.int .i64 0,.int .i64 0,.int .i64 0,.int .i64 0],.int .i64 0])∧Below w9.heap.size w9 b):=hid hs9;clear h9 hs9 q1 HCm8;obtain⟨-,q1,-⟩:=zl (H9.o.get (k:=p) (List.mem_singleton.2 rfl));go_wp2_with fail
    refine HS9.o.mono ?_;rintro e w10 ⟨rfl,hb10⟩;have H10:=hid (H9.o.below (hb10.alloc hb10.size (.cells #[.int .i64 7,.int .i64 0,.int .i64 0,.int .i64 0,.int .i64 0,.int .i64 0] 48)));obtain⟨wa,hwa⟩:=nm (w10.alloc (.cells #[.int .i64 7,.int .i64 0,.int .i64 0,.int .i64 0,.int .i64 0,.int .i64 0] 48));obtain⟨g,hg⟩:=nm w10.heap.size;rw[←hwa]at H10;have hga:wa.heap[g]? =some (.cells #[.int .i64 7,.int .i64 0,.int .i64 0,.int .i64 0,.int .i64 0,.int .i64 0] 48 (0,0)):=by rw[hwa,hg];exact heap_alloc_new _ _
    have HGa:=hid hga;have HWa:=hid hwa.symm;have Hg:=hid hg.symm;have hc10:=H10.o.commits;have hn1:(((V.sets 1 ⟨7,0,0,0,0,0⟩).n:Nat):Int)=(n0:Int)+1:=by
     rw[HN0.o];show((V.n+1:Nat):Int)=_
     omega
    rw[hn1]at hc10;have HC10:=hid hc10;have hn0b:n0≤100000:=by have:=HN0.o;have:=HVn.o;have:=HKk.o;omega
    clear hb10 hc10 hn1 q1 HS9 hwa hg hga;obtain⟨-,q1,-⟩:=zl (H10.o.get (k:=p) (List.mem_singleton.2 rfl));go_upto_region 18 with fail
    rw[HWa.o,Hg.o];go_wp2_with fail
    refine HC10.o.mono ?_;rintro e w11 ⟨rfl,hb11⟩;have H11:=hid (H10.o.below hb11);have hg11:=(hb11.block g (za HGa.o)).trans HGa.o;have s0:=cell_of_row w11 g 0 _ _ _ hg11;have s1:=cell_of_row w11 g 1 _ _ _ hg11;have s2:=cell_of_row w11 g 2 _ _ _ hg11;have s3:=cell_of_row w11 g 3 _ _ _ hg11;have s4:=cell_of_row w11 g 4 _ _ _ hg11;have s5:=cell_of_row w11 g 5 _ _ _ hg11;have HLv:=hid (xF w11);clear hb11 hg11 q1 HC10;go_wp2_with fail
    refine HLv.o.mono ?_;rintro e w12 ⟨rfl,hb12⟩;have HB12:=hid ((H11.o.below hb12).belowW);clear hb12 HLv s0 s1 s2 s3 s4 s5;go_wp2_with fail
    go_ret
    exact⟨rfl,HB12.o⟩
end Go.Proofs.YtccpdkjonepoiaaGreatDoor
