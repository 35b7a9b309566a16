/- Walk: commonslaw17: VolumePlays. -/
import Derived.Test.YtccpdkjonepoiaaGreatDoorR36
set_option linter.unusedVariables false
set_option linter.unusedSimpArgs false
set_option linter.unusedSectionVars false
set_option maxHeartbeats 8000000
set_option maxRecDepth 100000
namespace Go.Proofs.YtccpdkjonepoiaaGreatDoor
open Go.RowKit
open Lib(hid)
open Go.Proofs.Tryz
open Go.Shelf
attribute [local go_sem] Oper.semAt_some
theorem law_vplays(A:Option Addr)(L:List Dd)(c:Nat)(w:World)(hl:L.length≤9223372036854775807)(hA:Dds w A L)(hD:∀d∈L,Y4 w d)(hM:Mx w):
 Calls prog 6 #[.slice A L.length c] w fun e w'=>e= .returned (.bool true)∧Below w.heap.size w w':=by
 have HBg:=hid (vq w hM);have HA:=hid hA;have HD:=hid hD;obtain⟨n,hn⟩:=nm L.length;rw[←hn]at hl⊢;have Hn:=hid hn;clear hA hD hn hM;go_enter func6,ntmps6;go_wp2_with fail
 refine HBg.o.mono ?_;rintro e w1 ⟨mn,p,rfl,hbg⟩;obtain⟨R,o,x,t,f,hv⟩:=JB hbg;have HV:=hid hv;clear hbg hv HBg;go_upto_region 5 with fail
 go_loopw[4] (fun z wr=>∃(k:Nat) (V:Gd.Vl) (o x t f:Nat),z= .int .i64 k∧k≤n∧k≤25∧Hid (V.Ok∧V.n≤4+480*k)∧Hid (Bv o x t f R V V (665100000+2000000000*k) w wr [(p,zo o R.r)])) (fun z _=>25-(intOf z).toNat)
 case atStart=>exact⟨0,Zo,o,x,t,f,rfl,by omega,by omega,hid ⟨Qr,Nat.le_refl _⟩,HV⟩
 case round=>
  obtain⟨k,V,o,x,t,f,rfl,hkn,hk,HO,HV⟩:=hrel;by_cases hlt:k<n∧k<25
  ·obtain⟨hk1,hk2⟩:=hlt;obtain⟨d,hd⟩:∃d,L[k]? =some d:=⟨_,List.getElem?_eq_getElem (by have:=Hn.o;omega)⟩;obtain⟨b,q,rfl,hrow⟩:∃b q,A=some ⟨b,q,none⟩∧wr.rangeAt b (q+k*14) (ddC d).toList:=by
    rcases HA.o with h|⟨b,q,h1,h2,h3⟩
    ·rw[h]at hd;simp at hd
    ·exact⟨b,q,h1,fun i v hi=>(HV.o.belowW.cell (p:=⟨b,q+k*14+i,none⟩) h2).trans (h3 k d hd i v hi)⟩
   have HDo:=hid (Ju HV.o HO.o.1 d (HD.o d (List.mem_of_getElem? hd)) (by omega) (by have:=HO.o.2;omega));have HO2:Hid ((doD V d).Ok∧(doD V d).n≤4+480*(k+1)):=hid ⟨YN HO.o.1 d,by have:=(VR V d).2;have:=HO.o.2;omega⟩;have i1:(k:Int)<n:=by omega
   have i2:(k:Int)<25:=by omega
   have i0:(0:Int)≤k:=by omega
   clear hd;go_wp2_with(refine wpList_load_mid rfl 60 _ rfl b (q+k*14) rfl (ddC d).toList _ hrow underlying60 rfl sizeDd ?_)
   refine HDo.o.mono ?_;rintro e w2 ⟨rfl,o2,x2,t2,f2,h2⟩;have H2:=hid h2;have HLk:=hid (h2.like HO2.o.1);clear h2 hrow HDo;go_wp2_with fail
   refine HLk.o.mono ?_;rintro e w3 ⟨rfl,hb3⟩;have H3:=hid (H2.o.below hb3);clear hb3 HLk;go_wp2_with fail
   go_roundw
   case rel=>exact⟨k+1,doD V d,o2,x2,t2,f2,by go_num,by omega,by omega,HO2,hid (by rw[show 665100000+2000000000*(k+1)=665100000+2000000000*k+2000000000 by omega];exact H3.o)⟩
   case measure=>simp[intOf];omega
  ·have HLv:=hid (xF wr);have HB:=hid HV.o.belowW;by_cases h1:k<n
   ·have h2:k=25:=by omega
    have i1:(k:Int)<n:=by omega
    have i2:¬(k:Int)<25:=by omega
    clear hlt h2;go_wp2_with fail
    refine HLv.o.mono ?_;rintro e w2 ⟨rfl,hb2⟩;have HB2:=HB.t hb2;go_wp2_with fail
    go_ret
    exact⟨rfl,HB2.o⟩
   ·have i1:¬(k:Int)<n:=by omega
    clear hlt;go_wp2_with fail
    refine HLv.o.mono ?_;rintro e w2 ⟨rfl,hb2⟩;have HB2:=HB.t hb2;go_wp2_with fail
    go_ret
    exact⟨rfl,HB2.o⟩
end Go.Proofs.YtccpdkjonepoiaaGreatDoor
