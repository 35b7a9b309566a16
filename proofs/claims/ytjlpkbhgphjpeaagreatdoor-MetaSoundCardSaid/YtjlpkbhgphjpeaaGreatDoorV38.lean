import Derived.Test.YtjlpkbhgphjpeaaGreatDoorV35
import Derived.Test.YtjlpkbhgphjpeaaGreatDoorV36
set_option linter.all false
set_option maxHeartbeats 8000000
set_option maxRecDepth 100000
namespace Go.Proofs.YtjlpkbhgphjpeaaGreatDoor
open Go.RowKit
open Lib(hid)
open Go.Proofs.Tryz
open Go.Shelf
attribute [local go_sem] Oper.semAt_some
theorem J8[zg]{x t r p K g:Nat}{w a:World}(h:yy x t r p K g w a):Calls prog 12 #[.pointer (some ⟨p,0,none⟩)] a fun e b=>e= .returned (.bool true)∧yy x t r p K g w b:=by
 obtain⟨S,M,T,D,Z,φ,hP,hS,hG,hF⟩:=h;obtain⟨F,h1,-,-⟩:=hP.open;have h2:=hP.get (k:=p) (o:=zL t x r D) (by simp);refine(Q5 a h1 (zE h2).2.2.1 (za h2) hS.snd).mono ?_
 rintro e b ⟨rfl,hb⟩;exact⟨rfl,S,M,T,D,Z,φ,hP.below hb,hS,hG,hF⟩
theorem law_msound(A:Option Addr)(L:List Ak)(c:Nat)(w:World)(hl:L.length≤9223372036854775807)(hA:Ua w A L)(hM:Mx w):
 Calls prog 4 #[.slice A L.length c] w fun e w'=>e= .returned (.bool true)∧Below w.heap.size w w':=by
 have HBg:=hid (vB w);obtain⟨n,hn⟩:=nm L.length;have HA:=hid hA;have HM:=hid hM;have Hn:=hid hn;rw[←hn]at hl⊢;have hl2:(n:Int)≤9223372036854775807:=by omega
 clear hM hA hn hl;go_enter func4,ntmps4;go_wp2_with fail
 refine HBg.o.mono ?_;rintro e w1 ⟨mn,p,x,t,r,S,V,rfl,hP⟩;have HK:=hid (J9 hP);clear hP HBg;go_upto_region 5 with fail
 go_loopw[4,5,9,10,11,12,13,14,15,16,17,18,19,20,21,22,23,24,25,26,27,28] (fun z _ _ _ _ _ _ _ _ _ _ _ _ _ _ _ _ _ _ _ _ _ wr=>∃k:Nat,z= .int .i64 k∧k≤n∧k≤40∧Hid (yy x t r p (2000000+2000000*k) (1+3*k) w wr)) (fun z _ _ _ _ _ _ _ _ _ _ _ _ _ _ _ _ _ _ _ _ _ _=>40-(intOf z).toNat)
 case atStart=>exact⟨0,rfl,by omega,by omega,HK⟩
 case round=>
  obtain⟨k,rfl,hkn,hk,HK⟩:=hrel;by_cases h12:(k:Int)<n∧(k:Int)<40
  ·obtain⟨h1,h2⟩:=h12;obtain⟨a,ha⟩:∃a,L[k]? =some a:=⟨_,List.getElem?_eq_getElem (by have:=Hn.o;omega)⟩;obtain⟨b,o,rfl,hcells⟩:∃b o,A=some ⟨b,o,none⟩∧∀(i:Nat) v,(akC a).toList[i]? =some v→wr.cell? ⟨b,o+k*11+i,none⟩=some v:=by
    rcases HA.o.keep HK.o.belowW with h|⟨b,o,e1,_,e3⟩
    ·rw[h]at ha;simp at ha
    ·exact⟨b,o,e1,e3 k a ha⟩
   obtain⟨cl,kind,s,s2,fl,fd,off,m,data,spare,dr⟩:=a;have c0:wr.cell? ⟨b,o+k*11,none⟩=some (.int .i64 cl):=hcells 0 _ rfl;have c1:wr.cell? ⟨b,o+k*11+1,none⟩=some (.int .i64 kind):=hcells 1 _ rfl;have c2:wr.cell? ⟨b,o+k*11+2,none⟩=some (.string s):=hcells 2 _ rfl;have c3:wr.cell? ⟨b,o+k*11+3,none⟩=some (.string s2):=hcells 3 _ rfl;have c4:wr.cell? ⟨b,o+k*11+4,none⟩=some (.int .i64 fl):=hcells 4 _ rfl;have c5:wr.cell? ⟨b,o+k*11+5,none⟩=some (.int .i64 fd):=hcells 5 _ rfl;have c6:wr.cell? ⟨b,o+k*11+6,none⟩=some (.int .i64 off):=hcells 6 _ rfl;have c7:wr.cell? ⟨b,o+k*11+7,none⟩=some (.int .i64 m):=hcells 7 _ rfl;have c8:wr.cell? ⟨b,o+k*11+8,none⟩=some (.string data):=hcells 8 _ rfl;have c9:wr.cell? ⟨b,o+k*11+9,none⟩=some (.int .i64 spare):=hcells 9 _ rfl;have c10:wr.cell? ⟨b,o+k*11+10,none⟩=some (.bool dr):=hcells 10 _ rfl;have h0:(0:Int)≤k:=by omega
   have HD:=hid ((Xl cl kind fl fd off m spare s s2 data dr wr HK.o HM.o (by omega) (by omega)));have HNx:Hid (∀{W:World},yy x t r p (2000000+2000000*k+2000000) (1+3*k+3) w W→Hid (yy x t r p (2000000+2000000*(k+1)) (1+3*(k+1)) w W)):=hid fun h=>by
    rw[show 2000000+2000000*(k+1)=2000000+2000000*k+2000000 by omega,show 1+3*(k+1)=1+3*k+3 by omega];exact hid h
   unfold akV akC at HD;try dsimp only at HD
   clear ha hcells hkn hk;go_wp2_with fail
   refine HD.o.mono ?_;rintro e w3 ⟨rfl,hK3⟩;have HK3:=hid hK3;have HSd:=hid (J8 HK3.o);clear hK3 HD;go_wp2_with fail
   refine HSd.o.mono ?_;rintro e w4 ⟨rfl,hK4⟩;have HK4:=hid hK4;clear hK4 HSd;go_wp2;go_roundw
   case rel=>exact⟨k+1,by go_num,by omega,by omega,HNx.o HK4.o⟩
   case measure=>simp[intOf];omega
  have hx:¬(k:Int)<n∨((k:Int)<n∧¬(k:Int)<40):=by omega
  clear h12;have HBw:=hid HK.o.belowW;have HLv:=hid (yV wr (HM.o.under HBw.o));rcases hx with h1|⟨h1,h2⟩
  all_goals
   go_wp2_with fail
   refine HLv.o.mono ?_;rintro e w9 ⟨rfl,hb9⟩;go_wp2;go_ret
   exact⟨rfl,HBw.o.trans (hb9.mono HBw.o.size)⟩
end Go.Proofs.YtjlpkbhgphjpeaaGreatDoor
