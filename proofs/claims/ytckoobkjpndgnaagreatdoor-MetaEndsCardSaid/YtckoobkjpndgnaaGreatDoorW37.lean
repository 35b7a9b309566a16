/- The law MetaEnds. -/
import Derived.Test.YtckoobkjpndgnaaGreatDoorW36
set_option linter.unusedVariables false
set_option linter.unusedSimpArgs false
set_option linter.unusedSectionVars false
set_option maxHeartbeats 8000000
set_option maxRecDepth 100000
namespace Go.Proofs.YtckoobkjpndgnaaGreatDoor
open Go.RowKit
open Lib(hid)
open Go.Proofs.Tryz
open Go.Shelf
attribute [local go_sem] Oper.semAt_some
theorem law_mends(A:Option Addr)(L:List Ak)(c:Nat)(B:Option Addr)(Y:List UInt8)(cb:Nat)(at_:Int)(A2:Option Addr)(L2:List Ak)(c2:Nat)(w:World)(hl:L.length≤9223372036854775807)(hA:AksR w A L)(hc:Y.length≤cb∧cb≤9223372036854775807)(hY:RawB w B Y)(hat:I64 at_)(hl2:L2.length≤9223372036854775807)(hA2:AksR w A2 L2)(hM:Mx w):
 Calls prog 3 #[.slice A L.length c,.slice B Y.length cb,.int .i64 at_,.slice A2 L2.length c2] w fun e w'=>e= .returned (.bool true)∧Below w.heap.size w w':=by
 have HBg:=hid (pbegin_any w);obtain⟨n,hn⟩:=nm L.length;obtain⟨n2,hn2⟩:=nm L2.length;obtain⟨N,hN⟩:=nm Y.length;have HA:=hid hA;have HA2:=hid hA2;have HY:=hid hY;have HM:=hid hM;have Hn:=hid hn;have Hn2:=hid hn2;have HN:=hid hN;obtain⟨ha1,ha2⟩:=hat.lo;obtain⟨hc1,hc2⟩:=hc;rw[←hn]at hl⊢;rw[←hn2]at hl2⊢;rw[←hN]at hc1⊢;have hl3:(n:Int)≤9223372036854775807:=by omega
 have hl4:(n2:Int)≤9223372036854775807:=by omega
 clear hM hA hn hl hA2 hY hn2 hN hl2 hat;go_enter func3,ntmps3;go_wp2_with fail
 refine HBg.o.mono ?_;rintro e w1 ⟨mn,p,x,t,r,S,V,rfl,hP⟩;have HK:=hid (kept_beginE hP);clear hP HBg;go_upto_if 15 with fail
 iterate 5 go_step
 go_cut[] from 16 to 31 (fun wx=>Hid (KeptE x t r p 22000000 31 w wx))
 case first=>
  go_upto_region 5 with fail
  go_loopw[10] (fun z wr=>∃k:Nat,z= .int .i64 k∧k≤n∧k≤10∧Hid (KeptE x t r p (2000000+2000000*k) (1+3*k) w wr)) (fun z _=>10-(intOf z).toNat)
  case atStart=>exact⟨0,rfl,by omega,by omega,HK⟩
  case round=>
   obtain⟨k,rfl,hkn,hk,HK⟩:=hrel;by_cases h1:(k:Int)<n
   ·by_cases h2:(k:Int)<10
    ·obtain⟨a,ha⟩:∃a,L[k]? =some a:=⟨_,List.getElem?_eq_getElem (by have:=Hn.o;omega)⟩;obtain⟨b,o,rfl,hcells⟩:∃b o,A=some ⟨b,o,none⟩∧∀(i:Nat) v,(akC a).toList[i]? =some v→wr.cell? ⟨b,o+k*11+i,none⟩=some v:=by
      rcases HA.o.keep HK.o.belowW with h|⟨b,o,e1,_,e3⟩
      ·rw[h]at ha;simp at ha
      ·exact⟨b,o,e1,e3 k a ha⟩
     obtain⟨cl,kind,s,s2,fl,fd,off,m,data,spare,dr⟩:=a;have c0:wr.cell? ⟨b,o+k*11,none⟩=some (.int .i64 cl):=hcells 0 _ rfl;have c1:wr.cell? ⟨b,o+k*11+1,none⟩=some (.int .i64 kind):=hcells 1 _ rfl;have c2:wr.cell? ⟨b,o+k*11+2,none⟩=some (.string s):=hcells 2 _ rfl;have c3:wr.cell? ⟨b,o+k*11+3,none⟩=some (.string s2):=hcells 3 _ rfl;have c4:wr.cell? ⟨b,o+k*11+4,none⟩=some (.int .i64 fl):=hcells 4 _ rfl;have c5:wr.cell? ⟨b,o+k*11+5,none⟩=some (.int .i64 fd):=hcells 5 _ rfl;have c6:wr.cell? ⟨b,o+k*11+6,none⟩=some (.int .i64 off):=hcells 6 _ rfl;have c7:wr.cell? ⟨b,o+k*11+7,none⟩=some (.int .i64 m):=hcells 7 _ rfl;have c8:wr.cell? ⟨b,o+k*11+8,none⟩=some (.string data):=hcells 8 _ rfl;have c9:wr.cell? ⟨b,o+k*11+9,none⟩=some (.int .i64 spare):=hcells 9 _ rfl;have c10:wr.cell? ⟨b,o+k*11+10,none⟩=some (.bool dr):=hcells 10 _ rfl;have h0:(0:Int)≤k:=by omega
     have HD:=hid ((doesT_any cl kind fl fd off m spare s s2 data dr wr HK.o HM.o (by omega) (by omega)));have HNx:Hid (∀{W:World},KeptE x t r p (2000000+2000000*k+2000000) (1+3*k+3) w W→Hid (KeptE x t r p (2000000+2000000*(k+1)) (1+3*(k+1)) w W)):=hid fun h=>by
      rw[show 2000000+2000000*(k+1)=2000000+2000000*k+2000000 by omega,show 1+3*(k+1)=1+3*k+3 by omega];exact hid h
     unfold akV akC at HD;try dsimp only at HD
     clear ha hcells hkn hk;go_wp2_with fail
     refine HD.o.mono ?_;rintro e w3 ⟨bl,rfl,hK3⟩;have HK3:=hid hK3;clear hK3 HD;go_wp2;go_roundw
     case rel=>exact⟨k+1,by go_num,by omega,by omega,HNx.o HK3.o⟩
     case measure=>simp[intOf];omega
    ·go_wp2_with fail
     go_meet
     exact hid (HK.o.more (by omega) (by omega))
   ·go_wp2_with fail
    go_meet
    exact hid (HK.o.more (by omega) (by omega))
 case rest=>
 have HK1:=hid hcut.o;clear hcut HK;iterate 2 go_step
 go_cut[1] from 32 to 36 (fun z wx=>(∃X:List UInt8,z= .slice B X.length cb∧Hid (RawB w B X)∧X.length≤300)∧Hid (KeptE x t r p 22000000 31 w wx))
 case first=>
  by_cases h1:300<N
  ·have h2:(300:Int)<N:=by omega
   have h3:(300:Int)≤cb:=by omega
   go_wp2_with fail
   go_meet
   refine⟨⟨Y.take 300,?_,hid (HY.o.take 300),by rw[List.length_take];omega⟩,HK1⟩;rw[List.length_take,←HN.o,Nat.min_eq_left (by omega)]
  ·have h2:¬(300:Int)<N:=by omega
   go_wp2_with fail
   go_meet
   exact⟨⟨Y,by rw[←HN.o],HY,by rw[←HN.o];omega⟩,HK1⟩
 case rest=>
 obtain⟨⟨X,hz,HX,hXl⟩,hq⟩:=hcut;subst hz;have HK2:=hid hq.o;clear hq HK1;iterate 2 go_step
 go_cut[2] from 37 to 41 (fun z wx=>(∃q:Nat,z= .int .i64 q∧q≤9223372036854775807)∧Hid (KeptE x t r p 22000000 31 w wx))
 case first=>
  by_cases h1:at_<0
  ·have hw1:IntKind.i64.wrap (at_+1)=at_+1:=by rw[IntKind.wrap_i64];omega
   have hw2:IntKind.i64.wrap (-(at_+1))= -(at_+1):=by rw[IntKind.wrap_i64];omega
   go_wp2_with fail
   go_meet
   exact⟨⟨(-(at_+1)).toNat,by congr 1;omega,by omega⟩,HK2⟩
  ·go_wp2_with fail
   go_meet
   exact⟨⟨at_.toNat,by congr 1;omega,by omega⟩,HK2⟩
 case rest=>
 obtain⟨⟨q,hz,hq2⟩,hq⟩:=hcut;subst hz;have HK3:=hid hq.o;clear hq HK2 ha1 ha2;obtain⟨D,Z,hP3,-,-⟩:=HK3.o;have HP3:=hid hP3;have HS1:Hid (Calls prog 6 #[.pointer (some ⟨MemNo.no,0,none⟩),.int .i64 (640+(q:Int) % 20000),.slice B X.length cb] wc fun e b=>e= .returned (.int .i64 0)∧Lx x t r Z w b [(p,oPair t x r D)]):=hid (by
  rw[show 640+(q:Int) % 20000=((640+q % 20000:Nat):Int) by omega];refine hP3.raw (by omega) (640+q % 20000) B cb X (HX.o.keep hP3.belowW) (fun hne g o hg=> ?_) (by have:=Nat.mod_lt q (show 0<20000 by omega);omega) (by omega);rcases HX.o with e|⟨b,o',h1,h2,_⟩
  ·exact absurd e hne
  ·rw[h1]at hg
   cases hg
   exact h2)
 have p0:=(pair_cells (hP3.get (k:=p) (o:=oPair t x r D) (by simp))).1;have hw3:IntKind.i64.wrap (640+(q:Int) % 20000)=640+(q:Int) % 20000:=by rw[IntKind.wrap_i64];omega
 clear hP3 HK3;go_upto_region 13 with(go_at_call 6;refine HS1.o.mono ?_;rintro e w4 ⟨rfl,hL4⟩;have HL4:=hid hL4;clear hL4)
 clear p0 hw3 HS1;obtain⟨w5,hw5⟩:=nm (w4.drew.alloc (.cells (cellsB (List.replicate 8 0)) 5));have hb5:Below w4.heap.size w4 w5:=by rw[hw5];exact((Below.refl _ _).drew).alloc (Nat.le_refl _) _
 have hB5:RawB w5 (some ⟨w4.heap.size,0,none⟩) (List.replicate 8 0):=Or.inr ⟨_,0,rfl,by rw[hw5];simp,fun j y hy=>by
  rw[Nat.zero_add,hw5];exact(cell_of_row _ _ j _ _ _ (heap_alloc_new w4.drew _)).trans (cellsB_get hy)⟩
 have HSt:=hid (HL4.o.raw w4.heap.size 8 (Nat.le_refl _) hb5 hB5);have hmk:=made8 w4.drew;rw[←hw5]at hmk;have hs4:w4.cell? ⟨p,0,none⟩=some (.pointer (some ⟨MemNo.no,0,none⟩)):=(pair_cells (HL4.o.get (k:=p) (o:=oPair t x r D) (by simp))).1;have HS5:Hid (w5.cell? ⟨p,0,none⟩=some (.pointer (some ⟨MemNo.no,0,none⟩))):=hid (pair_cells ((HL4.o.below hb5).get (k:=p) (o:=oPair t x r D) (by simp))).1;clear hw5 hb5 hB5;refine wp_region_held_drew (S:=(fun W=>W.cell? ⟨p,0,none⟩=some (.pointer (some ⟨MemNo.no,0,none⟩)))) (by kernel_rfl) ?_ (fun hHeld=> ?_)
 ·exact hs4
 refine tk 0 ?_;refine tk 1 ?_;refine tk 2 ?_;refine tk 3 ?_;refine rd 4 (fun K hK=> ?_);go_simp
 have hs5:=HS5.o;try dsimp only
 refine hK.o _ _ hs5 (fun hHeld=> ?_);clear hK K;try simp only[put]
 refine rd 5 (fun K hK=> ?_);go_simp
 refine HSt.o.mono ?_;rintro e w6 ⟨rfl,hP6⟩;have HP6:=hid hP6;have hs6:=(pair_cells (hP6.get (k:=p) (o:=oPair t x r D) (by simp))).1;clear hP6;try dsimp only
 refine hK.o _ _ hs6 (fun hHeld=> ?_);clear hK K;try simp only[put]
 refine dn ?_
 (try simp only[Exit.then])
 clear hs4 hs5 hs6 hmk HSt;have HLv:=hid fun W (hW:Below w.heap.size w W)=>lives14_any W (HM.o.under hW);go_upto_region 15 with fail
 go_loopw[11] (fun z wr=>∃k:Nat,z= .int .i64 k∧k≤n2∧k≤10∧Hid (Le x t r Z 1000000000000 w wr [(p,oPair t x r D)])) (fun z _=>10-(intOf z).toNat)
 case atStart=>exact⟨0,rfl,by omega,by omega,HP6⟩
 case round=>
  obtain⟨k,rfl,hkn,hk,HP⟩:=hrel;by_cases h1:(k:Int)<n2
  rotate_left
  ·have HLc:=hid (HLv.o wr HP.o.belowW);go_wp2_with fail
   refine HLc.o.mono ?_;rintro e w9 ⟨rfl,hb9⟩;go_wp2;go_ret
   exact⟨rfl,HP.o.belowW.trans (hb9.mono HP.o.belowW.size)⟩
  by_cases h2:(k:Int)<10
  rotate_left
  ·have HLc:=hid (HLv.o wr HP.o.belowW);go_wp2_with fail
   refine HLc.o.mono ?_;rintro e w9 ⟨rfl,hb9⟩;go_wp2;go_ret
   exact⟨rfl,HP.o.belowW.trans (hb9.mono HP.o.belowW.size)⟩
  obtain⟨a,ha⟩:∃a,L2[k]? =some a:=⟨_,List.getElem?_eq_getElem (by have:=Hn2.o;omega)⟩;obtain⟨b,o,rfl,hcells⟩:∃b o,A2=some ⟨b,o,none⟩∧∀(i:Nat) v,(akC a).toList[i]? =some v→wr.cell? ⟨b,o+k*11+i,none⟩=some v:=by
   rcases HA2.o.keep HP.o.belowW with h|⟨b,o,e1,_,e3⟩
   ·rw[h]at ha;simp at ha
   ·exact⟨b,o,e1,e3 k a ha⟩
  obtain⟨cl,kind,s0,s20,fl,fd,off,m,data,spare,dr⟩:=a;have c0:wr.cell? ⟨b,o+k*11,none⟩=some (.int .i64 cl):=hcells 0 _ rfl;have c1:wr.cell? ⟨b,o+k*11+1,none⟩=some (.int .i64 kind):=hcells 1 _ rfl;have c2:wr.cell? ⟨b,o+k*11+2,none⟩=some (.string s0):=hcells 2 _ rfl;have c3:wr.cell? ⟨b,o+k*11+3,none⟩=some (.string s20):=hcells 3 _ rfl;have c4:wr.cell? ⟨b,o+k*11+4,none⟩=some (.int .i64 fl):=hcells 4 _ rfl;have c5:wr.cell? ⟨b,o+k*11+5,none⟩=some (.int .i64 fd):=hcells 5 _ rfl;have c6:wr.cell? ⟨b,o+k*11+6,none⟩=some (.int .i64 off):=hcells 6 _ rfl;have c7:wr.cell? ⟨b,o+k*11+7,none⟩=some (.int .i64 m):=hcells 7 _ rfl;have c8:wr.cell? ⟨b,o+k*11+8,none⟩=some (.string data):=hcells 8 _ rfl;have c9:wr.cell? ⟨b,o+k*11+9,none⟩=some (.int .i64 spare):=hcells 9 _ rfl;have c10:wr.cell? ⟨b,o+k*11+10,none⟩=some (.bool dr):=hcells 10 _ rfl;have h0:(0:Int)≤k:=by omega
  clear ha hcells hkn hk;obtain⟨s,hs⟩:=nm (cutL s0 60);obtain⟨s2,hs2⟩:=nm (cutL s20 60);have Hsl:Hid (s.size≤100000∧s2.size≤100000):=hid ⟨by rw[hs];exact Nat.le_trans (cutL_size _ _) (by omega),by rw[hs2];exact Nat.le_trans (cutL_size _ _) (by omega)⟩;have HCut:=hid fun W=>pcut_any kind fl fd off m s0 s20 data W;rw[←hs,←hs2]at HCut;unfold callV at HCut;have HP1:=hid (HP.o.alloc #[.int .i64 cl,.int .i64 kind,.string s0,.string s20,.int .i64 fl,.int .i64 fd,.int .i64 off,.int .i64 m,.string data,.int .i64 spare,.bool dr] 30);obtain⟨b3,hb3⟩:=nm wr.heap.size;have HNe:Hid (p≠b3):=hid (by rw[hb3];have:=lt_get (HP.o.get (k:=p) (o:=oPair t x r D) (by simp));omega);clear hs hs2;go_upto_region 18 with fail
  rw[←hb3]at HP1⊢;clear hb3 c0 c1 c2 c3 c4 c5 c6 c7 c8 c9 c10;have hrow:(wr.alloc (.cells #[.int .i64 cl,.int .i64 kind,.string s0,.string s20,.int .i64 fl,.int .i64 fd,.int .i64 off,.int .i64 m,.string data,.int .i64 spare,.bool dr] 30)).heap[b3]? =some (.cells #[.int .i64 cl,.int .i64 kind,.string s0,.string s20,.int .i64 fl,.int .i64 fd,.int .i64 off,.int .i64 m,.string data,.int .i64 spare,.bool dr] 30 (0,0)):=HP1.o.get (k:=b3) (by simp);have HRw:=hid hrow;obtain⟨r0,r1,r2,r3,r4,r5,r6,r7,r8,r9,r10⟩:=ak_cells hrow;clear hrow
  go_upto_region 19 with(first|(go_at_call 7;refine(HCut.o _).mono ?_;rintro e w2 ⟨rfl,hb2⟩;have HP2:=hid (HP1.o.below hb2);have HR2:=HRw.r hb2;clear hb2)|(refine wpList_store_mid rfl 28 _ _ rfl b3 1 #[.int .i64 kind,.string s,.string s2,.int .i64 fl,.int .i64 fd,.int .i64 off,.int .i64 m,.string data] rfl rfl (there_cells HR2.o (show 9≤11 by decide)) sizeCall14 (call_one _ _ _ _ _ _ _ _) ?_;have hp3:=ak_put HR2.o (.int .i64 kind) (.string s) (.string s2) (.int .i64 fl) (.int .i64 fd) (.int .i64 off) (.int .i64 m) (.string data);have HP3:=hid (HP2.o.turn (k:=b3) (List.mem_cons_self ..) (grown_only (F:=fun q=>q=b3) (setCells_grownM b3 [.int .i64 kind,.string s,.string s2,.int .i64 fl,.int .i64 fd,.int .i64 off,.int .i64 m,.string data] 1 w2) fun q e=>(Option.some.inj e).symm) hp3 [(b3,.cells #[.int .i64 cl,.int .i64 kind,.string s,.string s2,.int .i64 fl,.int .i64 fd,.int .i64 off,.int .i64 m,.string data,.int .i64 spare,.bool dr] 30 (0,0)),(p,oPair t x r D)] (two_turn HNe.o));generalize (World.setCells _ _ _ _)=w3 at hp3 HP3⊢;have HR3:=hid hp3;clear hp3))
  clear r0 r1 r2 r3 r4 r5 r6 r7 r8 r9 r10 HCut;have c0:w3.cell? ⟨b3,0,none⟩=some (.int .i64 cl):=cell_of_row w3 _ 0 _ _ _ HR3.o;have c10:w3.cell? ⟨b3,10,none⟩=some (.bool dr):=cell_of_row w3 _ 10 _ _ _ HR3.o;by_cases hc1:cl<1
  ·go_wp2_with fail
   go_roundw
   case rel=>exact⟨k+1,by go_num,by omega,by omega,hid (HP3.o.less fun q hq=>by rw[List.mem_singleton.1 hq];simp)⟩
   case measure=>simp[intOf];omega
  by_cases hc8:8<cl
  ·go_wp2_with fail
   go_roundw
   case rel=>exact⟨k+1,by go_num,by omega,by omega,hid (HP3.o.less fun q hq=>by rw[List.mem_singleton.1 hq];simp)⟩
   case measure=>simp[intOf];omega
  obtain⟨kk,rfl⟩:∃kk:Nat,cl=(kk:Int)+1:=⟨(cl-1).toNat,by omega⟩;have Hk8:Hid (kk<8):=hid (by omega)
  cases dr with
  |true=>
   have HXd:=hid ((HP3.o.below (Below.refl _ _).drew).xdrop kk Hk8.o);go_upto_region 21 with fail
   have hs0:=(show w3.cell? ⟨p,2,none⟩=some (.pointer (some ⟨x,0,none⟩))∧w3.cell? ⟨b3,0,none⟩=some (.int .i64 ((kk:Int)+1)) from⟨(pair_cells (HP3.o.get (k:=p) (o:=oPair t x r D) (by simp))).2.2.1,c0⟩);clear c0 c10;refine wp_region_held_drew (S:=(fun W=>W.cell? ⟨p,2,none⟩=some (.pointer (some ⟨x,0,none⟩))∧W.cell? ⟨b3,0,none⟩=some (.int .i64 ((kk:Int)+1)))) (by kernel_rfl) ?_ (fun hHeld=> ?_)
   ·exact hs0
   refine tk 0 ?_;refine tk 1 ?_;refine tk 2 ?_;refine tk 3 ?_;refine tk 4 ?_;refine tk 5 ?_;refine rd 6 (fun K hK=> ?_);go_simp
   refine HXd.o.mono ?_;rintro e w4 ⟨E,rfl,hP4⟩;have HP4:=hid hP4;have hs4:=(show w4.cell? ⟨p,2,none⟩=some (.pointer (some ⟨x,0,none⟩))∧w4.cell? ⟨b3,0,none⟩=some (.int .i64 ((kk:Int)+1)) from⟨(pair_cells (hP4.get (k:=p) (o:=oPair t x r D) (by simp))).2.2.1,cell_of_row w4 b3 0 _ _ _ (hP4.get (k:=b3) (List.mem_cons_self ..))⟩);clear hP4;try dsimp only
   refine hK.o _ _ hs4 (fun hHeld=> ?_);clear hK K;try simp only[put]
   refine dn ?_
   (try simp only[Exit.then])
   clear hs0 hs4;have p1:=(pair_cells (HP4.o.get (k:=p) (o:=oPair t x r D) (by simp))).2.1;have HDr:=hid (HP4.o).tdrop;go_wp2_with(go_at_call 10;refine HDr.o.mono ?_;rintro e w8 ⟨rfl,hP8⟩)
   go_roundw
   case rel=>exact⟨k+1,by go_num,by omega,by omega,hid (hP8.less fun q hq=>by rw[List.mem_singleton.1 hq];simp)⟩
   case measure=>simp[intOf];omega
  |false=>
   by_cases hl:layerE kind
   ·have HAc:=hid (askT_any kk Hk8.o kind fl fd off m spare s s2 data false hl Hsl.o.1 Hsl.o.2 HP3.o (p:=p) (D:=D) (by simp) HM.o);unfold akV akC at HAc;try dsimp only at HAc
    clear hl;go_upto_region 23 with(first|(refine wpList_load_row rfl 30 _ rfl b3 rfl 30 #[.int .i64 ((kk:Int)+1),.int .i64 kind,.string s,.string s2,.int .i64 fl,.int .i64 fd,.int .i64 off,.int .i64 m,.string data,.int .i64 spare,.bool false] (0,0) _ HR3.o underlying30 rfl infoAsk ?_)|(go_at_call 9;refine HAc.o.mono ?_;rintro e w4 ⟨q',A',c',i',Lq,rfl,-,-,-,-,hP4⟩;have HP4:=hid hP4;clear hP4))
    clear c0 c10;have p1:=(pair_cells (HP4.o.get (k:=p) (o:=oPair t x r D) (by simp))).2.1;have HDr:=hid (HP4.o).tdrop;go_wp2_with(go_at_call 10;refine HDr.o.mono ?_;rintro e w8 ⟨rfl,hP8⟩)
    go_roundw
    case rel=>exact⟨k+1,by go_num,by omega,by omega,hid (hP8.less fun q hq=>by rw[List.mem_singleton.1 hq];simp)⟩
    case measure=>simp[intOf];omega
   ·have HAn:=hid (asked_none (p:=p) ((kk:Int)+1) kind fl fd off m spare s s2 data false w3 (fun e=>hl (by unfold layerE;omega)) (fun e=>hl (by unfold layerE;omega)) (fun e=>hl (by unfold layerE;omega)) (fun e=>hl (by unfold layerE;omega)) (fun e=>hl (by unfold layerE;omega)) (fun e=>hl (by unfold layerE;omega)) (fun e=>hl (by unfold layerE;omega)) (fun e=>hl (by unfold layerE;omega)) (fun e=>hl (by unfold layerE;omega)));unfold akV akC repV at HAn;try dsimp only at HAn
    clear hl;go_upto_region 23 with(first|(refine wpList_load_row rfl 30 _ rfl b3 rfl 30 #[.int .i64 ((kk:Int)+1),.int .i64 kind,.string s,.string s2,.int .i64 fl,.int .i64 fd,.int .i64 off,.int .i64 m,.string data,.int .i64 spare,.bool false] (0,0) _ HR3.o underlying30 rfl infoAsk ?_)|(go_at_call 9;refine HAn.o.mono ?_;rintro e w4 ⟨rfl,hb4⟩;have HP4:=hid (HP3.o.below hb4);clear hb4))
    clear c0 c10;have p1:=(pair_cells (HP4.o.get (k:=p) (o:=oPair t x r D) (by simp))).2.1;have HDr:=hid (HP4.o).tdrop;go_wp2_with(go_at_call 10;refine HDr.o.mono ?_;rintro e w8 ⟨rfl,hP8⟩)
    go_roundw
    case rel=>exact⟨k+1,by go_num,by omega,by omega,hid (hP8.less fun q hq=>by rw[List.mem_singleton.1 hq];simp)⟩
    case measure=>simp[intOf];omega
end Go.Proofs.YtckoobkjpndgnaaGreatDoor
