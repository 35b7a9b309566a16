/- Walk: commonslaw17: VolumeTorn. -/
import Derived.Test.YtccpdkjonepoiaaGreatDoorT37
import Derived.Deep.CutBlock
set_option linter.unusedVariables false
set_option linter.unusedSimpArgs false
set_option linter.unusedSectionVars false
set_option maxHeartbeats 8000000
set_option maxRecDepth 100000
namespace Go.Proofs.YtccpdkjonepoiaaGreatDoor
open Go.RowKit
open Lib(hid)
open Go.Proofs.Tryz
open Go.Shelf
attribute [local go_sem] Oper.semAt_some
theorem U8{S:List UInt8}{n:Nat}(h:S.length=n):Gd.part S 0 n=S:=by
 unfold Gd.part;rw[List.drop_zero,List.take_of_length_le (by omega)]
theorem U4{Z S:List UInt8}(h:Z.length=S.length):Gd.splice Z 0 S=S:=by
 apply List.ext_getElem?
 intro i;rw[Gd.splice_get (by omega)];by_cases hi:i<S.length
 ·rw[if_pos ⟨Nat.zero_le _,by omega⟩,Nat.sub_zero]
 ·rw[if_neg (by omega),List.getElem?_eq_none (by omega),List.getElem?_eq_none (by omega)]
theorem law_vtorn(A:Option Addr)(L:List Dd)(c:Nat)(d:Dd)(m:Int)(w:World)(hl:L.length≤9223372036854775807)(hA:Dds w A L)(hD:∀d∈L,Y4 w d)(hd:Y4 w d)(hm:I64 m)(hM:Mx w):
 Calls prog 4 #[.slice A L.length c,.agg (ddC d),.int .i64 m] w fun e w'=>e= .returned (.bool true)∧Below w.heap.size w w':=by
 obtain⟨w0,hw0⟩:=nm (w.alloc (.cells (ddC d) 60));obtain⟨bd,hbd⟩:=nm w.heap.size;have hb0:Below w.heap.size w w0:=by rw[hw0];exact(Below.refl _ _).alloc (Nat.le_refl _) _
 have hg0:w0.heap[bd]? =some (.cells (ddC d) 60 (0,0)):=by rw[hw0,hbd];exact heap_alloc_new _ _
 have HBg:=hid (vq w0 (hM.under hb0));have HA:=hid (hA.below hb0);have HD:Hid (∀d∈L,Y4 w0 d):=hid fun d hd=>(hD d hd).below hb0;have HDd:=hid hd;have HB0:=hid hb0;have HG0:=hid hg0;obtain⟨n,hn⟩:=nm L.length;rw[←hn]at hl⊢;have Hn:=hid hn;have HM:=hid hm;have HW0:=hid hw0.symm;have Hbd:=hid hbd.symm;unfold ddC at HW0;clear hA hD hn hM hd hm hw0 hbd hb0 hg0;go_enter func4,ntmps4;unfold ddC;go_upto_region 1 with fail
 rw[HW0.o,Hbd.o];go_wp2_with fail
 refine HBg.o.mono ?_;rintro e w1 ⟨mn,p,rfl,hbg⟩;obtain⟨R,o,x,t,f,hv⟩:=JB hbg;have HV:=hid hv;clear hbg hv HBg;go_upto_block 0 with fail
 go_cut[8] from 27 to 42 (fun s8 wx=>∃(V:Gd.Vl) (o x t f:Nat),Hid (V.Ok∧V.n≤4804)∧Hid (Bv o x t f R V V 20665100000 w0 wx [(p,zo o R.r)]))
 case first=>
  go_wp2_with fail
  go_loopw[8] (fun z wr=>∃(k:Nat) (V:Gd.Vl) (o x t f:Nat),z= .int .i64 k∧k≤n∧k≤10∧Hid (V.Ok∧V.n≤4+480*k)∧Hid (Bv o x t f R V V (665100000+2000000000*k) w0 wr [(p,zo o R.r)])) (fun z _=>10-(intOf z).toNat)
  case atStart=>exact⟨0,Zo,o,x,t,f,rfl,by omega,by omega,hid ⟨Qr,Nat.le_refl _⟩,HV⟩
  case round=>
   obtain⟨k,V,o,x,t,f,rfl,hkn,hk,HO,HV⟩:=hrel;by_cases hlt:k<n∧k<10
   ·obtain⟨hk1,hk2⟩:=hlt;obtain⟨d,hd⟩:∃d,L[k]? =some d:=⟨_,List.getElem?_eq_getElem (by have:=Hn.o;omega)⟩;obtain⟨b,q,rfl,hrow⟩:∃b q,A=some ⟨b,q,none⟩∧wr.rangeAt b (q+k*14) (ddC d).toList:=by
     rcases HA.o with h|⟨b,q,h1,h2,h3⟩
     ·rw[h]at hd;simp at hd
     ·exact⟨b,q,h1,fun i v hi=>(HV.o.belowW.cell (p:=⟨b,q+k*14+i,none⟩) h2).trans (h3 k d hd i v hi)⟩
    have HDo:=hid (Ju HV.o HO.o.1 d (HD.o d (List.mem_of_getElem? hd)) (by omega) (by have:=HO.o.2;omega));have HO2:Hid ((doD V d).Ok∧(doD V d).n≤4+480*(k+1)):=hid ⟨YN HO.o.1 d,by have:=(VR V d).2;have:=HO.o.2;omega⟩;have i1:(k:Int)<n:=by omega
    have i2:(k:Int)<10:=by omega
    have i0:(0:Int)≤k:=by omega
    clear hd;go_wp2_with(refine wpList_load_mid rfl 60 _ rfl b (q+k*14) rfl (ddC d).toList _ hrow underlying60 rfl sizeDd ?_)
    refine HDo.o.mono ?_;rintro e w2 ⟨rfl,o2,x2,t2,f2,h2⟩;have H2:=hid h2;clear h2 hrow HDo;go_wp2_with fail
    go_roundw
    case rel=>exact⟨k+1,doD V d,o2,x2,t2,f2,by go_num,by omega,by omega,HO2,hid (by rw[show 665100000+2000000000*(k+1)=(665100000+2000000000*k)+2000000000 by omega];exact H2.o)⟩
    case measure=>simp[intOf];omega
   ·by_cases h1:k<n
    ·have h2:k=10:=by omega
     have i1:(k:Int)<n:=by omega
     have i2:¬(k:Int)<10:=by omega
     clear hlt h2;go_wp2_with fail
     go_meet
     exact⟨V,o,x,t,f,hid ⟨HO.o.1,by have:=HO.o.2;omega⟩,hid (HV.o.more (by omega))⟩
    ·have i1:¬(k:Int)<n:=by omega
     clear hlt;go_wp2_with fail
     go_meet
     exact⟨V,o,x,t,f,hid ⟨HO.o.1,by have:=HO.o.2;omega⟩,hid (HV.o.more (by omega))⟩
 case rest=>
 obtain⟨V,o,x,t,f,HO,HV1⟩:=hcut;obtain⟨w2,rfl⟩:=nm wc;have hg2:=(HV1.o.belowW.block bd (za HG0.o)).trans HG0.o;have HHi:Hid (∀q,R.has q→q≠bd):=hid fun q hq e=>by
  have h1:=HV1.o.high hq;have h2:=za HG0.o;omega
 have HVr:=hid (HV1.o.rebase HB0.o (bd:=bd) (by rw[Hbd.o];exact Nat.le_refl _) (za HG0.o) hg2);have hrow:=jF hg2;have HCu:=hid (qk d w2 HDd.o.pc HDd.o.pl HDd.o.dl);have HG2:=hid hg2;clear hg2 HV HV1 hl HA HD HB0 HG0 HW0;go_wp2_with(refine wpList_load_mid rfl 60 _ rfl bd 0 rfl (ddC d).toList _ hrow underlying60 rfl sizeDd ?_)
 refine HCu.o.mono ?_;rintro e w3 ⟨rfl,hb3⟩;have HG3:=hid ((hb3.block bd (za HG2.o)).trans HG2.o);have HV3:=hid (HVr.o.below hb3);clear hrow hb3 HCu HVr HG2;go_upto_region 9 with(refine wpList_store_mid rfl 60 _ _ rfl bd 0 (ddC d.cut) rfl rfl (zf HG3.o rfl) sizeDd (qs _) ?_;obtain⟨hbw,hbg⟩:=zh HG3.o (vs:=(ddC d.cut).toList) (B:=w.heap.size) rfl (by have:=Hbd.o;omega);have hon:=zK (F:=fun q=>q=bd) (jf bd (ddC d.cut).toList 0 w3) (fun k e=>(Option.some.inj e).symm);generalize (World.setCells _ _ _ _)=w4 at hbw hbg hon⊢)
 obtain⟨kd,cl,r,ee,hh,rp,ke,ki,wr,pA,pn0,pc⟩:=d;obtain⟨rc,ri,rt,ro,dd⟩:=r;unfold Dd.cut ddC at hbg;dsimp only at hbg;obtain⟨s8,hs8⟩:∃s:ByteArray,s=⟨(dd.take 80).toArray⟩:=⟨_,rfl⟩;obtain⟨pn,hpn⟩:=nm (min pn0 300);obtain⟨ob,hob⟩:∃ob:Obj,ob= .cells #[.int .i64 kd,.int .i64 cl,.int .i64 rc,.int .i64 ri,.bool rt,.int .i64 ro,.string s8,.int .i64 ee,.int .i64 hh,.int .i64 rp,.int .i64 ke,.int .i64 ki,.int .i64 wr,.slice pA pn pc] 60 (0,0):=⟨_,rfl⟩;have hbg':w4.heap[bd]? =some ob:=by rw[hob,hs8,hpn];exact hbg
 have hpk:jb w pA pn:=by rw[hpn];exact HDd.o.pk
 have hpn3:pn≤300:=by omega
 have HPk:=hid (And.intro hpk hpn3);have hpne:p≠bd:=fun e=>by
  have h1:=HV3.o.get (k:=p) (List.mem_cons_of_mem _ (List.mem_singleton.2 rfl));rw[e,HG3.o]at h1;exact absurd (Obj.cells.inj (Option.some.inj h1)).2.1 (by decide)
 have HV4:Hid (Bv o x t f R V V 20665100000 w w4 [(bd,ob),(p,zo o R.r)]):=hid (by
  refine HV3.o.own hon (fun q _ hq=> ?_) (fun q hR hq=> ?_) fun q hq=> ?_
  ·subst hq;exact⟨_,List.mem_cons_self ..,fun e=>absurd (Obj.cells.inj e).2.1 (by decide),fun e=>absurd (Obj.cells.inj e).2.1 (by decide)⟩
  ·exact HHi.o q hR hq
  ·rcases List.mem_cons.1 hq with rfl|hq
   ·exact Or.inr ⟨Or.inr ⟨_,List.mem_cons_self ..⟩,hbg'⟩
   ·rw[List.mem_singleton.1 hq];exact Or.inl ⟨List.mem_cons_of_mem _ (List.mem_singleton.2 rfl),hpne⟩)
 have HCl:Hid (∀W:World,W.heap[p]? =some (zo o R.r)→W.heap[bd]? =some ob→W.cell? ⟨p,1,none⟩=some (.pointer (some ⟨o,0,none⟩))∧W.cell? ⟨bd,1,none⟩=some (.int .i64 cl)∧(W.cell? ⟨bd,7,none⟩=some (.int .i64 ee)∧W.cell? ⟨bd,8,none⟩=some (.int .i64 hh)∧W.cell? ⟨bd,9,none⟩=some (.int .i64 rp)∧W.cell? ⟨bd,10,none⟩=some (.int .i64 ke)∧W.cell? ⟨bd,11,none⟩=some (.int .i64 ki)∧W.cell? ⟨bd,12,none⟩=some (.int .i64 wr))):=hid fun W h1 h2=>by
  rw[hob]at h2;exact⟨(zl h1).2.1,cell_of_row W bd 1 _ _ _ h2,cell_of_row W bd 7 _ _ _ h2,cell_of_row W bd 8 _ _ _ h2,cell_of_row W bd 9 _ _ _ h2,cell_of_row W bd 10 _ _ _ h2,cell_of_row W bd 11 _ _ _ h2,cell_of_row W bd 12 _ _ _ h2⟩
 have HPc:Hid (∀W:World,W.heap[bd]? =some ob→W.cell? ⟨bd,13,none⟩=some (.slice pA pn pc)):=hid fun W h2=>by
  rw[hob]at h2;exact cell_of_row W bd 13 _ _ _ h2
 clear hbw hbg hon hob hs8 hpn hpk hpn3 hpne hbg' HV3 HG3 HDd;have HVd:=hid (HV4.o.below (Below.refl _ w4).drew);have hs0:=HCl.o w4.drew (HVd.o.get (k:=p) (List.mem_cons_of_mem _ (List.mem_singleton.2 rfl))) (HVd.o.get (k:=bd) (List.mem_cons_self ..));by_cases h1:cl<1
 ·skip
  refine wp_region_held_drew (S:=(fun W=>W.cell? ⟨p,1,none⟩=some (.pointer (some ⟨o,0,none⟩))∧W.cell? ⟨bd,1,none⟩=some (.int .i64 cl)∧(W.cell? ⟨bd,7,none⟩=some (.int .i64 ee)∧W.cell? ⟨bd,8,none⟩=some (.int .i64 hh)∧W.cell? ⟨bd,9,none⟩=some (.int .i64 rp)∧W.cell? ⟨bd,10,none⟩=some (.int .i64 ke)∧W.cell? ⟨bd,11,none⟩=some (.int .i64 ki)∧W.cell? ⟨bd,12,none⟩=some (.int .i64 wr)))) (by kernel_rfl) ?_ (fun hHeld=> ?_)
  ·exact hs0
  refine tk 0 ?_;refine tk 1 ?_;refine tk 2 ?_;refine tk 3 ?_;refine sk 4 ?_;refine sk 5 ?_;refine sk 6 ?_;refine tk 7 ?_;refine tk 8 ?_;refine sk 9 ?_;refine sk 10 ?_;refine sk 11 ?_;refine sk 12 ?_;refine sk 13 ?_;refine sk 14 ?_;refine sk 15 ?_;refine sk 16 ?_;refine sk 17 ?_;refine sk 18 ?_;refine tk 19 ?_;refine dn ?_
  (try simp only[Exit.then])
  clear hs0;have HLv:=hid (xF w4.drew);go_wp2_with fail
  refine HLv.o.mono ?_;rintro e w5 ⟨rfl,hb5⟩;have HB5:=hid (HVd.o.below hb5).belowW;clear hb5 HLv;go_wp2_with fail
  go_ret
  exact⟨rfl,HB5.o⟩
 by_cases h8:8<cl
 ·skip
  refine wp_region_held_drew (S:=(fun W=>W.cell? ⟨p,1,none⟩=some (.pointer (some ⟨o,0,none⟩))∧W.cell? ⟨bd,1,none⟩=some (.int .i64 cl)∧(W.cell? ⟨bd,7,none⟩=some (.int .i64 ee)∧W.cell? ⟨bd,8,none⟩=some (.int .i64 hh)∧W.cell? ⟨bd,9,none⟩=some (.int .i64 rp)∧W.cell? ⟨bd,10,none⟩=some (.int .i64 ke)∧W.cell? ⟨bd,11,none⟩=some (.int .i64 ki)∧W.cell? ⟨bd,12,none⟩=some (.int .i64 wr)))) (by kernel_rfl) ?_ (fun hHeld=> ?_)
  ·exact hs0
  refine tk 0 ?_;refine tk 1 ?_;refine tk 2 ?_;refine tk 3 ?_;refine tk 4 ?_;refine tk 5 ?_;refine tk 6 ?_;refine tk 7 ?_;refine tk 8 ?_;refine sk 9 ?_;refine sk 10 ?_;refine sk 11 ?_;refine sk 12 ?_;refine sk 13 ?_;refine sk 14 ?_;refine sk 15 ?_;refine sk 16 ?_;refine sk 17 ?_;refine sk 18 ?_;refine tk 19 ?_;refine dn ?_
  (try simp only[Exit.then])
  clear hs0;have HLv:=hid (xF w4.drew);go_wp2_with fail
  refine HLv.o.mono ?_;rintro e w5 ⟨rfl,hb5⟩;have HB5:=hid (HVd.o.below hb5).belowW;clear hb5 HLv;go_wp2_with fail
  go_ret
  exact⟨rfl,HB5.o⟩
 by_cases hmy:jE ee hh rp ke ki wr=true
 rotate_left
 ·have hst:=yt (o:=o) (t:=t) (x:=x) (f:=f) cl ee hh rp ke ki wr w4.drew (by simpa using hmy);unfold jr at hst;have HS1:=hid hst;clear hst hmy;refine wp_region_held_drew (S:=(fun W=>W.cell? ⟨p,1,none⟩=some (.pointer (some ⟨o,0,none⟩))∧W.cell? ⟨bd,1,none⟩=some (.int .i64 cl)∧(W.cell? ⟨bd,7,none⟩=some (.int .i64 ee)∧W.cell? ⟨bd,8,none⟩=some (.int .i64 hh)∧W.cell? ⟨bd,9,none⟩=some (.int .i64 rp)∧W.cell? ⟨bd,10,none⟩=some (.int .i64 ke)∧W.cell? ⟨bd,11,none⟩=some (.int .i64 ki)∧W.cell? ⟨bd,12,none⟩=some (.int .i64 wr)))) (by kernel_rfl) ?_ (fun hHeld=> ?_)
  ·exact hs0
  refine tk 0 ?_;refine tk 1 ?_;refine tk 2 ?_;refine tk 3 ?_;refine tk 4 ?_;refine tk 5 ?_;refine tk 6 ?_;refine tk 7 ?_;refine tk 8 ?_;refine tk 9 ?_;refine tk 10 ?_;refine tk 11 ?_;refine tk 12 ?_;refine tk 13 ?_;refine tk 14 ?_;refine tk 15 ?_;refine tk 16 ?_;refine rd 17 (fun K hK=> ?_);go_simp
  refine HS1.o.mono ?_;rintro e w5 ⟨rfl,hb5⟩;have H5:=hid (HVd.o.below hb5);have hs1:=HCl.o w5 (H5.o.get (List.mem_cons_of_mem _ (List.mem_singleton.2 rfl))) (H5.o.get (List.mem_cons_self ..));clear hb5;try dsimp only
  refine hK.o _ _ hs1 (fun hHeld=> ?_);clear hK K;try simp only[put]
  refine tk 18 ?_;refine tk 19 ?_;refine dn ?_
  (try simp only[Exit.then])
  clear hs0 hs1 HS1;have HLv:=hid (xF w5);go_wp2_with fail
  refine HLv.o.mono ?_;rintro e w6 ⟨rfl,hb6⟩;have HB6:=hid (H5.o.below hb6).belowW;clear hb6 HLv;go_wp2_with fail
  go_ret
  exact⟨rfl,HB6.o⟩
 obtain⟨cN,rfl⟩:∃cN:Nat,cl=cN:=⟨cl.toNat,by omega⟩;have hc1:1≤cN:=by omega
 have hc8:cN≤8:=by omega
 obtain⟨hy,hsl⟩:=Dd.may_sl (d:=⟨kd,cN,⟨rc,ri,rt,ro,dd⟩,ee,hh,rp,ke,ki,wr,pA,pn0,pc⟩) hmy;obtain⟨y,hye⟩:=nm ((⟨kd,cN,⟨rc,ri,rt,ro,dd⟩,ee,hh,rp,ke,ki,wr,pA,pn0,pc⟩:Dd).sl);rw[←hye]at hy hsl;have hsv:zO y= .agg #[.int .i64 ee,.int .i64 hh,.int .i64 rp,.int .i64 ke,.int .i64 ki,.int .i64 wr]:=by
  unfold zO;rw[←hsl];rfl
 have hst:=HVd.o.torn cN hc1 hc8 y hy (by have:=HO.o.2;omega);rw[hsv]at hst;have HS1:=hid hst;have HVn:=hid HO.o.2;obtain⟨N,hN⟩:=nm V.n;rw[←hN]at HS1 HVn;clear hst hmy hy hsl hye hsv hc1 hc8 hN HO HV4;refine wp_region_held_drew (S:=(fun W=>W.cell? ⟨p,1,none⟩=some (.pointer (some ⟨o,0,none⟩))∧W.cell? ⟨bd,1,none⟩=some (.int .i64 (cN:Nat))∧(W.cell? ⟨bd,7,none⟩=some (.int .i64 ee)∧W.cell? ⟨bd,8,none⟩=some (.int .i64 hh)∧W.cell? ⟨bd,9,none⟩=some (.int .i64 rp)∧W.cell? ⟨bd,10,none⟩=some (.int .i64 ke)∧W.cell? ⟨bd,11,none⟩=some (.int .i64 ki)∧W.cell? ⟨bd,12,none⟩=some (.int .i64 wr)))) (by kernel_rfl) ?_ (fun hHeld=> ?_)
 ·exact hs0
 refine tk 0 ?_;refine tk 1 ?_;refine tk 2 ?_;refine tk 3 ?_;refine tk 4 ?_;refine tk 5 ?_;refine tk 6 ?_;refine tk 7 ?_;refine tk 8 ?_;refine tk 9 ?_;refine tk 10 ?_;refine tk 11 ?_;refine tk 12 ?_;refine tk 13 ?_;refine tk 14 ?_;refine tk 15 ?_;refine tk 16 ?_;refine rd 17 (fun K hK=> ?_);go_simp
 refine HS1.o.mono ?_;rintro e w5 ⟨rfl,S,hT,h5⟩;have HT:=hid hT;have H5:=hid h5;have hs1:=HCl.o w5 (h5.get (List.mem_cons_of_mem _ (List.mem_singleton.2 rfl))) (h5.get (List.mem_cons_self ..));clear hT h5;try dsimp only
 refine hK.o _ _ hs1 (fun hHeld=> ?_);clear hK K;try simp only[put]
 refine tk 18 ?_;refine tk 19 ?_;refine dn ?_
 (try simp only[Exit.then])
 clear hs0 hs1 HS1 h1 h8;have hp5:=zl (H5.o.get (k:=p) (List.mem_cons_of_mem _ (List.mem_singleton.2 rfl)));have HLd:=hid (H5.o.mst.loads HT.o.len);obtain⟨p0,-,-⟩:=hp5;go_wp2_with fail
 refine HLd.o.mono ?_;rintro e w6 ⟨v1,rfl,ho1,hb1⟩;obtain⟨g1,cap1,ob1,hv1,hge1,hg1,hrw1⟩:=ho1.rowc (fun e=>by have:=HT.o.len;rw[e]at this;cases this);rw[HT.o.len]at hv1;subst hv1;have H6:=hid (H5.o.new hb1 hge1 hg1);have HR1:=hid hrw1;have HCm:=hid (H6.o.tcommit HT.o (by omega) (by have:=HVn.o;omega));have hp6:=zl (H6.o.get (k:=p) (List.mem_cons_of_mem _ (List.mem_cons_of_mem _ (List.mem_singleton.2 rfl))));clear ho1 hb1 hge1 hg1 hrw1 p0 HLd;obtain⟨-,p1,-⟩:=hp6;go_wp2_with fail
 refine HCm.o.mono ?_;rintro e w7 ⟨rfl,h7⟩;have H7:=hid h7;have HLd:=hid (h7.mst.loads HT.o.len2);have hp7:=zl (h7.get (k:=p) (List.mem_cons_of_mem _ (List.mem_cons_of_mem _ (List.mem_singleton.2 rfl))));clear h7 p1 HCm;obtain⟨p0,-,-⟩:=hp7;go_wp2_with fail
 refine HLd.o.mono ?_;rintro e w8 ⟨v2,rfl,ho2,hb2⟩;obtain⟨g2,cap2,ob2,hv2,hge2,hg2,hrw2⟩:=ho2.rowc (fun e=>by have:=HT.o.len2;rw[e]at this;cases this);rw[HT.o.len2]at hv2;subst hv2;have h8:=H7.o.below hb2;have HR1b:Hid (U1 w8 g1 cap1 S):=hid (HR1.o w8 (h8.get (List.mem_cons_self ..)));have HR2:Hid (U1 w8 g2 cap2 (Gd.doneS S (Gd.tornP cN N y))):=hid (hrw2 w8 hg2);have HOb:Hid (w8.heap[bd]? =some ob):=hid (h8.get (List.mem_cons_of_mem _ (List.mem_cons_self ..)));have HB8:Hid (Below w.heap.size w w8):=hid h8.belowW;have HNw:Hid (Calls prog 9 #[.int .i64 23168] w8 (Zy w8 2896 23168)):=hid (Z3 2896 (by omega) (by omega) (by omega) w8);clear ho2 hb2 hge2 hg2 hrw2 h8 p0 HLd H5 H6 H7 HR1 HVd HCl;go_wp2_with fail
 refine HNw.o.mono ?_;rintro e w9 ⟨q,sb,lb,ab,rfl,hM9,hb9,hlow9,hge9⟩;obtain⟨mq,hmq⟩:∃mq:zc,q=mq.no:=⟨⟨q⟩,rfl⟩;subst hmq;have H9:Hid (Mst (List.replicate 23168 0) 0 w8 w9 []):=hid ⟨sb,lb,ab,2896,hM9,hge9,hb9,fun p hp=>by cases hp⟩;have HB9:=hid hb9;have HDe:=hid (U5 g2 2696 (cap2-2696) (Gd.part (Gd.doneS S (Gd.tornP cN N y)) 2696 4088) w9 (Nat.lt_of_lt_of_le HR2.o.lt hb9.size) (by have:=HR2.o.le;rw[HT.o.len2]at this;omega) (by have:=HR2.o.cap;omega) (fun j x hx=>by
  have hj:j<4088:=by
   have:=(List.getElem?_eq_some_iff.1 hx).1
   rw[Gd.part_length (by rw[HT.o.len2];omega)]at this;exact this
  rw[Gd.part_get hj]at hx;have:=(HR2.o.keep hb9).cell (2696+j) x hx
  rw[show 0+(2696+j)=2696+j by omega]at this;exact this) HT.o.rec2)
 have hc67:(6784:Int)≤cap2:=by have:=HR2.o.le;rw[HT.o.len2]at this;omega
 have hcn:¬cap2=2696:=by omega
 clear hM9 hb9 hlow9 hge9 HNw;go_wp2_with fail
 refine HDe.o.mono ?_;rintro e wA ⟨u,rfl,hbA⟩;have HA:=hid (H9.o.below hbA);have HBA:=HB9.t hbA;clear hbA HDe H9 HB9;go_upto_if 111 with fail
 obtain⟨bq,hbq⟩:=nm (decide (m<0));rw[←hbq];have HBq:=hid hbq;clear hbq;go_cut[2] from 112 to 114 (fun z wx=>(∃q:Nat,z= .int .i64 q)∧wx=wA)
 case first=>
  have hm2:=HM.o.lo;obtain⟨hm3,hm4⟩:=hm2
  cases bq with
  |true=>
   have h1:m<0:=of_decide_eq_true HBq.o.symm;go_wp2_with fail
   go_meet
   exact⟨⟨(-(m+1)).toNat,by congr 1;omega⟩,rfl⟩
  |false=>
   have h1:¬m<0:=of_decide_eq_false HBq.o.symm;go_wp2_with fail
   go_meet
   exact⟨⟨m.toNat,by congr 1;omega⟩,rfl⟩
 case rest=>
 obtain⟨⟨st,rfl⟩,hwc⟩:=hcut;subst wc;clear HBq;go_upto_region 24 with fail
 obtain⟨kk,hkk⟩:=nm (st % 4);rw[show(st:Int) % 4=(kk:Nat) by omega];have hk4:kk<4:=by omega
 have HK4:=hid hk4;obtain⟨Rr,hRr⟩:=nm (Gd.recB (Gd.tornP cN N y));have HRr:=hid hRr;have HRl:Hid (Rr.length=152):=hid (by rw[hRr];exact Gd.tornR_length);have HSt:Hid (Calls prog 25 #[.pointer (some ⟨zc.no,0,none⟩),.int .i64 0,.slice (some ⟨g1,0,none⟩) 23168 cap1] wA fun e b=>e= .returned (.int .i64 0)∧UX (List.replicate 23168 0) S (jL 0 23168) 0 w8 b):=hid (by
  have h:=HA.o.storeD (Below.refl _ _) 0 (.slice (some ⟨g1,0,none⟩) 23168 cap1) S (by
   have:=(HR1b.o.keep HBA.o).part 0 23168 cap1 (by rw[HT.o.len];omega)
   rw[U8 HT.o.len]at this;exact this) (fun q hq=>by cases hq;exact Or.inl HR1b.o.lt) (by rw[List.length_replicate,HT.o.len];omega) (by rw[HT.o.len];omega)
  rw[U4 (by rw[List.length_replicate,HT.o.len]),HT.o.len]at h;exact h)
 clear hkk hRr HA;go_wp2_with fail
 refine HSt.o.mono ?_;rintro e wB ⟨rfl,hB⟩;have HFl:Hid (Calls prog 26 #[.pointer (some ⟨zc.no,0,none⟩),.int .i64 0,.int .i64 23168] wB fun e b=>e= .returned (.int .i64 0)∧UX (List.replicate 23168 0) S NoX 20000 w8 b):=hid (hB.flush (at_:=0) (k:=23168) (by rw[HT.o.len];omega) (by omega) (by omega));clear hB HSt;go_wp2_with fail
 refine HFl.o.mono ?_;rintro e wC ⟨rfl,hC⟩;have HFe:=hid hC.fence;clear hC HFl;go_wp2_with fail
 refine HFe.o.mono ?_;rintro e wD ⟨rfl,hD⟩;have HBD:=hid hD.belowW;have HSt:Hid (Calls prog 25 #[.pointer (some ⟨zc.no,0,none⟩),.int .i64 2696,.slice (some ⟨g2,2696,none⟩) 152 (cap2-2696)] wD fun e b=>e= .returned (.int .i64 0)∧UX S (Gd.splice S 2696 Rr) (jL 2696 Rr.length) 20000 w8 b):=hid (hD.storeD (Below.refl _ _) 2696 (.slice (some ⟨g2,2696,none⟩) 152 (cap2-2696)) Rr (by
  have:=(HR2.o.keep hD.belowW).part 2696 152 (cap2-2696) (by rw[HT.o.len2];omega)
  rw[HT.o.rec_,←HRr.o]at this;exact this) (fun q hq=>by cases hq;exact Or.inl HR2.o.lt) (by rw[HRl.o,HT.o.len];omega) (by rw[HRl.o];omega))
 clear hD HFe;go_wp2_with fail
 refine HSt.o.mono ?_;rintro e wE ⟨rfl,hE⟩;have HE:=hid hE;clear hE HSt;have HT0:Hid (Tn S Rr (Gd.le 152 8) 0 20000 w8 wE):=hid (Or.inl ⟨rfl,HE.o⟩);have HSl:Hid ((Gd.splice S 2696 Rr).length=23168):=hid ((Gd.splice_length (by rw[HRl.o,HT.o.len];omega)).trans HT.o.len);have HEl:Hid ((Gd.le 152 8).length=8):=hid (Gd.le_length 8 152);obtain⟨E8,hE8⟩:=nm (Gd.le 152 8);rw[←hE8]at HT0 HEl;have HE8:=hid hE8;clear hE8;go_upto_if 131 with fail
 obtain⟨b1,hb1⟩:=nm (decide (0<kk));rw[←hb1];have Hb1:=hid hb1;clear hb1;go_cut[] from 132 to 136 (fun wx=>∃K,K≤40000∧Hid (Tn S Rr E8 (min kk 1) K w8 wx))
 case first=>
  cases b1 with
  |true=>
   have h1:0<kk:=of_decide_eq_true Hb1.o.symm;have HFl:Hid (Calls prog 26 #[.pointer (some ⟨zc.no,0,none⟩),.int .i64 2696,.int .i64 152] wE fun e b=>e= .returned (.int .i64 0)∧UX S (Gd.splice S 2696 Rr) NoX 40000 w8 b):=hid (by
    have h:=HE.o.flush (by rw[HSl.o,HRl.o];omega) (by rw[HRl.o];omega) (by omega);rw[HRl.o]at h;exact h)
   go_wp2_with fail
   refine HFl.o.mono ?_;rintro e wF ⟨rfl,hF⟩;have HFe:=hid hF.fence;clear hF HFl;go_wp2_with fail
   refine HFe.o.mono ?_;rintro e wG ⟨rfl,hG⟩;have HG:=hid hG;clear hG HFe;go_wp2_with fail
   go_meet
   exact⟨40000,by omega,hid (Or.inr (Or.inl ⟨by omega,HG.o⟩))⟩
  |false=>
   have h1:¬0<kk:=of_decide_eq_false Hb1.o.symm;go_wp2_with fail
   go_meet
   exact⟨20000,by omega,by rw[show min kk 1=0 by omega];exact HT0⟩
 case rest=>
 obtain⟨K1,hK1,HT1⟩:=hcut;obtain⟨wF,rfl⟩:=nm wc;clear HT0 HE Hb1;go_upto_if 138 with fail
 obtain⟨b1,hb1⟩:=nm (decide ((1:Int)<kk));rw[←hb1];have Hb1:=hid hb1;clear hb1;go_cut[] from 139 to 142 (fun wx=>∃K,K≤40000∧Hid (Tn S Rr E8 (min kk 2) K w8 wx))
 case first=>
  cases b1 with
  |true=>
   have h1:(1:Int)<kk:=of_decide_eq_true Hb1.o.symm;have hM1:Mst (Gd.splice S 2696 Rr) K1 w8 wF []:=by
    have h:=HT1.o;rw[show min kk 1=1 by omega]at h;rcases h with⟨h,-⟩|⟨-,h⟩|⟨h,-⟩|⟨h,-⟩
    ·omega
    ·exact h
    ·omega
    ·omega
   have HM1:=hid hM1;have HPt:Hid (Calls prog 28 #[.slice none 0 0,.int .i64 152,.int .i64 8] wF (qL wF E8)):=hid (by
    have h:=ZS (.slice none 0 0) [] ((152:Nat):Int) 8 (Or.inr (Or.inr (Or.inr rfl))) (zu (by omega)) wF ⟨none,0,rfl,Or.inl ⟨rfl,rfl,rfl⟩⟩ (by simp);rw[Gd.put_le,←HE8.o]at h;exact h)
   clear hM1;go_wp2_with fail
   refine HPt.o.mono ?_;rintro e wG ⟨v4,rfl,ho4,hb4⟩;have HSt:Hid (Calls prog 25 #[.pointer (some ⟨zc.no,0,none⟩),.int .i64 2688,v4] wG fun e b=>e= .returned (.int .i64 0)∧UX (Gd.splice S 2696 Rr) (Gd.splice (Gd.splice S 2696 Rr) 2688 E8) (jL 2688 E8.length) K1 w8 b):=hid (HM1.o.storeD hb4 2688 v4 E8 ho4.at_ (fun q hq=>Or.inr (zE ho4 q hq).1) (by rw[HEl.o,HSl.o];omega) (by rw[HEl.o];omega));clear ho4 hb4 HPt;go_wp2_with fail
   refine HSt.o.mono ?_;rintro e wH ⟨rfl,hH⟩;have HH:=hid hH;clear hH HSt;go_wp2_with fail
   go_meet
   exact⟨K1,hK1,hid (Or.inr (Or.inr (Or.inl ⟨by omega,HH.o⟩)))⟩
  |false=>
   have h1:¬(1:Int)<kk:=of_decide_eq_false Hb1.o.symm;go_wp2_with fail
   go_meet
   exact⟨K1,hK1,by rw[show min kk 2=min kk 1 by omega];exact HT1⟩
 case rest=>
 obtain⟨K2,hK2,HT2⟩:=hcut;obtain⟨wG,rfl⟩:=nm wc;clear HT1 Hb1 hK1;go_upto_if 144 with fail
 obtain⟨b1,hb1⟩:=nm (decide ((2:Int)<kk));rw[←hb1];have Hb1:=hid hb1;clear hb1;go_cut[] from 145 to 148 (fun wx=>∃K,K≤60000∧Hid (Tn S Rr E8 kk K w8 wx))
 case first=>
  cases b1 with
  |true=>
   have h1:(2:Int)<kk:=of_decide_eq_true Hb1.o.symm;have hM1:UX (Gd.splice S 2696 Rr) (Gd.splice (Gd.splice S 2696 Rr) 2688 E8) (jL 2688 E8.length) K2 w8 wG:=by
    have h:=HT2.o;rw[show min kk 2=2 by omega]at h;rcases h with⟨h,-⟩|⟨h,-⟩|⟨-,h⟩|⟨h,-⟩
    ·omega
    ·omega
    ·exact h
    ·omega
   have HFl:Hid (Calls prog 26 #[.pointer (some ⟨zc.no,0,none⟩),.int .i64 2688,.int .i64 8] wG fun e b=>e= .returned (.int .i64 0)∧UX (Gd.splice S 2696 Rr) (Gd.splice (Gd.splice S 2696 Rr) 2688 E8) NoX (K2+20000) w8 b):=hid (by
    have h:=hM1.flush (by rw[Gd.splice_length (by rw[HEl.o,HSl.o];omega),HSl.o,HEl.o];omega) (by rw[HEl.o];omega) (by omega);rw[HEl.o]at h;exact h)
   clear hM1;go_wp2_with fail
   refine HFl.o.mono ?_;rintro e wH ⟨rfl,hF⟩;have HFe:=hid hF.fence;clear hF HFl;go_wp2_with fail
   refine HFe.o.mono ?_;rintro e wI ⟨rfl,hG⟩;have HG:=hid hG;clear hG HFe;go_wp2_with fail
   go_meet
   exact⟨K2+20000,by omega,hid (Or.inr (Or.inr (Or.inr ⟨by omega,HG.o⟩)))⟩
  |false=>
   have h1:¬(2:Int)<kk:=of_decide_eq_false Hb1.o.symm;go_wp2_with fail
   go_meet
   exact⟨K2,by omega,by have h:=HT2;rw[show min kk 2=kk by omega]at h;exact h⟩
 case rest=>
 obtain⟨K3,hK3,HT3⟩:=hcut;obtain⟨wH,rfl⟩:=nm wc;clear HT2 Hb1 hK2;have hbH:=HT3.o.belowW;have hpd:=HPc.o wH ((hbH.block bd (za HOb.o)).trans HOb.o);have HBH:=hid hbH;have HCr:=hid (HT3.o.crash (pn:=pn) (pc:=pc) (pA:=pA) HT.o.len (by rw[HRl.o];omega) HEl.o (HPk.o.1.imp id fun⟨b,q,h1,h2,h3⟩=>⟨b,q,h1,Nat.lt_of_lt_of_le h2 (Nat.le_trans HB8.o.size hbH.size),fun j hj=>by
  obtain⟨x,hx⟩:=h3 j hj;exact⟨x,(hbH.cell (p:=⟨b,q+j,none⟩) (Nat.lt_of_lt_of_le h2 HB8.o.size)).trans ((HB8.o.cell (p:=⟨b,q+j,none⟩) h2).trans hx)⟩⟩) (by
  intro h0 b q e;rcases HPk.o.1 with h|⟨b',q',h1,h2,-⟩
  ·exact absurd h h0
  ·rw[e]at h1;have e2:b=b':=by injection h1 with h1;injection h1
   have:=HB8.o.size
   omega) (by have:=HPk.o.2;omega))
 clear hbH;go_wp2_with fail
 refine HCr.o.mono ?_;rintro e wI ⟨rfl,Y,hY,hI⟩;have HMo:=hid (U3 hI HT.o (s:=kk) (by rw[←HRr.o,←HE8.o];exact hY) (by omega));clear hY hI hpd HCr HT3;go_wp2_with fail
 refine HMo.o.mono ?_;rintro e wJ ⟨o2,S2,K4,rfl,hl2,hJ,hor⟩;have HOr:=hid hor;have HJ:=hid hJ;have HL2:=hid hl2;have HLd:Hid (Calls prog 18 #[.pointer (some ⟨zc.no,0,none⟩),.int .i64 0,.int .i64 2688] wJ (qS wJ (Gd.part S2 0 2688))):=hid (qa 0 2688 wJ hJ.memF (by omega) (by omega));have hc26:(2688:Int)≤cap1:=by
  have:=HR1b.o.le
  rw[HT.o.len]at this;omega
 have hc27:(2688:Int)≤cap2:=by omega
 clear hor hJ hl2 HMo;go_wp2_with fail
 refine HLd.o.mono ?_;rintro e wK ⟨v5,rfl,ho5,hb5⟩;have HBK:=hid (HJ.o.belowW.trans (hb5.mono HJ.o.size));have HO5:=hid ho5;have HSa:=hid (UZ v5 (.slice (some ⟨g1,0,none⟩) 2688 cap1) (Gd.part S2 0 2688) (Gd.part S 0 2688) wK ho5.at_ ((HR1b.o.keep HBK.o).part 0 2688 cap1 (by rw[HT.o.len];omega)) (by rw[Gd.part_length (by rw[HT.o.len];omega),Gd.part_length (by rw[HL2.o];omega)]) (by rw[Gd.part_length (by rw[HL2.o];omega)];omega));clear ho5 hb5 HLd;go_wp2_with fail
 refine HSa.o.mono ?_;rintro e wL ⟨q1,rfl,hq1,hbL⟩;have HQ1:=hid hq1;have HBL:=HBK.t hbL;have HSb:=hid (UZ v5 (.slice (some ⟨g2,0,none⟩) 2688 cap2) (Gd.part S2 0 2688) (Gd.part (Gd.doneS S (Gd.tornP cN N y)) 0 2688) wL (HO5.o.at_.keep hbL) ((HR2.o.keep HBL.o).part 0 2688 cap2 (by rw[HT.o.len2];omega)) (by rw[Gd.part_length (by rw[HT.o.len2];omega),Gd.part_length (by rw[HL2.o];omega)]) (by rw[Gd.part_length (by rw[HL2.o];omega)];omega));clear hq1 hbL HSa;go_wp2_with fail
 refine HSb.o.mono ?_;rintro e wM ⟨q2,rfl,hq2,hbM⟩;have HQ2:=hid hq2;have HBM:=HBL.t hbM;have HLv:=hid (xF wM);clear hq2 hbM HSb hc26 hc27 hc67 hcn;have HFin:Hid (∀b,Below wM.heap.size wM b→Below w.heap.size w b):=hid fun b hb=>HB8.o.trans ((HBM.o.trans (hb.mono HBM.o.size)).mono HB8.o.size);rcases HOr.o with⟨hk2,hX⟩|⟨hk2,hX⟩
 ·have h2:=HQ2.o hX;subst h2;have g1':(1:Int)<kk:=by omega
  clear hk2 hX;by_cases hk3:kk<3
  ·have g3:(kk:Int)<3:=by omega
   clear hk3
   cases q1 with
   |true=>
    go_wp2_with fail
    refine HLv.o.mono ?_;rintro e wN ⟨rfl,hbN⟩;have HBN:=hid (HFin.o wN hbN);clear hbN HLv;go_wp2_with fail
    go_ret
    exact⟨rfl,HBN.o⟩
   |false=>
    go_wp2_with fail
    refine HLv.o.mono ?_;rintro e wN ⟨rfl,hbN⟩;have HBN:=hid (HFin.o wN hbN);clear hbN HLv;go_wp2_with fail
    go_ret
    exact⟨rfl,HBN.o⟩
  ·have g3:¬(kk:Int)<3:=by omega
   clear hk3
   cases q1 with
   |true=>
    go_wp2_with fail
    refine HLv.o.mono ?_;rintro e wN ⟨rfl,hbN⟩;have HBN:=hid (HFin.o wN hbN);clear hbN HLv;go_wp2_with fail
    go_ret
    exact⟨rfl,HBN.o⟩
   |false=>
    go_wp2_with fail
    refine HLv.o.mono ?_;rintro e wN ⟨rfl,hbN⟩;have HBN:=hid (HFin.o wN hbN);clear hbN HLv;go_wp2_with fail
    go_ret
    exact⟨rfl,HBN.o⟩
 ·have h1:=HQ1.o hX;subst h1;have g3:(kk:Int)<3:=by omega
  clear hX;by_cases hk1:1<kk
  ·have g1':(1:Int)<kk:=by omega
   clear hk1 hk2;go_wp2_with fail
   refine HLv.o.mono ?_;rintro e wN ⟨rfl,hbN⟩;have HBN:=hid (HFin.o wN hbN);clear hbN HLv;go_wp2_with fail
   go_ret
   exact⟨rfl,HBN.o⟩
  ·have g1':¬(1:Int)<kk:=by omega
   clear hk1 hk2;go_wp2_with fail
   refine HLv.o.mono ?_;rintro e wN ⟨rfl,hbN⟩;have HBN:=hid (HFin.o wN hbN);clear hbN HLv;go_wp2_with fail
   go_ret
   exact⟨rfl,HBN.o⟩
end Go.Proofs.YtccpdkjonepoiaaGreatDoor
