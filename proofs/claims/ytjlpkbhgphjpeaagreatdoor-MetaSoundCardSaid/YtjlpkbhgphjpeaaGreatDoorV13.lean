/- Walks: metadata: change (a directory's table is told anew): printed by gen_metm.py. -/
import Derived.Test.YtjlpkbhgphjpeaaGreatDoorV12
set_option linter.unusedVariables false
set_option linter.unusedSimpArgs false
set_option linter.unusedSectionVars false
set_option maxHeartbeats 8000000
set_option maxRecDepth 100000
namespace Go.Proofs.YtjlpkbhgphjpeaaGreatDoor
open Go.RowKit
open Lib(hid)
open Go.Proofs.Tryz
section
open Go.Shelf
attribute [local go_sem] Oper.semAt_some
theorem jB.aheadM[zg]{x t c K:Nat}{S:List UInt8}{M:Gd.Vol}{F G:Nat→Prop}{a b d:World}(h:jB (zy x t S M c K) F a G b)(hb:Below b.heap.size b d):jB (zy x t S M c K) F a G d:=
 ⟨h.inv.below hb,h.old,h.only.trans (zx hb G) fun j hj e=>h.old j hj e⟩
theorem VO(a:Nat):(a:Int)/4=((a/4:Nat):Int):=by omega
theorem xX[zg]{x t c K d a:Nat}{S:List UInt8}{M:Gd.Vol}{F:Nat→Prop}(T:Gd.Tab)(more spare:Int)(w:World)(h:zy x t S M c K w F)(h1:1≤d)(h2:d≤32)(ha:a<16)(hT:Gd.TabOk T)(hu:Gd.usedT T (a/4)=true)(hB:(M.ino d).B[a/4]? =some 0)(hsp:max 0 spare<128-(Gd.countB M.map:Int))(hmay:Gd.mayI (((M.ino d).setB (a/4) (Gd.firstB M.map)).setS ((M.ino d).s+more))=true)(hsz:0≤(M.ino d).s+more∧(M.ino d).s+more≤16)(hc:c+10<64):
 Calls prog 149 #[.pointer (some ⟨x,0,none⟩),.int .i64 d,.int .i64 a,zW T,.int .i64 more,.int .i64 spare] w fun e w'=>e= .returned (.int .i64 0)∧zt x t S ((M.take.setBlk (Gd.firstB M.map) (Gd.blkT T (a/4))).setIno d (((M.ino d).setB (a/4) (Gd.firstB M.map)).setS ((M.ino d).s+more))) (c+2+2) K F w w':=by
 obtain⟨k,hk⟩:=nm (a/4);have hq:=VO a;rw[←hk]at hq hu hB hmay⊢;have hk4:k<4:=by omega
 have hsh:(M.ino d).Shape:=by
  obtain⟨P,h3,h4⟩:=h;exact h4.shape d h1 h2
 have HTs:=hid (zF hT.len);obtain⟨hb0,hr0⟩:=zI w (zk T) 77;obtain⟨tb,htb⟩:=nm w.heap.size;obtain⟨w0,hw0⟩:=nm (w.alloc (.cells (zk T) 77));rw[←hw0,←htb]at hr0;rw[←hw0]at hb0;have HL0:=hid ((Tl.start h).new hb0 (k:=tb) (by omega) hr0);have HIn:=hid (zZ (d:Int) w0 (h.below hb0) (by omega) (by omega));rw[Int.toNat_natCast]at HIn;have hml:M.map.length=16:=by
  obtain⟨P,h3,h4⟩:=h;exact h4.mapl
 have hfs:=Gd.first_some hml (by omega);have HBk:=hid fun W F1 (h3:zy x t S M c K W F1)=>Vx spare W h3 hsp (by omega);obtain⟨n,hn⟩:=nm (Gd.firstB M.map);rw[←hn]at HBk hfs hmay⊢;obtain⟨hn1,hn2,-⟩:=hfs;obtain⟨M2,hM2⟩:=nm M.take;rw[←hM2]at HBk⊢;have HSt:=hid fun W F1 (h3:zy x t S M2 (c+2) K W F1) v hv hap=>xj (M':=M2.setBlk n (Gd.blkT T k)) 7 n _ v (Gd.blkT T k) W h3 (Gd.ptAt_block hn1 hn2) hv (by rw[Gd.blkT_len hT hk4];omega) (by rw[Gd.blkT_len hT hk4];exact Nat.le_refl _) (by omega) hap fun V hV=>hV.setBlk hn1 hn2 (Gd.blkT_len hT hk4);have HUs:=hid fun W=>xG T hT.len k hk4 W;rw[hu]at HUs;have HTb:=hid fun W=>xT T hT k hk4 W;obtain⟨x0,hx0⟩:=nm (M.ino d);rw[←hx0]at hsh hB hmay hsz HIn⊢;obtain⟨y,hy⟩:=nm (((x0.setB k n).setS (x0.s+more)));rw[←hy]at hmay⊢;obtain⟨x1,hx1⟩:=nm (x0.setB k n);have hsh1:x1.Shape:=by rw[hx1];exact Gd.Ino.setB_shape hsh k n
 have hB1:x1.B[k]? =some (n:Int):=by rw[hx1];show(x0.B.set k (n:Int))[k]? =_;rw[List.getElem?_set_self (by rw[hsh.1];exact hk4)]
 have hC1:(zf x0).setIfInBounds (3+k) (.int .i64 n)=zf x1:=by rw[hx1];exact jz (uN hsh hk4 n)
 have hs1:x1.s=x0.s:=by rw[hx1];rfl
 have hC2:(zf x1).setIfInBounds 2 (.int .i64 (x0.s+more))=zf y:=by rw[hy,←hx1];exact jz (yK x1 _)
 have hyS:y.Shape:=by rw[hy,←hx1];exact Gd.Ino.setS_shape hsh1 _
 have HC1:=hid hC1;have HSi:=hid fun W F1 (h3:zy x t S (M2.setBlk n (Gd.blkT T k)) (c+2+1) K W F1)=>jI (d:Int) y hyS hmay W h3 (by omega) (by omega) (by omega);rw[Int.toNat_natCast]at HSi;have HS:=hid (zm hsh);have HSy:=hid (zm hyS);have HX:=hid (And.intro hsh hsh1);have HB0:=hid hB;have HB1:=hid hB1;have HC2:=hid hC2;have Htb:=hid htb.symm;have HW0:=hid hw0.symm;obtain⟨sm,hsm⟩:=nm (x0.s+more);have hwr:IntKind.i64.wrap (x0.s+more)=sm:=by rw[hsm,IntKind.wrap_i64];omega
 obtain⟨xs,hxs⟩:=nm x0.s;rw[←hxs]at hwr hs1;rw[←hsm]at HC2;have Hs1:=hid hs1;have g4:(k:Int)<4:=by omega
 have g0:(0:Int)≤k:=by omega
 have ga:(0:Int)≤a:=by omega
 have gn:¬(n:Int)=0:=by omega
 have Hq:=hid hq;clear hk hq hB hmay hsz hsh hsh1 hB1 hC2 hyS htb hw0 hr0 hb0 h h1 h2 hT hu hsm hxs hs1 hx0 hy hx1 hml hn hM2 hC1 hsp;unfold zv zW at*;go_enter func149,ntmps149;go_upto_region 1 with fail
 rw[HW0.o,Htb.o];go_upto_region 2 with(first|(go_at_call 17;refine HIn.o.mono ?_;rintro e w2 ⟨rfl,hb2⟩;have HL2:=hid (HL0.o.below hb2);clear hb2)|(rw[←zA];refine wpList_store_mid rfl 48 _ _ rfl w2.heap.size 0 (zf x0) rfl rfl (zd (heap_alloc_new _ _) (by rw[zc,HS.o])) (by rw[HS.o];exact sizeIno) (zr _) ?_;obtain⟨hbw,hbg⟩:=zi w2 zU 48 (zf x0).toList (by rw[zc,Array.length_toList,HS.o]);generalize (World.setCells _ _ _ _)=w3 at hbw hbg⊢;have HL3:=hid (HL2.o.new hbw (Nat.le_refl _) (o:= .cells (zf x0) 48 (0,0)) hbg);clear hbw hbg))
 obtain⟨ib,hib⟩:=nm w2.heap.size;rw[←hib]at HL3⊢;have htib:Hid (ib≠tb):=hid (by
  have:=za (HL2.o.get (k:=tb) (o:= .cells (zk T) 77 (0,0)) (by simp))
  omega)
 clear hib;have HTr3:=hid (HL3.o.get (k:=tb) (o:= .cells (zk T) 77 (0,0)) (by simp));go_upto_region 5 with fail
 rw[Hq.o];go_upto_region 8 with(first|(refine wpList_load_row rfl 77 _ rfl tb rfl 77 (zk T) (0,0) _ HTr3.o underlying77 rfl (by rw[HTs.o];exact sizeTab) ?_)|(go_at_call 174;refine(HUs.o w3).mono ?_;rintro e w4 ⟨rfl,hb4⟩;have HL4:=hid (HL3.o.below hb4);clear hb4))
 have hI4:zp w4 ib x0:=⟨HL4.o.get (k:=ib) (by simp),HX.o.1⟩;obtain⟨b0,-⟩:=hI4.cB HB0.o;clear hI4;go_upto_region 9 with fail
 obtain⟨F4,h4s,h4l⟩:=HL4.o;have HBc:=hid (HBk.o w4 F4 h4s.inv);have HNx:=hid fun b N d (h:zt x t S N d K F4 w4 b)=>Tl.next h4s h4l h;clear h4s h4l b0;go_wp2_with fail
 refine HBc.o.mono ?_;rintro e w5 ⟨rfl,ht5⟩;have HL5:=hid (HNx.o _ _ _ ht5);clear ht5 HNx HBc;have hI5:zp w5 ib x0:=⟨HL5.o.get (k:=ib) (by simp),HX.o.1⟩;obtain⟨b0,b1⟩:=hI5.cB HB0.o;clear hI5;have hl6:Tl x t S M2 (c+2) K F w (w5.setCell ⟨ib,3+k,none⟩ (.int .i64 n)) [(ib,.cells (zf x1) 48 (0,0)),(tb,.cells (zk T) 77 (0,0))]:=by
  refine HL5.o.set (k:=ib) (C:=zf x0) (ty:=48) (by simp) _ fun p hp=> ?_;rw[HC1.o];simp only[List.mem_cons,List.mem_nil_iff,or_false]at hp;rcases hp with rfl|rfl
  ·exact Or.inl rfl
  ·exact Or.inr ⟨by simp,fun e=>htib.o e.symm⟩
 obtain⟨w6,hw6⟩:=nm (w5.setCell ⟨ib,3+k,none⟩ (.int .i64 n));rw[←hw6]at hl6;have HL6:=hid hl6;have HW6:=hid hw6.symm;clear hl6 hw6;go_upto_region 12 with fail
 rw[HW6.o];have hI6:zp w6 ib x1:=⟨HL6.o.get (k:=ib) (by simp),HX.o.2⟩;obtain⟨b0,-⟩:=hI6.cB HB1.o;clear hI6;have HTr6:=hid (HL6.o.get (k:=tb) (o:= .cells (zk T) 77 (0,0)) (by simp));obtain⟨F6,h6s,h6l⟩:=HL6.o;have HT6:=hid h6s.inv.tight;have HSt6:Hid (∀b v,Below w6.heap.size w6 b→zV b w6.heap.size v (Gd.blkT T k)→Calls prog 71 #[.pointer (some ⟨x,0,none⟩),.int .i64 7,.int .i64 n,v] b fun e w'=>e= .returned (.int .i64 0)∧Tl x t S (M2.setBlk n (Gd.blkT T k)) (c+2+1) K F w w' [(ib,.cells (zf x1) 48 (0,0)),(tb,.cells (zk T) 77 (0,0))]):=hid fun b v hb hv=>by
  have h7:=jB.aheadM h6s hb;refine(HSt.o b F6 h7.inv v hv.at_ fun q hq e=> ?_).mono ?_
  ·have h3:=(zX hv q hq).1;have h4:=HT6.o q e;omega
  ·rintro e w' ⟨he,ht⟩;refine⟨he,Tl.next h7 (fun p hp=> ?_) ht⟩;obtain⟨q1,q2,q3⟩:=h6l p hp;exact⟨q1,q2,(hb.block _ (za q3)).trans q3⟩
 clear h6s h6l HT6;go_upto_region 14 with(first|(refine wpList_load_row rfl 77 _ rfl tb rfl 77 (zk T) (0,0) _ HTr6.o underlying77 rfl (by rw[HTs.o];exact sizeTab) ?_)|(go_at_call 164;refine(HTb.o w6).mono ?_;rintro e w7 ⟨v7,rfl,ho7,hb7⟩))
 have HL7:=hid (HL6.o.below hb7);have HSc:=hid (HSt6.o w7 v7 hb7 ho7);clear ho7 hb7 b0 HSt6;have hI7:zp w7 ib x1:=⟨HL7.o.get (k:=ib) (by simp),HX.o.2⟩;obtain⟨b0,-⟩:=hI7.cB HB1.o;clear hI7;go_upto_region 17 with(go_at_call 71;refine HSc.o.mono ?_;rintro e w8 ⟨rfl,hl8⟩;have HL8:=hid hl8;clear hl8)
 clear b0;have hI8:zp w8 ib x1:=⟨HL8.o.get (k:=ib) (by simp),HX.o.2⟩;have b2:=hI8.c2;rw[Hs1.o]at b2;have f2:=hI8.f 2;clear hI8;have hl9:Tl x t S (M2.setBlk n (Gd.blkT T k)) (c+2+1) K F w (w8.setCell ⟨ib,2,none⟩ (.int .i64 sm)) [(ib,.cells (zf y) 48 (0,0)),(tb,.cells (zk T) 77 (0,0))]:=by
  refine HL8.o.set (k:=ib) (C:=zf x1) (ty:=48) (by simp) _ fun p hp=> ?_;rw[HC2.o];simp only[List.mem_cons,List.mem_nil_iff,or_false]at hp;rcases hp with rfl|rfl
  ·exact Or.inl rfl
  ·exact Or.inr ⟨by simp,fun e=>htib.o e.symm⟩
 obtain⟨w9,hw9⟩:=nm (w8.setCell ⟨ib,2,none⟩ (.int .i64 sm));rw[←hw9]at hl9;have HL9:=hid hl9;have HW9:=hid hw9.symm;clear hl9 hw9;go_upto_region 20 with fail
 rw[HW9.o];have HIr:=hid (HL9.o.get (k:=ib) (o:= .cells (zf y) 48 (0,0)) (by simp));obtain⟨F9,h9s,h9l⟩:=HL9.o;have HSc9:=hid (HSi.o w9 F9 h9s.inv);have HNx:=hid fun b N d (h:zt x t S N d K F9 w9 b)=>Tl.next h9s h9l h;clear h9s h9l b2 f2;go_wp2_with(first|(refine wpList_load_row rfl 48 _ rfl ib rfl 48 (zf y) (0,0) _ HIr.o underlying48 rfl (by rw[HSy.o];exact sizeIno) ?_)|(go_at_call 74;refine HSc9.o.mono ?_;rintro e w10 ⟨rfl,ht10⟩;have HL10:=hid (HNx.o _ _ _ ht10);clear ht10))
 go_ret
 exact⟨rfl,HL10.o.turns⟩
theorem yX[zg]{x t c K d a:Nat}{S:List UInt8}{M:Gd.Vol}{F:Nat→Prop}(n:Nat)(T:Gd.Tab)(more spare:Int)(w:World)(h:zy x t S M c K w F)(h1:1≤d)(h2:d≤32)(ha:a<16)(hT:Gd.TabOk T)(hu:Gd.usedT T (a/4)=true)(hB:(M.ino d).B[a/4]? =some (n:Int))(hn1:1≤n)(hn2:n≤128)(hmay:Gd.mayI ((M.ino d).setS ((M.ino d).s+more))=true)(hsz:0≤(M.ino d).s+more∧(M.ino d).s+more≤16)(hc:c+10<64):
 Calls prog 149 #[.pointer (some ⟨x,0,none⟩),.int .i64 d,.int .i64 a,zW T,.int .i64 more,.int .i64 spare] w fun e w'=>e= .returned (.int .i64 0)∧zt x t S ((M.setBlk n (Gd.blkT T (a/4))).setIno d ((M.ino d).setS ((M.ino d).s+more))) (c+2) K F w w':=by
 obtain⟨k,hk⟩:=nm (a/4);have hq:=VO a;rw[←hk]at hq hu hB⊢;have hk4:k<4:=by omega
 have hsh:(M.ino d).Shape:=by
  obtain⟨P,h3,h4⟩:=h;exact h4.shape d h1 h2
 have HTs:=hid (zF hT.len);obtain⟨hb0,hr0⟩:=zI w (zk T) 77;obtain⟨tb,htb⟩:=nm w.heap.size;obtain⟨w0,hw0⟩:=nm (w.alloc (.cells (zk T) 77));rw[←hw0,←htb]at hr0;rw[←hw0]at hb0;have HL0:=hid ((Tl.start h).new hb0 (k:=tb) (by omega) hr0);have HIn:=hid (zZ (d:Int) w0 (h.below hb0) (by omega) (by omega));rw[Int.toNat_natCast]at HIn;have HSt:=hid fun W F1 (h3:zy x t S M c K W F1) v hv hap=>xj (M':=M.setBlk n (Gd.blkT T k)) 7 n _ v (Gd.blkT T k) W h3 (Gd.ptAt_block hn1 hn2) hv (by rw[Gd.blkT_len hT hk4];omega) (by rw[Gd.blkT_len hT hk4];exact Nat.le_refl _) (by omega) hap fun V hV=>hV.setBlk hn1 hn2 (Gd.blkT_len hT hk4);have HUs:=hid fun W=>xG T hT.len k hk4 W;rw[hu]at HUs;have HTb:=hid fun W=>xT T hT k hk4 W;obtain⟨x0,hx0⟩:=nm (M.ino d);rw[←hx0]at hsh hB hmay hsz HIn⊢;obtain⟨y,hy⟩:=nm ((x0.setS (x0.s+more)));rw[←hy]at hmay⊢;obtain⟨x1,hx1⟩:=nm x0;have HX1:=hid hx1
 have hsh1:x1.Shape:=by rw[hx1];exact hsh
 have hB1:x1.B[k]? =some (n:Int):=by rw[hx1];exact hB
 have hs1:x1.s=x0.s:=by rw[hx1]
 have hC2:(zf x1).setIfInBounds 2 (.int .i64 (x0.s+more))=zf y:=by rw[hx1,hy];exact jz (yK x0 _)
 have hyS:y.Shape:=by rw[hy];exact Gd.Ino.setS_shape hsh _
 have HSi:=hid fun W F1 (h3:zy x t S (M.setBlk n (Gd.blkT T k)) (c+1) K W F1)=>jI (d:Int) y hyS hmay W h3 (by omega) (by omega) (by omega);rw[Int.toNat_natCast]at HSi;have HS:=hid (zm hsh);have HSy:=hid (zm hyS);have HX:=hid (And.intro hsh hsh1);have HB0:=hid hB;have HB1:=hid hB1;have HC2:=hid hC2;have Htb:=hid htb.symm;have HW0:=hid hw0.symm;obtain⟨sm,hsm⟩:=nm (x0.s+more);have hwr:IntKind.i64.wrap (x0.s+more)=sm:=by rw[hsm,IntKind.wrap_i64];omega
 obtain⟨xs,hxs⟩:=nm x0.s;rw[←hxs]at hwr hs1;rw[←hsm]at HC2;have Hs1:=hid hs1;have g4:(k:Int)<4:=by omega
 have g0:(0:Int)≤k:=by omega
 have ga:(0:Int)≤a:=by omega
 have gn:¬(n:Int)=0:=by omega
 have Hq:=hid hq;clear hk hq hB hmay hsz hsh hsh1 hB1 hC2 hyS htb hw0 hr0 hb0 h h1 h2 hT hu hsm hxs hs1 hx0 hy hx1;unfold zv zW at*;go_enter func149,ntmps149;go_upto_region 1 with fail
 rw[HW0.o,Htb.o];go_upto_region 2 with(first|(go_at_call 17;refine HIn.o.mono ?_;rintro e w2 ⟨rfl,hb2⟩;have HL2:=hid (HL0.o.below hb2);clear hb2)|(rw[←zA];refine wpList_store_mid rfl 48 _ _ rfl w2.heap.size 0 (zf x0) rfl rfl (zd (heap_alloc_new _ _) (by rw[zc,HS.o])) (by rw[HS.o];exact sizeIno) (zr _) ?_;obtain⟨hbw,hbg⟩:=zi w2 zU 48 (zf x0).toList (by rw[zc,Array.length_toList,HS.o]);generalize (World.setCells _ _ _ _)=w3 at hbw hbg⊢;have HL3:=hid (HL2.o.new hbw (Nat.le_refl _) (o:= .cells (zf x0) 48 (0,0)) hbg);clear hbw hbg))
 obtain⟨ib,hib⟩:=nm w2.heap.size;rw[←hib]at HL3⊢;have htib:Hid (ib≠tb):=hid (by
  have:=za (HL2.o.get (k:=tb) (o:= .cells (zk T) 77 (0,0)) (by simp))
  omega)
 clear hib;have HTr3:=hid (HL3.o.get (k:=tb) (o:= .cells (zk T) 77 (0,0)) (by simp));go_upto_region 5 with fail
 rw[Hq.o];go_upto_region 8 with(first|(refine wpList_load_row rfl 77 _ rfl tb rfl 77 (zk T) (0,0) _ HTr3.o underlying77 rfl (by rw[HTs.o];exact sizeTab) ?_)|(go_at_call 174;refine(HUs.o w3).mono ?_;rintro e w4 ⟨rfl,hb4⟩;have HL4:=hid (HL3.o.below hb4);clear hb4))
 have hI4:zp w4 ib x1:=⟨by rw[HX1.o];exact HL4.o.get (k:=ib) (by simp),HX.o.2⟩;obtain⟨b0,-⟩:=hI4.cB HB1.o;clear hI4;go_upto_region 12 with fail
 obtain⟨w6,hw6⟩:=nm w4;have HL6:Hid (Tl x t S M c K F w w6 [(ib,.cells (zf x1) 48 (0,0)),(tb,.cells (zk T) 77 (0,0))]):=hid (by rw[hw6,HX1.o];exact HL4.o);rw[←hw6];clear hw6 b0;have hI6:zp w6 ib x1:=⟨HL6.o.get (k:=ib) (by simp),HX.o.2⟩;obtain⟨b0,-⟩:=hI6.cB HB1.o;clear hI6;have HTr6:=hid (HL6.o.get (k:=tb) (o:= .cells (zk T) 77 (0,0)) (by simp));obtain⟨F6,h6s,h6l⟩:=HL6.o;have HT6:=hid h6s.inv.tight;have HSt6:Hid (∀b v,Below w6.heap.size w6 b→zV b w6.heap.size v (Gd.blkT T k)→Calls prog 71 #[.pointer (some ⟨x,0,none⟩),.int .i64 7,.int .i64 n,v] b fun e w'=>e= .returned (.int .i64 0)∧Tl x t S (M.setBlk n (Gd.blkT T k)) (c+1) K F w w' [(ib,.cells (zf x1) 48 (0,0)),(tb,.cells (zk T) 77 (0,0))]):=hid fun b v hb hv=>by
  have h7:=jB.aheadM h6s hb;refine(HSt.o b F6 h7.inv v hv.at_ fun q hq e=> ?_).mono ?_
  ·have h3:=(zX hv q hq).1;have h4:=HT6.o q e;omega
  ·rintro e w' ⟨he,ht⟩;refine⟨he,Tl.next h7 (fun p hp=> ?_) ht⟩;obtain⟨q1,q2,q3⟩:=h6l p hp;exact⟨q1,q2,(hb.block _ (za q3)).trans q3⟩
 clear h6s h6l HT6;go_upto_region 14 with(first|(refine wpList_load_row rfl 77 _ rfl tb rfl 77 (zk T) (0,0) _ HTr6.o underlying77 rfl (by rw[HTs.o];exact sizeTab) ?_)|(go_at_call 164;refine(HTb.o w6).mono ?_;rintro e w7 ⟨v7,rfl,ho7,hb7⟩))
 have HL7:=hid (HL6.o.below hb7);have HSc:=hid (HSt6.o w7 v7 hb7 ho7);clear ho7 hb7 b0 HSt6;have hI7:zp w7 ib x1:=⟨HL7.o.get (k:=ib) (by simp),HX.o.2⟩;obtain⟨b0,-⟩:=hI7.cB HB1.o;clear hI7;go_upto_region 17 with(go_at_call 71;refine HSc.o.mono ?_;rintro e w8 ⟨rfl,hl8⟩;have HL8:=hid hl8;clear hl8)
 clear b0;have hI8:zp w8 ib x1:=⟨HL8.o.get (k:=ib) (by simp),HX.o.2⟩;have b2:=hI8.c2;rw[Hs1.o]at b2;have f2:=hI8.f 2;clear hI8;have hl9:Tl x t S (M.setBlk n (Gd.blkT T k)) (c+1) K F w (w8.setCell ⟨ib,2,none⟩ (.int .i64 sm)) [(ib,.cells (zf y) 48 (0,0)),(tb,.cells (zk T) 77 (0,0))]:=by
  refine HL8.o.set (k:=ib) (C:=zf x1) (ty:=48) (by simp) _ fun p hp=> ?_;rw[HC2.o];simp only[List.mem_cons,List.mem_nil_iff,or_false]at hp;rcases hp with rfl|rfl
  ·exact Or.inl rfl
  ·exact Or.inr ⟨by simp,fun e=>htib.o e.symm⟩
 obtain⟨w9,hw9⟩:=nm (w8.setCell ⟨ib,2,none⟩ (.int .i64 sm));rw[←hw9]at hl9;have HL9:=hid hl9;have HW9:=hid hw9.symm;clear hl9 hw9;go_upto_region 20 with fail
 rw[HW9.o];have HIr:=hid (HL9.o.get (k:=ib) (o:= .cells (zf y) 48 (0,0)) (by simp));obtain⟨F9,h9s,h9l⟩:=HL9.o;have HSc9:=hid (HSi.o w9 F9 h9s.inv);have HNx:=hid fun b N d (h:zt x t S N d K F9 w9 b)=>Tl.next h9s h9l h;clear h9s h9l b2 f2;go_wp2_with(first|(refine wpList_load_row rfl 48 _ rfl ib rfl 48 (zf y) (0,0) _ HIr.o underlying48 rfl (by rw[HSy.o];exact sizeIno) ?_)|(go_at_call 74;refine HSc9.o.mono ?_;rintro e w10 ⟨rfl,ht10⟩;have HL10:=hid (HNx.o _ _ _ ht10);clear ht10))
 go_ret
 exact⟨rfl,HL10.o.turns⟩
end
section
open Go.Shelf
attribute [local go_sem] Oper.semAt_some
theorem vz[zg]{x t c K d:Nat}{S:List UInt8}{M:Gd.Vol}{T:Gd.Tab}{F:Nat→Prop}(s:List UInt8)(i:Nat)(spare r:Int)(j:Fin 16)(w:World)(R:World→Prop)(h:zy x t S M c K w F)(hD:Gd.DirOf M d T)(hs:s.length≤1000)(hj:Gd.placeT T (Gd.hN s)=some j)
 (hC:∀W,Below w.heap.size w W→Calls prog 149 #[.pointer (some ⟨x,0,none⟩),.int .i64 d,.int .i64 (j.val:Nat),zW (Gd.setT T j.val ⟨s,i⟩),.int .i64 1,.int .i64 spare] W fun e w'=>e= .returned (.int .i64 r)∧R w'):
 Calls prog 104 #[.pointer (some ⟨x,0,none⟩),.int .i64 d,.string ⟨s.toArray⟩,.int .i64 i,.int .i64 spare] w fun e w'=>e= .returned (.int .i64 r)∧R w':=by
 have HTb:=hid (jw w h hD);have HTs:=hid (zF hD.ok.len);have HPl:=hid fun W=>vh T hD.ok ⟨s.toArray⟩ (by rw[Lib.size_eq];show s.length≤_;omega) (Gd.hN s) rfl W;rw[hj]at HPl;have HSt:=hid fun W=>ZB T hD.ok.len j.val j.isLt ⟨s,i⟩ W;have HC:=hid hC;obtain⟨k,hk⟩:=nm j.val;have hnk:vG (some j)=(k:Int):=by rw[hk];rfl
 have hk16:(k:Int)<16:=by have:=j.isLt;omega
 have hk0:(0:Int)≤k:=by omega
 rw[←hk]at HSt HC;rw[hnk]at HPl;obtain⟨T2,hT2⟩:=nm (Gd.setT T k ⟨s,i⟩);rw[←hT2]at HSt HC;unfold Zl at HSt;dsimp only at HSt;obtain⟨sb,hsb⟩:∃sb:ByteArray,sb=⟨s.toArray⟩:=⟨_,rfl⟩;rw[←hsb]at HSt HPl⊢;clear h hD hs hj hC hk hnk hT2 hsb;unfold zW at*;go_enter func104,ntmps104
 go_upto_region 2 with(first|(go_at_call 28;refine HTb.o.mono ?_;rintro e w2 ⟨rfl,hb2⟩;have HB2:=hid hb2;clear hb2)|(rw[←qh];refine wpList_store_mid rfl 77 _ _ rfl w2.heap.size 0 (zk T) rfl rfl (zd (heap_alloc_new _ _) (by rw[zn,HTs.o])) (by rw[HTs.o];exact sizeTab) (zQ _) ?_;obtain⟨hbw,hbg⟩:=zi w2 (zk Gd.noTab) 77 (zk T).toList (by rw[zn,Array.length_toList,HTs.o]);generalize (World.setCells _ _ _ _)=w3 at hbw hbg⊢;have HN3:Hid (w3.heap[w2.heap.size]? =some (.cells (zk T) 77 (0,0))):=hid hbg;have HB3:=HB2.t hbw;clear hbw hbg))
 go_upto_region 7 with(first|(refine wpList_load_row rfl 77 _ rfl w2.heap.size rfl 77 (zk T) (0,0) _ HN3.o underlying77 rfl (by rw[HTs.o];exact sizeTab) ?_)|(go_at_call 148;refine(HPl.o w3).mono ?_;rintro e w4 ⟨rfl,hb4⟩;have HB4:=HB3.t hb4;have HN4:=HN3.r hb4;clear hb4))
 go_wp2_with(first|(refine wpList_load_row rfl 77 _ rfl w2.heap.size rfl 77 (zk T) (0,0) _ HN4.o underlying77 rfl (by rw[HTs.o];exact sizeTab) ?_)|(go_at_call 150;refine(HSt.o w4).mono ?_;rintro e w5 ⟨rfl,hb5⟩;have HCc:=hid (HC.o w5 (HB4.o.trans (hb5.mono HB4.o.size)));clear hb5)|(go_at_call 149;refine HCc.o.mono ?_;rintro e w6 ⟨rfl,hr6⟩))
 go_ret
 exact⟨rfl,hr6⟩
theorem QG[zg]{x t c c2 K d:Nat}{S:List UInt8}{M M2:Gd.Vol}{F:Nat→Prop}(s:ByteArray)(f:Nat)(y:Gd.Ino)(spare:Int)(w:World)(h:zy x t S M c K w F)(hy:y.Shape)(hm:Gd.mayI y=true)(f1:1≤f)(f2:f≤32)(hk:(M.ino f).k=0)(hl:∀i,1≤i→i<f→(M.ino i).k≠0)(hc:c<64)
 (hP:∀W F1,zy x t S (M.setIno f y) (c+1) K W F1→Calls prog 104 #[.pointer (some ⟨x,0,none⟩),.int .i64 d,.string s,.int .i64 f,.int .i64 spare] W fun e w'=>e= .returned (.int .i64 0)∧zt x t S M2 c2 K F1 W w'):
 Calls prog 91 #[.pointer (some ⟨x,0,none⟩),.int .i64 d,.string s,zv y,.int .i64 spare] w fun e w'=>e= .returned (.tuple #[.int .i64 f,.int .i64 0])∧zt x t S M2 c2 K F w w':=by
 obtain⟨hb0,hr0⟩:=zI w (zf y) 48;obtain⟨yb,hyb⟩:=nm w.heap.size;obtain⟨w0,hw0⟩:=nm (w.alloc (.cells (zf y) 48));rw[←hw0,←hyb]at hr0;rw[←hw0]at hb0;have HL0:=hid ((Tl.start h).new hb0 (k:=yb) (by omega) hr0);have HFr:=hid (QL f w0 (h.below hb0) f1 f2 hk hl);have HSi:=hid fun W F1 (h3:zy x t S M c K W F1)=>jI (f:Int) y hy hm W h3 (by omega) (by omega) hc;rw[Int.toNat_natCast]at HSi;have HP:=hid hP;have HS:=hid (zm hy);have HTo:=hid fun W=>qv (f:Int) 0 W;rw[if_pos rfl]at HTo;have Hyb:=hid hyb.symm;have HW0:=hid hw0.symm;clear h hy hm f1 f2 hk hl hc hP hb0 hr0 hyb hw0;unfold zv at*;go_enter func91,ntmps91;go_upto_region 1 with fail
 rw[HW0.o,Hyb.o];go_upto_region 4 with(go_at_call 141;refine HFr.o.mono ?_;rintro e w2 ⟨rfl,hb2⟩;have HL2:=hid (HL0.o.below hb2);clear hb2)
 have HIr:=hid (HL2.o.get (k:=yb) (o:= .cells (zf y) 48 (0,0)) (by simp));obtain⟨F2,h2s,h2l⟩:=HL2.o;have HSc:=hid (HSi.o w2 F2 h2s.inv);have HNx:=hid fun b N d (h:zt x t S N d K F2 w2 b)=>Tl.next h2s h2l h;clear h2s h2l;go_upto_region 7 with(first|(refine wpList_load_row rfl 48 _ rfl yb rfl 48 (zf y) (0,0) _ HIr.o underlying48 rfl (by rw[HS.o];exact sizeIno) ?_)|(go_at_call 74;refine HSc.o.mono ?_;rintro e w3 ⟨rfl,ht3⟩;have HL3:=hid (HNx.o _ _ _ ht3);clear ht3))
 obtain⟨F3,h3s,h3l⟩:=HL3.o;have HPc:=hid (HP.o w3 F3 h3s.inv);have HNx3:=hid fun b N d (h:zt x t S N d K F3 w3 b)=>Tl.next h3s h3l h;clear h3s h3l;go_wp2_with(first|(go_at_call 104;refine HPc.o.mono ?_;rintro e w4 ⟨rfl,ht4⟩;have HL4:=hid (HNx3.o _ _ _ ht4);clear ht4)|(go_at_call 92;refine(HTo.o w4).mono ?_;rintro e w5 ⟨rfl,rfl⟩))
 go_ret2
 exact⟨rfl,HL4.o.turns⟩
end
section
open Go.Shelf
attribute [local go_sem] Oper.semAt_some
theorem j3(k:Int)(w:World):Calls prog 59 #[.int .i64 k] w fun e w'=>e= .returned (.bool (decide (1≤k)&&decide (k≤8)))∧w'=w:=by
 go_enter func59,ntmps59;by_cases h0:1≤k
 ·by_cases h4:k≤8
  ·go_wp2;go_ret
   exact⟨zq (by simp[h0,h4]),rfl⟩
  ·go_wp2;go_ret
   exact⟨zq (by simp[h0,h4]),rfl⟩
 ·go_wp2;go_ret
  exact⟨zq (by simp;omega),rfl⟩
def jf:Gd.Ino:=⟨1,1,0,[0,0,0,0],[0,0,0,0,0,0,0,0]⟩
theorem JD:∀k:Fin 8,([0,0,0,0,0,0,0,0]:List Int)[k.val]? =some 0:=by decide
theorem jk:jf.Shape:=⟨rfl,rfl⟩
theorem YP{x:Nat}(cl:Nat)(s n:ByteArray)(wi d f:Nat)(spare:Int)(w:World)(R:World→Prop)(hc1:1≤cl)(hc8:cl≤8)
 (hW:Ret w 25 #[.pointer (some ⟨x,0,none⟩),.string s] (.tuple #[.int .i64 wi,.int .i64 10]))
 (hP:Ret w 89 #[.pointer (some ⟨x,0,none⟩),.string s] (.tuple #[.int .i64 d,.string n,.int .i64 0]))
 (hM:∀W,Below w.heap.size w W→Calls prog 91 #[.pointer (some ⟨x,0,none⟩),.int .i64 d,.string n,zv (jf.setO (cl-1) 1),.int .i64 spare] W fun e w'=>e= .returned (.tuple #[.int .i64 f,.int .i64 0])∧R w'):
 Calls prog 40 #[.pointer (some ⟨x,0,none⟩),.int .i64 cl,.string s,.int .i64 1,.bool false,.int .i64 spare] w fun e w'=>e= .returned (.tuple #[.int .i64 f,.int .i64 0])∧R w':=by
 have HW:=hid hW;have HP:=hid hP;have HM:=hid hM;have HI:=hid fun W=>j3 (cl:Int) W;rw[show(decide ((1:Int)≤cl)&&decide ((cl:Int)≤8))=true by simp;omega]at HI;obtain⟨k,rfl⟩:∃k,cl=k+1:=⟨cl-1,by omega⟩;rw[Nat.add_sub_cancel]at HM;rw[show(((k+1:Nat):Int))=(k:Int)+1 by omega]at HI⊢;have hk8:(k:Int)<8:=by omega
 have hk0:(0:Int)≤k:=by omega
 have HK8:Hid (k<8):=hid (by omega);have HSn:Hid ((zf jf).size=15):=hid rfl;have HSo:=hid (zm (Gd.Ino.setO_shape jk k 1));have HC:Hid ((zf jf).setIfInBounds (7+k) (.int .i64 1)=zf (jf.setO k 1)):=hid (jz (qQ jk HK8.o 1));have hcl0:(1:Int)≤(k:Int)+1:=by omega
 have hcl8:(k:Int)+1≤8:=by omega
 clear hW hP hM hc1 hc8;unfold zv at*;go_enter func40,ntmps40;go_upto_region 5 with(go_at_call 59;refine(HI.o _).mono ?_;rintro e wq ⟨rfl,rfl⟩)
 have HW0:=hid (HW.o wq (Below.refl _ _));go_upto_region 6 with(go_at_call 25;refine HW0.o.mono ?_;rintro e w2 ⟨rfl,hb2⟩;have HB2:=hid hb2;clear hb2)
 have HP2:=hid (HP.o w2 HB2.o);go_upto_region 7 with(go_at_call 89;refine HP2.o.mono ?_;rintro e w3 ⟨rfl,hb3⟩;have HB3:=HB2.t hb3;clear hb3)
 go_upto_region 15 with fail
 go_upto_region 16 with(rw[←zA];refine wpList_store_mid rfl 48 _ _ rfl w3.heap.size 0 (zf jf) rfl rfl (zd (heap_alloc_new _ _) (by rw[zc,HSn.o])) (by rw[HSn.o];exact sizeIno) (zr _) ?_;obtain⟨hbw,hbg⟩:=zi w3 zU 48 (zf jf).toList (by rw[zc,Array.length_toList,HSn.o]);generalize (World.setCells _ _ _ _)=w4 at hbw hbg⊢;have HB4:=HB3.t hbw;have HN4:Hid (w4.heap[w3.heap.size]? =some (.cells (zf jf) 48 (0,0))):=hid hbg;clear hbw hbg)
 obtain⟨ib,hib⟩:=nm w3.heap.size;rw[←hib]at HN4⊢;have hI4:zp w4 ib jf:=⟨HN4.o,jk⟩;obtain⟨b0,b1⟩:=hI4.cO (k:=k) (n:=0) (by
  exact JD ⟨k,HK8.o⟩)
 obtain⟨w5,hw5⟩:=nm (w4.setCell ⟨ib,7+k,none⟩ (.int .i64 1));have HB5:Hid (Below wq.heap.size wq w5):=hid (by rw[hw5];exact HB4.o.setCell (show wq.heap.size≤ib by rw[hib];exact HB3.o.size) _);have HN5:Hid (w5.heap[ib]? =some (.cells (zf (jf.setO k 1)) 48 (0,0))):=hid (by rw[hw5,←HC.o];exact Go.heap_setCell_same w4 ib _ _ _ _ HN4.o);have HW5:=hid hw5.symm;clear hI4 hw5 hib;have HMc:=hid (HM.o w5 HB5.o);go_upto_region 17 with fail
 rw[HW5.o];go_wp2_with(first|(refine wpList_load_row rfl 48 _ rfl ib rfl 48 (zf (jf.setO k 1)) (0,0) _ HN5.o underlying48 rfl (by rw[HSo.o];exact sizeIno) ?_)|(go_at_call 91;refine HMc.o.mono ?_;rintro e w6 ⟨rfl,hr6⟩))
 go_ret2
 exact⟨rfl,hr6⟩
end
namespace Gd
theorem view_append(S:List UInt8)(P Q:List Pa):view S (P++Q)=view (view S P) Q:=by
 unfold view;rw[List.foldl_append]
theorem view_apart{k n:Nat}:∀{P:List Pa} {S:List UInt8},Fit S.length P→k+n≤S.length→(∀p∈P,k+n≤p.1∨p.1+p.2.length≤k)→part (view S P) k n=part S k n
 |[],_,_,_,_=>rfl
 |p::r,S,hf,hk,h=>by
  have h1:=hf p (List.mem_cons_self ..);have hl:=splice_length h1;show part (view (splice S p.1 p.2) r) k n=_
  rw[view_apart (by rw[hl];exact fun q hq=>hf q (List.mem_cons_of_mem _ hq)) (by rw[hl];exact hk) fun q hq=>h q (List.mem_cons_of_mem _ hq)];exact part_splice_apart hk h1 (h p (List.mem_cons_self ..))
theorem view_at{p:Pa}{P Q:List Pa}{S:List UInt8}(hf:Fit S.length (P++[p]++Q))(h:∀q∈Q,p.1+p.2.length≤q.1∨q.1+q.2.length≤p.1):part (view S (P++[p]++Q)) p.1 p.2.length=p.2:=by
 have hp:Fit S.length P:=fun q hq=>hf q (List.mem_append_left _ (List.mem_append_left _ hq));have h1:=hf p (List.mem_append_left _ (List.mem_append_right _ (List.mem_singleton.2 rfl)));have hl:=view_length hp;have hl2:(view S (P++[p])).length=S.length:=by rw[view_snoc,splice_length (by rw[hl];exact h1),hl]
 rw[view_append,view_apart (by rw[hl2];exact fun q hq=>hf q (List.mem_append_right _ hq)) (by rw[hl2];exact h1) h,view_snoc];exact part_splice_same (by rw[hl];exact h1)
theorem fmtS_mem{k:Nat}{p:Pa}(h:p∈fmtS k):∃c,c<k∧((p.1=64+64*c∧p.2.length=64)∨(p.1=6784+1024*c∧p.2.length=8)):=by
 unfold fmtS at h;obtain⟨c,hc,hp⟩:=List.mem_flatMap.1 h;refine⟨c,List.mem_range.1 hc,?_⟩;simp only[List.mem_cons,List.mem_nil_iff,or_false]at hp;rcases hp with rfl|rfl
 ·exact Or.inl ⟨rfl,slotB_length _⟩
 ·exact Or.inr ⟨rfl,List.length_replicate⟩
theorem fmtN_mem{k:Nat}{p:Pa}(h:p∈fmtN k):∃i,i<k∧p.1=inoAt (i+2)∧p.2.length=64:=by
 unfold fmtN at h;obtain⟨i,hi,rfl⟩:=List.mem_map.1 h;exact⟨i,List.mem_range.1 hi,rfl,List.length_replicate⟩
theorem root_len:(inoB rootI).length=64:=inoB_length root_shape
theorem fmtP_mem{p:Pa}(h:p∈fmtP):p.1+p.2.length≤14976:=by
 unfold fmtP at h;simp only[List.mem_append,List.mem_singleton]at h;rcases h with(((rfl|h)|rfl)|rfl)|h
 ·rw[headB_length];omega
 ·obtain⟨c,hc,h|h⟩:=fmtS_mem h<;>omega
 ·rw[List.length_replicate];omega
 ·rw[root_len];unfold inoAt;omega
 ·obtain⟨i,hi,h1,h2⟩:=fmtN_mem h;rw[h1,h2];unfold inoAt;omega
theorem fmtP_fit{n:Nat}(hn:23168≤n):Fit n fmtP:=fun p hp=>by
 have:=fmtP_mem hp
 omega
theorem fmtN_at{V:List UInt8}(hV:V.length=23168):∀k,k≤31→∀j,j<k→part (view V (fmtN k)) (inoAt (j+2)) 64=List.replicate 64 0
 |0,_,j,hj=>by omega
 |k+1,hk,j,hj=>by
  have hf:Fit V.length (fmtN k):=fun p hp=>by
   obtain⟨i,hi,h1,h2⟩:=fmtN_mem hp;rw[h1,h2,hV];unfold inoAt;omega
  have hl:=view_length hf;have hz:(List.replicate 64 (0:UInt8)).length=64:=List.length_replicate;rw[fmtN_succ,view_snoc];by_cases e:j=k
  ·subst e;have:=part_splice_same (S:=view V (fmtN j)) (k:=inoAt (j+2)) (b:=List.replicate 64 0) (by rw[hl,hV,hz];unfold inoAt;omega)
   rw[hz]at this;exact this
  ·rw[part_splice_apart (by rw[hl,hV];unfold inoAt;omega) (by rw[hl,hV,hz];unfold inoAt;omega) (by rw[hz];unfold inoAt;omega)];exact fmtN_at hV k (by omega) j (by omega)
def freshV(S:List UInt8):Vol:=⟨fun i=>if i=1 then rootI else noIno,List.replicate 16 0,fun n=>part S (blkAt n) 64⟩
theorem fresh_good{S:List UInt8}(hS:S.length=23168):Good (view S fmtP) (freshV S):=by
 have hfit:Fit S.length fmtP:=fmtP_fit (by omega);have hl:(view S fmtP).length=23168:=by rw[view_length hfit,hS]
 refine⟨hl,fun i h1 h2=> ?_,fun i h1 h2=> ?_,fun i h1 h2=> ?_,List.length_replicate,?_,fun n n1 n2=> ?_,fun n n1 n2=> ?_⟩
 ·show(if i=1 then rootI else noIno).Shape
  split
  ·exact root_shape
  ·exact⟨rfl,rfl⟩
 ·show mayI (if i=1 then rootI else noIno)=true
  split
  ·exact root_may
  ·decide
 ·show part _ _ _=inoB (if i=1 then rootI else noIno)
  by_cases e:i=1
  ·subst e;rw[if_pos rfl];have:=view_at (p:=(inoAt 1,inoB rootI)) (P:=[(0,headB 0)]++fmtS 8++[(576,List.replicate 16 0)]) (Q:=fmtN 31) (S:=S) hfit fun q hq=>by
    obtain⟨i,hi,h1,h2⟩:=fmtN_mem hq;rw[h1,root_len];unfold inoAt;omega
   rw[root_len]at this;exact this
  ·rw[if_neg e];have h3:(view S ([(0,headB 0)]++fmtS 8++[(576,List.replicate 16 0)]++[(inoAt 1,inoB rootI)])).length=23168:=by
    rw[view_length fun p hp=>hfit p (List.mem_append_left _ hp),hS]
   have:=fmtN_at h3 31 (Nat.le_refl _) (i-2) (by omega)
   rw[←view_append,show i-2+2=i by omega]at this;exact this
 ·have:=view_at (p:=(576,List.replicate 16 0)) (P:=[(0,headB 0)]++fmtS 8) (Q:=[(inoAt 1,inoB rootI)]++fmtN 31) (S:=S) (by rw[←List.append_assoc];exact hfit) fun q hq=>by
   rw[List.length_replicate];rcases List.mem_append.1 hq with hq|hq
   ·rw[List.mem_singleton.1 hq];unfold inoAt;omega
   ·obtain⟨i,hi,h1,h2⟩:=fmtN_mem hq;rw[h1];unfold inoAt;omega
  rw[←List.append_assoc,List.length_replicate]at this;exact this
 ·exact part_length (by rw[hS];unfold blkAt;omega)
 ·exact view_apart hfit (by rw[hS];unfold blkAt;omega) fun p hp=>by
   have:=fmtP_mem hp
   unfold blkAt;omega
theorem fresh_tree(S:List UInt8):Tree (freshV S) fun _=>noTab:=by
 have hd:∀d,((freshV S).ino d).k=2→d=1:=fun d h=>by
  by_cases e:d=1
  ·exact e
  ·exact absurd (show(if d=1 then rootI else noIno).k=2 from h) (by rw[if_neg e];decide)
 refine⟨rfl,fun d h1 h2 hk=>⟨h1,h2,hk,noTab_ok,fun k hk4=>⟨0,?_,Or.inl ⟨rfl,fun i _=>noTab_at _⟩⟩⟩,fun d _ _ _ e he hne=>absurd (List.eq_of_mem_replicate he) hne⟩;have:=hd d hk
 subst this;show rootI.B[k]? =some ((0:Nat):Int)
 match k,hk4 with
 |0,_=>rfl
 |1,_=>rfl
 |2,_=>rfl
 |3,_=>rfl
end Gd
namespace Gd
theorem setT_other{T:Tab}{j k i:Nat}{e:Ent}(hT:T.length=16)(hj:j<16)(hk:k≠j/4)(hi:i<4):entAt (setT T j e) (4*k+i)=entAt T (4*k+i):=by
 rw[setT_at hT hj,if_neg (by omega)]
theorem blkT_other{T:Tab}{j k:Nat}{e:Ent}(hT:T.length=16)(hj:j<16)(hk4:k<4)(hk:k≠j/4):blkT (setT T j e) k=blkT T k:=by
 unfold blkT;rw[blk_ext (by unfold setT;rw[List.length_set];exact hT) hT hk4 fun i hi=>setT_other hT hj hk hi]
theorem DirOf.put{M N:Vol}{d j n:Nat}{T:Tab}{e:Ent}(h:DirOf M d T)(he:e.May)(hj:j<16)(hk:(N.ino d).k=2)(hB:(N.ino d).B=(M.ino d).B.set (j/4) (n:Int))(hn1:1≤n)(hn2:n≤128)(hblk:N.blk n=blkT (setT T j e) (j/4))(hoth:∀q,q≠n→N.blk q=M.blk q)
 (hfree:∀k q:Nat,k≠j/4→(M.ino d).B[k]? =some (q:Int)→q≠0→q≠n):DirOf N d (setT T j e):=by
 refine⟨h.lo,h.hi,hk,h.ok.set he,fun k hk4=> ?_⟩;obtain⟨q,hq,hr⟩:=h.blk k hk4;have hlen:k<(M.ino d).B.length:=(List.getElem?_eq_some_iff.1 hq).1;by_cases e1:k=j/4
 ·refine⟨n,?_,Or.inr ⟨hn1,hn2,by rw[e1];exact hblk⟩⟩;rw[hB,←e1,List.getElem?_set_self hlen]
 ·refine⟨q,?_,?_⟩
  ·rw[hB,List.getElem?_set_ne (fun e=>e1 e.symm)];exact hq
  ·rcases hr with⟨h0,hno⟩|⟨q1,q2,hb⟩
   ·exact Or.inl ⟨h0,fun i hi=>by rw[setT_other h.ok.len hj e1 hi];exact hno i hi⟩
   ·refine Or.inr ⟨q1,q2,?_⟩;rw[hoth q (hfree k q e1 hq (by omega)),hb,blkT_other h.ok.len hj hk4 e1]
theorem usedT_set{T:Tab}{j:Nat}{e:Ent}(hT:T.length=16)(hj:j<16)(he:e≠noEnt):usedT (setT T j e) (j/4)=true:=by
 unfold usedT;rw[List.any_eq_true];refine⟨e,?_,by simpa using he⟩;have hl:(setT T j e).length=16:=by unfold setT;rw[List.length_set];exact hT
 have hg:=entAt_get hl hj;rw[setT_at hT hj,if_pos rfl]at hg;refine List.mem_of_getElem? (i:=j % 4) ?_;rw[List.getElem?_take,if_pos (Nat.mod_lt _ (by omega)),List.getElem?_drop,show 4*(j/4)+j % 4=j by omega];exact hg
structure Sound(M:Vol):Prop where
 mapl:M.map.length=16
 one:∀i i' k k':Nat,∀n:Int,1≤i→i≤32→1≤i'→i'≤32→(M.ino i).B[k]? =some n→(M.ino i').B[k']? =some n→n≠0→i=i'∧k=k'
 used:∀n:Nat,1≤n→n≤128→(usedB M.map n=true↔∃i k:Nat,1≤i∧i≤32∧(M.ino i).B[k]? =some (n:Int))
theorem used_zero(n:Nat):usedB (List.replicate 16 0) n=false:=by
 unfold usedB byteAt;have:((List.replicate 16 (0:UInt8)).getD ((n-1)/8) 0).toNat=0:=by
  rw[List.getD_eq_getElem?_getD,List.getElem?_replicate];split<;>rfl
 rw[this];simp
theorem fresh_blocks(S:List UInt8)(i k:Nat)(n:Int)(h:((freshV S).ino i).B[k]? =some n):n=0:=by
 have h2:(if i=1 then rootI else noIno).B[k]? =some n:=h;split at h2
 ·have:n∈rootI.B:=List.mem_of_getElem? h2
  simp[rootI]at this;exact this
 ·have:n∈noIno.B:=List.mem_of_getElem? h2
  simp[noIno]at this;exact this
theorem fresh_sound(S:List UInt8):Sound (freshV S):=by
 refine⟨List.length_replicate,fun i i' k k' n _ _ _ _ h _ hn=>absurd (fresh_blocks S i k n h) hn,fun n n1 _=>⟨fun h=> ?_,fun⟨i,k,_,_,h⟩=> ?_⟩⟩
 ·rw[show(freshV S).map=List.replicate 16 0 from rfl,used_zero]at h
  cases h
 ·have:=fresh_blocks S i k _ h
  omega
end Gd
namespace Gd
theorem set_get{B:List Int}{k j:Nat}{m n:Int}(h:(B.set k m)[j]? =some n):(j=k∧n=m)∨(j≠k∧B[j]? =some n):=by
 by_cases e:j=k
 ·subst e;have hl:=(List.getElem?_eq_some_iff.1 h).1;rw[List.length_set]at hl;rw[List.getElem?_set_self hl]at h;exact Or.inl ⟨rfl,(Option.some.inj h).symm⟩
 ·rw[List.getElem?_set_ne (fun x=>e x.symm)]at h;exact Or.inr ⟨e,h⟩
theorem Sound.same{M N:Vol}(h:Sound M)(hm:N.map=M.map)(hB:∀i,1≤i→i≤32→(N.ino i).B=(M.ino i).B):Sound N:=by
 refine⟨by rw[hm];exact h.mapl,fun i i' k k' n h1 h2 h3 h4 a b hn=> ?_,fun n n1 n2=> ?_⟩
 ·rw[hB i h1 h2]at a;rw[hB i' h3 h4]at b;exact h.one i i' k k' n h1 h2 h3 h4 a b hn
 ·rw[hm,h.used n n1 n2];constructor
  ·rintro⟨i,k,h1,h2,h3⟩;exact⟨i,k,h1,h2,by rw[hB i h1 h2];exact h3⟩
  ·rintro⟨i,k,h1,h2,h3⟩;exact⟨i,k,h1,h2,by rw[hB i h1 h2]at h3;exact h3⟩
theorem Sound.take{M N:Vol}(h:Sound M){d k n:Nat}(d1:1≤d)(d2:d≤32)(hk:(M.ino d).B[k]? =some 0)(n1:1≤n)(n2:n≤128)(hf:usedB M.map n=false)(hm:N.map=takeB M.map n)(hd:(N.ino d).B=(M.ino d).B.set k (n:Int))(hB:∀i,1≤i→i≤32→i≠d→(N.ino i).B=(M.ino i).B):Sound N:=by
 have hno:∀i k:Nat,1≤i→i≤32→(M.ino i).B[k]? ≠some (n:Int):=fun i k i1 i2 e=>by
  have:=(h.used n n1 n2).2 ⟨i,k,i1,i2,e⟩
  rw[hf]at this
  cases this
 have hg:∀i j m,1≤i→i≤32→(N.ino i).B[j]? =some m→(i=d∧j=k∧m=(n:Int))∨(¬(i=d∧j=k)∧(M.ino i).B[j]? =some m):=fun i j m i1 i2 e=>by
  by_cases ei:i=d
  ·subst ei;rw[hd]at e;rcases set_get e with⟨e1,e2⟩|⟨e1,e2⟩
   ·exact Or.inl ⟨rfl,e1,e2⟩
   ·exact Or.inr ⟨fun x=>e1 x.2,e2⟩
  ·rw[hB i i1 i2 ei]at e;exact Or.inr ⟨fun x=>ei x.1,e⟩
 have hl:=(List.getElem?_eq_some_iff.1 hk).1;refine⟨by rw[hm,take_length];exact h.mapl,fun i i' j j' m i1 i2 i3 i4 a b hn=> ?_,fun m m1 m2=> ?_⟩
 ·rcases hg i j m i1 i2 a with⟨a1,a2,a3⟩|⟨a1,a2⟩<;>rcases hg i' j' m i3 i4 b with⟨b1,b2,b3⟩|⟨b1,b2⟩
  ·exact⟨a1.trans b1.symm,a2.trans b2.symm⟩
  ·exact absurd (a3▸b2) (hno i' j' i3 i4)
  ·exact absurd (b3▸a2) (hno i j i1 i2)
  ·exact h.one i i' j j' m i1 i2 i3 i4 a2 b2 hn
 ·rw[hm,used_take h.mapl n1 n2 m1 m2,Bool.or_eq_true,decide_eq_true_iff,h.used m m1 m2];constructor
  ·rintro(rfl|⟨i,j,i1,i2,e⟩)
   ·exact⟨d,k,d1,d2,by rw[hd,List.getElem?_set_self hl]⟩
   ·by_cases ei:i=d
    ·subst ei;refine⟨i,j,i1,i2,?_⟩;have hjk:j≠k:=fun x=>by
      rw[x,hk]at e;have:=Option.some.inj e
      omega
     rw[hd,List.getElem?_set_ne (fun x=>hjk x.symm)];exact e
    ·exact⟨i,j,i1,i2,by rw[hB i i1 i2 ei];exact e⟩
  ·rintro⟨i,j,i1,i2,e⟩;rcases hg i j _ i1 i2 e with⟨_,_,e3⟩|⟨_,e2⟩
   ·exact Or.inl (by omega)
   ·exact Or.inr ⟨i,j,i1,i2,e2⟩
theorem Sound.give{M N:Vol}(h:Sound M){d k n:Nat}(d1:1≤d)(d2:d≤32)(hk:(M.ino d).B[k]? =some (n:Int))(n1:1≤n)(n2:n≤128)(hm:N.map=giveB M.map n)(hd:(N.ino d).B=(M.ino d).B.set k 0)(hB:∀i,1≤i→i≤32→i≠d→(N.ino i).B=(M.ino i).B):Sound N:=by
 have hn0:(n:Int)≠0:=by omega
 have hg:∀i j m,1≤i→i≤32→(N.ino i).B[j]? =some m→m≠0→¬(i=d∧j=k)∧(M.ino i).B[j]? =some m:=fun i j m i1 i2 e hm0=>by
  by_cases ei:i=d
  ·subst ei;rw[hd]at e;rcases set_get e with⟨e1,e2⟩|⟨e1,e2⟩
   ·exact absurd e2 hm0
   ·exact⟨fun x=>e1 x.2,e2⟩
  ·rw[hB i i1 i2 ei]at e;exact⟨fun x=>ei x.1,e⟩
 refine⟨by rw[hm,give_length];exact h.mapl,fun i i' j j' m i1 i2 i3 i4 a b hm0=> ?_,fun m m1 m2=> ?_⟩
 ·exact h.one i i' j j' m i1 i2 i3 i4 (hg i j m i1 i2 a hm0).2 (hg i' j' m i3 i4 b hm0).2 hm0
 ·rw[hm,used_give h.mapl n1 n2 m1 m2,Bool.and_eq_true,Bool.not_eq_true',decide_eq_false_iff_not,h.used m m1 m2];constructor
  ·rintro⟨hne,i,j,i1,i2,e⟩;by_cases ei:i=d
   ·subst ei;refine⟨i,j,i1,i2,?_⟩;have hjk:j≠k:=fun x=>by
     rw[x,hk]at e;have:=Option.some.inj e
     omega
    rw[hd,List.getElem?_set_ne (fun x=>hjk x.symm)];exact e
   ·exact⟨i,j,i1,i2,by rw[hB i i1 i2 ei];exact e⟩
  ·rintro⟨i,j,i1,i2,e⟩;obtain⟨e1,e2⟩:=hg i j _ i1 i2 e (by omega);refine⟨fun x=> ?_,i,j,i1,i2,e2⟩;subst x;exact e1 (h.one i d j k _ i1 i2 d1 d2 e2 hk hn0)
end Gd
namespace Gd
end Gd
section
open Go.Shelf
theorem Gd.DirOf.same{M N:Gd.Vol}{d:Nat}{T:Gd.Tab}(h:Gd.DirOf M d T)(hi:N.ino d=M.ino d)(hb:N.blk=M.blk):Gd.DirOf N d T:=
 ⟨h.lo,h.hi,by rw[hi];exact h.kind,h.ok,fun k hk=>by rw[hi,hb];exact h.blk k hk⟩
end
section
open Go.Shelf
theorem QN{nm:List UInt8}{i:Nat}(h1:1≤i):(⟨nm,i⟩:Gd.Ent)≠Gd.noEnt:=fun e=>by
 have:i=0:=congrArg Gd.Ent.i e
 omega
namespace Gd
def tabA:Tab:=setT noTab 14 ⟨[97],2⟩
def tabB:Tab:=setT tabA 15 ⟨[98],3⟩
def tabC4:Tab:=setT tabB 0 ⟨[99],4⟩
theorem hash4:hN [97]=14∧hN [98]=14∧hN [99]=14∧hN [100]=14:=by decide+kernel
theorem placeD:findT tabC4 [100] 14=none∧placeT tabC4 14=some 1:=by decide+kernel
def map0:List UInt8:=List.replicate 16 0
def map1:List UInt8:=takeB map0 1
def map2:List UInt8:=takeB map1 2
theorem first0:firstB map0=1∧countB map0=0:=by decide+kernel
theorem first1:firstB map1=2∧countB map1=1:=by decide+kernel
theorem names4:Np.nameB [97]=true∧Np.nameB [98]=true∧Np.nameB [99]=true∧Np.nameB [100]=true:=by decide+kernel
end Gd
end
theorem zy.good[zg]{x t K:Nat}{S:List UInt8}{M:Gd.Vol}{w:World}{F:Nat→Prop}(h:zy x t S M 0 K w F):Gd.Good S M:=by
 obtain⟨P,h1,h2⟩:=h;have:P=[]:=List.eq_nil_of_length_eq_zero (Nat.le_zero.1 h1.light.many)
 subst this;exact h2
theorem QE[zg]{x t c K:Nat}{S:List UInt8}{M:Gd.Vol}{F:Nat→Prop}(w:World)(h:zy x t S M c K w F)(hc:c≤57)(hK:K<600000000000):
 Calls prog 21 #[.pointer (some ⟨t,0,none⟩)] w fun e w'=>e= .returned (.int .i64 0)∧∃S',zt x t S' M 0 (K+2000000) F w w':=by
 obtain⟨P,h,hG⟩:=h;refine(Qk w h.txn ⟨Nat.le_trans h.light.many hc,h.light.len⟩ h.len h.log hK).mono ?_
 rintro e w' ⟨rfl,⟨S',hl,he,hs,hT⟩,hO⟩;refine⟨rfl,S',F,⟨[],⟨hT,(hO.block x (za h.obj) fun e=>e.2 rfl).trans h.obj,h.inF,hl,he,⟨Nat.le_refl 0,fun _ hp=>by cases hp⟩,fun k hk=>Nat.lt_of_lt_of_le (h.tight k hk) hO.size⟩,?_⟩,fun _ _ e=>e,hO.mono fun _ _ e=>e.1⟩;exact hG.same (by rw[h.view_len];exact hl) hs
theorem Ud[zg]{x t c K:Nat}{S:List UInt8}{M M0:Gd.Vol}{F:Nat→Prop}(w:World)(h:zy x t S M c K w F)(hG:Gd.Good S M0):
 Calls prog 20 #[.pointer (some ⟨t,0,none⟩)] w fun e w'=>e= .returned (.tuple #[])∧zt x t S M0 0 K F w w':=by
 obtain⟨P,h,_⟩:=h;refine(up w h.txn).mono ?_
 rintro e w' ⟨rfl,hT,hO⟩;exact⟨rfl,F,⟨[],⟨hT,(hO.block x (za h.obj) fun e=>e.2 rfl).trans h.obj,h.inF,h.len,h.log,⟨Nat.le_refl 0,fun _ hp=>by cases hp⟩,fun k hk=>Nat.lt_of_lt_of_le (h.tight k hk) hO.size⟩,hG⟩,fun _ _ e=>e,hO.mono fun _ _ e=>e.1⟩
def Mx(w:World):Prop:=∃m:Int,w.cell? ⟨0,0,none⟩=some (.int .i64 m)
theorem uH{w:World}{m:Int}(hm:w.cell? ⟨0,0,none⟩=some (.int .i64 m)):0<w.heap.size:=by
 unfold World.cell? at hm
 cases hh:w.heap[0]? with
 |none=>rw[show(⟨0,0,none⟩:Addr).block=0 from rfl,hh]at hm;cases hm
 |some o=>exact(Array.getElem?_eq_some_iff.1 hh).1
section
open Go.Shelf
def Nof(_:Nat):Prop:=False
theorem Tl.belowW[zg]{x t c K:Nat}{S:List UInt8}{M:Gd.Vol}{w a:World}{Ls:List (Nat×Obj)}(h:Tl x t S M c K Nof w a Ls):Below w.heap.size w a:=by
 obtain⟨F',h1,_⟩:=h;exact h1.only.below (Nat.le_refl _) fun _ _ e=>e
theorem Tl.next2[zg]{x t c d K K2:Nat}{S S2:List UInt8}{M N:Gd.Vol}{F F1:Nat→Prop}{w a b:World}{Ls:List (Nat×Obj)}(h1:jB (zy x t S M c K) F w F1 a)(h2:∀p∈Ls,w.heap.size≤p.1∧¬F1 p.1∧a.heap[p.1]? =some p.2)(ht:zt x t S2 N d K2 F1 a b):Tl x t S2 N d K2 F w b Ls:=by
 obtain⟨F2,s⟩:=ht;refine⟨F2,h1.trans s,fun p hp=> ?_⟩;obtain⟨q1,q2,q3⟩:=h2 p hp;obtain⟨o1,o2⟩:=s.own (za q3) q2;exact⟨q1,o2,o1.trans q3⟩
theorem Tl.commit[zg]{x t c K:Nat}{S:List UInt8}{M:Gd.Vol}{F:Nat→Prop}{w a:World}{Ls:List (Nat×Obj)}(h:Tl x t S M c K F w a Ls)(hc:c≤57)(hK:K<600000000000):
 Calls prog 21 #[.pointer (some ⟨t,0,none⟩)] a fun e b=>e= .returned (.int .i64 0)∧∃S',Tl x t S' M 0 (K+2000000) F w b Ls:=by
 obtain⟨F1,h1,h2⟩:=h;refine(QE a h1.inv hc hK).mono ?_
 rintro e b ⟨rfl,S',ht⟩;exact⟨rfl,S',Tl.next2 h1 h2 ht⟩
theorem Tl.drop[zg]{x t c K:Nat}{S:List UInt8}{M M0:Gd.Vol}{F:Nat→Prop}{w a:World}{Ls:List (Nat×Obj)}(h:Tl x t S M c K F w a Ls)(hG:Gd.Good S M0):
 Calls prog 20 #[.pointer (some ⟨t,0,none⟩)] a fun e b=>e= .returned (.tuple #[])∧Tl x t S M0 0 K F w b Ls:=by
 obtain⟨F1,h1,h2⟩:=h;refine(Ud a h1.inv hG).mono ?_
 rintro e b ⟨rfl,ht⟩;exact⟨rfl,Tl.next2 h1 h2 ht⟩
theorem Tl.good[zg]{x t K:Nat}{S:List UInt8}{M:Gd.Vol}{F:Nat→Prop}{w a:World}{Ls:List (Nat×Obj)}(h:Tl x t S M 0 K F w a Ls):Gd.Good S M:=by
 obtain⟨F1,h1,_⟩:=h;exact h1.inv.good
theorem Tl.less[zg]{x t c K:Nat}{S:List UInt8}{M:Gd.Vol}{F:Nat→Prop}{w a:World}{Ls Ls':List (Nat×Obj)}(h:Tl x t S M c K F w a Ls)(hL:∀p∈Ls',p∈Ls):Tl x t S M c K F w a Ls':=by
 obtain⟨F1,h1,h2⟩:=h;exact⟨F1,h1,fun p hp=>h2 p (hL p hp)⟩
theorem QX[zg]{m sb lb ab n t g:Nat}{S:List UInt8}{w a:World}(hM:zB a m sb lb ab n S 0)(h1:w.heap.size≤m∧w.heap.size≤sb∧w.heap.size≤lb∧w.heap.size≤ab)(hg1:w.heap.size≤g)(hg:jm a g m 2688 4096)
 (ht1:w.heap.size≤t)(ht:a.heap[t]? =some (.cells #[.pointer (some ⟨m,0,none⟩),.pointer (some ⟨g,0,none⟩),.slice none 0 0] 115 (0,0)))(hmn:m=zg.no):j5 t S [] 0 a fun k=>w.heap.size≤k:=
 ⟨m,g,.slice none 0 0,⟨sb,lb,ab,n,hM,h1⟩,⟨ht,World.ownsRow_nil _ _ _ _⟩,hg,ht1,hg1,(fun q hq=>by cases hq),⟨(fun p hp=>by cases hp),(fun p hp=>by cases hp),Nat.zero_le _⟩,hmn⟩
theorem J2[zg]{x t:Nat}{S:List UInt8}{w a:World}(h:j5 t S [] 0 a fun k=>w.heap.size≤k∧k<x)(hx1:w.heap.size≤x)(hx:a.heap[x]? =some (.cells #[.pointer (some ⟨t,0,none⟩)] 129 (0,0)))(hS:S.length=23168)(he:Gd.part S 2688 8=Gd.le 0 8):jF x t S [] 0 0 a fun k=>w.heap.size≤k∧k<a.heap.size:=
 ⟨(j5.held t S [] 0).mono h fun k hk e=>⟨⟨e.1,hk⟩,by omega⟩,hx,⟨hx1,za hx⟩,hS,he,⟨Nat.le_refl 0,fun _ hp=>by cases hp⟩,fun k hk=>hk.2⟩
theorem QT:Gd.part (List.replicate 23168 0) 2688 8=Gd.le 0 8:=by
 unfold Gd.part;rw[List.drop_replicate,List.take_replicate];rfl
section
variable {x t c K f:Nat} {S:List UInt8} {M:Gd.Vol} {F:Nat→Prop} {w a:World} {Ls:List (Nat×Obj)} {s:Nat→List UInt8}
theorem Tl.fino[zg](h:Tl x t S M c K F w a Ls)(i:Int)(h1:1≤i)(h2:i≤32):Calls prog 17 #[.pointer (some ⟨x,0,none⟩),.int .i64 i] a fun e W=>e= .returned (.tuple #[zv (M.ino i.toNat),.int .i64 0])∧Below a.heap.size a W:=by
 obtain⟨F1,k1,k2⟩:=h;exact zZ i a k1.inv h1 h2
end
end
section
open Go.Shelf
attribute [local go_sem] Oper.semAt_some
theorem ZF{O:List Int}{k:Nat}{n:Int}(h:O[k]? =some n):(O.take (k+1)).sum=(O.take k).sum+n:=by
 rw[List.take_add_one,h,List.sum_append];simp
theorem Qy{O:List Int}(hO:∀n∈O,0≤n∧n≤8):∀k,0≤(O.take k).sum∧(O.take k).sum≤8*k
 |0=>by simp
 |k+1=>by
  have h1:=Qy hO k;by_cases hk:k<O.length
  ·have hg:O[k]? =some O[k]:=List.getElem?_eq_getElem hk;have h2:=hO _ (List.mem_of_getElem? hg);rw[ZF hg];omega
  ·rw[List.take_of_length_le (by omega)]at h1⊢;omega
theorem yJ(y:Gd.Ino)(hy:y.Shape)(hO:∀n∈y.O,0≤n∧n≤8)(w:World):
 Calls prog 45 #[zv y] w fun e w'=>e= .returned (.int .i64 y.O.sum)∧Below w.heap.size w w':=by
 obtain⟨hb0,hr0⟩:=zI w (zf y) 48;obtain⟨ib,hib⟩:=nm w.heap.size;obtain⟨w0,hw0⟩:=nm (w.alloc (.cells (zf y) 48));rw[←hw0,←hib]at hr0;rw[←hw0]at hb0;have HI0:Hid (zp w0 ib y):=hid ⟨hr0,hy⟩;have HL:Hid ((zY y.O).length=8):=hid (by rw[ju];exact hy.2);have HO:=hid hO;have HSh:=hid hy;have HB0:=hid hb0;have HW0:=hid hw0.symm;have Hib:=hid hib.symm;have HAll:Hid (y.O.take 8=y.O):=hid (List.take_of_length_le (by rw[hy.2];exact Nat.le_refl _));clear hy hO hb0 hr0 hib hw0;unfold zv at*;go_enter func45,ntmps45;go_upto_region 2 with fail
 rw[HW0.o,Hib.o];go_upto_region 3 with(refine wpList_load_mid rfl 40 _ rfl ib 7 rfl (zY y.O) _ HI0.o.opens underlying40 rfl (by rw[HL.o];exact size8) ?_)
 go_loopw[3,8] (fun u z wr=>∃k:Nat,z= .int .i64 k∧k≤8∧u= .int .i64 (y.O.take k).sum∧wr=w0) (fun _ z _=>8-(intOf z).toNat)
 case atStart=>exact⟨0,rfl,by omega,by simp,rfl⟩
 case round=>
  obtain⟨k,rfl,hk,rfl,hwr⟩:=hrel;subst hwr;by_cases hlt:k<8
  ·obtain⟨n,hn⟩:∃n,y.O[k]? =some n:=⟨_,List.getElem?_eq_getElem (by rw[HSh.o.2];omega)⟩;have hc:=jx 40 3 8 (zY y.O).toArray .i64 .i64 k _ wr underlying40 underlying3 infoInts hlt (by rw[List.getElem?_toArray];exact jy hn);have h8:(k:Int)<8:=by omega
   have HSt:=hid (ZF hn);have hnr:=HO.o n (List.mem_of_getElem? hn);have hsr:=Qy HO.o k;obtain⟨q,hq⟩:=nm ((y.O.take k).sum);rw[←hq]at HSt hsr⊢;obtain⟨hn0,hn8⟩:=hnr;obtain⟨hs0,hs8⟩:=hsr;have Hlt:=hid hlt;clear hn hq hlt;go_wp2_with fail
   go_roundw
   case rel=>exact⟨k+1,by go_num,by have:=Hlt.o;omega,by rw[HSt.o],trivial⟩
   case measure=>simp[intOf];have:=Hlt.o;omega
  ·obtain rfl:k=8:=by omega
   rw[HAll.o];clear hlt;go_wp2_with fail
   go_ret
   exact⟨rfl,HB0.o⟩
theorem yo:∀(L:List Int) (m:List UInt8),(L.foldl Gd.giveI m).length=m.length
 |[],_=>rfl
 |n::r,m=>by
  rw[List.foldl_cons,yo r];unfold Gd.giveI;split
  ·exact Gd.give_length _ _
  ·rfl
theorem X2{L:List Int}{k:Nat}{n:Int}(m:List UInt8)(h:L[k]? =some n):(L.take (k+1)).foldl Gd.giveI m=Gd.giveI ((L.take k).foldl Gd.giveI m) n:=by
 rw[List.take_add_one,h,List.foldl_append];rfl
theorem uK[zg]{x t c K:Nat}{S:List UInt8}{M:Gd.Vol}{F:Nat→Prop}(b o cp:Nat)(L:List Int)(w:World)(h:zy x t S M c K w F)(hc:c<64)(hL:L.length≤100)(hb:b<w.heap.size)(hA:∀(j:Nat) (n:Int),L[j]? =some n→w.cell? ⟨b,o+j,none⟩=some (.int .i64 n)):
 Calls prog 117 #[.pointer (some ⟨x,0,none⟩),.slice (some ⟨b,o,none⟩) L.length cp] w fun e w'=>e= .returned (.int .i64 0)∧zt x t S (M.setMap (L.foldl Gd.giveI M.map)) (c+1) K F w w':=by
 have hml:M.map.length=16:=by
  obtain⟨P,h,hG⟩:=h;exact hG.mapl
 have HMp:=hid (va w h);obtain⟨m,hmm⟩:=nm M.map;rw[←hmm]at hml HMp⊢;have HM:=hid h;have HAt:=hid hA;have Hb:=hid hb;have HC:=hid hc;obtain⟨l,hl⟩:=nm L.length;have Hl:=hid hl;rw[←hl]at hL⊢;have hl2:(l:Int)≤100:=by omega
 obtain⟨Z,hZ⟩:∃Z:Array Value,Z=#[.int .u8 0,.int .u8 0,.int .u8 0,.int .u8 0,.int .u8 0,.int .u8 0,.int .u8 0,.int .u8 0,.int .u8 0,.int .u8 0,.int .u8 0,.int .u8 0,.int .u8 0,.int .u8 0,.int .u8 0,.int .u8 0]:=⟨_,rfl⟩;have HZs:Hid (Z.size=16):=hid (by rw[hZ];rfl);have HZ:=hid hZ.symm;have HS:=hid (z6 hml);have HSk:Hid (∀k,(ze ((L.take k).foldl Gd.giveI m)).size=16):=hid fun k=>z6 (by rw[yo];exact hml);have HGv:Hid (∀k n W,Calls prog 160 #[jK ((L.take k).foldl Gd.giveI m),.int .i64 n] W fun e w'=>e= .returned (jK (Gd.giveI ((L.take k).foldl Gd.giveI m) n))∧Below W.heap.size W w'):=hid fun k n W=>Vj _ (by rw[yo];exact hml) n W
 have HSm:Hid (∀W,Below w.heap.size w W→Calls prog 73 #[.pointer (some ⟨x,0,none⟩),jK (L.foldl Gd.giveI m)] W fun e w'=>e= .returned (.int .i64 0)∧zt x t S (M.setMap (L.foldl Gd.giveI m)) (c+1) K F w w'):=hid fun W hW=>by
  refine(vl _ (by rw[yo];exact hml) W (HM.o.below hW) HC.o).mono ?_
  rintro e w' ⟨he,ht⟩;exact⟨he,ht.behind hW⟩
 have HAll:Hid (L.take l=L):=hid (by rw[hl,List.take_length]);unfold jK at*;clear h hmm hZ hl hml hA hb hc;go_enter func117,ntmps117;go_wp2_with fail
 refine HMp.o.mono ?_;rintro e w1 ⟨rfl,hb1⟩;obtain⟨hb2,hn2⟩:=zI w1 Z 35;obtain⟨w2,hw2⟩:=nm (w1.alloc (.cells Z 35));obtain⟨mb,hbe⟩:=nm w1.heap.size;rw[←hw2,←hbe]at hn2;rw[←hw2]at hb2;obtain⟨hb3,hn3⟩:=zC hn2 (vs:=(ze m).toList) (B:=mb) (by rw[HZs.o,Array.length_toList,HS.o]) (Nat.le_refl mb);obtain⟨w3,hw3⟩:=nm (w2.setCells mb 0 (ze m).toList);rw[←hw3]at hb3 hn3;have HN2:=hid hn2;have HN3:Hid (w3.heap[mb]? =some (.cells (ze m) 35 (0,0))):=hid hn3;have HB3:Hid (Below w.heap.size w w3):=hid (by
  have h1:=hb1.size;have h2:=hb2.size;have h3:w1.heap.size≤mb:=by omega
  exact(hb1.trans (hb2.mono h1)).trans (hb3.mono (by omega)))
 have Hmb:Hid (w.heap.size≤mb):=hid (by rw[hbe];exact hb1.size);have Hbe:=hid hbe.symm;have HW2:=hid hw2.symm;have HW3:=hid hw3.symm;rw[←HZ.o]at HW2;clear hb1 hb2 hn2 hw2 hbe hb3 hn3 hw3 HMp;go_upto_region 3 with(refine wpList_store_mid rfl 35 _ _ rfl mb 0 (ze m) (by rw[←Hbe.o];rfl) rfl (by rw[HW2.o];exact zd HN2.o (by rw[HZs.o,HS.o])) (by rw[HS.o];exact sizeMap) (je _) ?_;rw[HW2.o,HW3.o])
 rw[Hbe.o];go_loopw[12] (fun z wr=>∃k:Nat,z= .int .i64 k∧k≤l∧Hid (wr.heap[mb]? =some (.cells (ze ((L.take k).foldl Gd.giveI m)) 35 (0,0)))∧Hid (Below w.heap.size w wr)) (fun z _=>l-(intOf z).toNat)
 case atStart=>exact⟨0,rfl,by omega,HN3,HB3⟩
 case round=>
  obtain⟨k,rfl,hk,HN,HB⟩:=hrel;by_cases hlt:k<l
  ·obtain⟨n,hn⟩:∃n,L[k]? =some n:=⟨_,List.getElem?_eq_getElem (by rw[←Hl.o];exact hlt)⟩;have c0:wr.cell? ⟨b,o+k,none⟩=some (.int .i64 n):=(HB.o.cell (p:=⟨b,o+k,none⟩) Hb.o).trans (HAt.o k n hn);have h1:(k:Int)<l:=by omega
   have h0:(0:Int)≤k:=by omega
   have HSt:=hid (X2 m hn);have Hlt:=hid hlt;have HSz:=hid (HSk.o k);have HSz1:=hid (HSk.o (k+1));have HGc:=hid (HGv.o k n wr);rw[←HSt.o]at HGc;clear hn hlt;go_wp2_with(refine wpList_load_row rfl 35 _ rfl mb rfl 35 (ze ((L.take k).foldl Gd.giveI m)) (0,0) _ HN.o underlying35 rfl (by rw[HSz.o];exact sizeMap) ?_)
   refine HGc.o.mono ?_;rintro e w4 ⟨rfl,hb4⟩;have HN4:=hid ((hb4.block mb (za HN.o)).trans HN.o);have HB4:=HB.t hb4;clear hb4 c0 HGc;go_wp2_with(refine wpList_store_mid rfl 35 _ _ rfl mb 0 (ze ((L.take (k+1)).foldl Gd.giveI m)) rfl rfl (zd HN4.o (by rw[HSz.o,HSz1.o])) (by rw[HSz1.o];exact sizeMap) (je _) ?_;obtain⟨hbw,hbg⟩:=zC HN4.o (vs:=(ze ((L.take (k+1)).foldl Gd.giveI m)).toList) (B:=mb) (by rw[HSz.o,Array.length_toList,HSz1.o]) (Nat.le_refl mb);generalize (World.setCells _ _ _ _)=w5 at hbw hbg⊢)
   have HN5:Hid (w5.heap[mb]? =some (.cells (ze ((L.take (k+1)).foldl Gd.giveI m)) 35 (0,0))):=hid hbg;have HB5:=hid (HB4.o.trans (hbw.mono Hmb.o));clear hbw hbg;go_roundw
   case rel=>exact⟨k+1,by go_num,by have:=Hlt.o;omega,HN5,HB5⟩
   case measure=>simp[intOf];have:=Hlt.o;omega
  ·obtain rfl:k=l:=by omega
   rw[HAll.o]at HN;have HSz:=hid (HSk.o k);rw[HAll.o]at HSz;have HSc:=hid (HSm.o wr HB.o);clear hlt;go_wp2_with(refine wpList_load_row rfl 35 _ rfl mb rfl 35 (ze (L.foldl Gd.giveI m)) (0,0) _ HN.o underlying35 rfl (by rw[HSz.o];exact sizeMap) ?_)
   refine HSc.o.mono ?_;rintro e w4 ⟨rfl,ht⟩;go_wp2;go_ret
   exact⟨rfl,ht⟩
end
end Go.Proofs.YtjlpkbhgphjpeaaGreatDoor
