/- Metadata over any bytes: a directory has another table. -/
import Derived.Test.YtckoobkjpndgnaaGreatDoorW30
set_option linter.unusedVariables false
set_option linter.unusedSimpArgs false
set_option linter.unusedSectionVars false
set_option maxHeartbeats 8000000
set_option maxRecDepth 100000
namespace Go.Proofs.YtckoobkjpndgnaaGreatDoor
open Go.RowKit
open Lib(hid)
open Go.Proofs.Tryz
section
open Go.Shelf
attribute [local go_sem] Oper.semAt_some
theorem small_i64{n:Int}(h: -1000000≤n∧n≤1000000):I64 n:=WalkArith.wf_i64 (by omega)
theorem allI_setB{x0:Gd.Ino}(h:AllI (inoL x0))(k:Nat){n:Int}(hn:0≤n∧n≤128):AllI (inoL (x0.setB k n)):=fun z hz=>by
 simp only[inoL,Gd.Ino.setB,List.mem_cons,List.mem_append]at hz;rcases hz with hz|hz|hz|hz|hz
 ·exact h z (by simp[inoL,hz])
 ·exact h z (by simp[inoL,hz])
 ·exact h z (by simp[inoL,hz])
 ·rcases List.mem_or_eq_of_mem_set hz with hz|rfl
  ·exact h z (by simp[inoL,hz])
  ·exact small_i64 (by omega)
 ·exact h z (by simp[inoL,hz])
theorem setB_at{x0:Gd.Ino}(h:x0.Shape){k:Nat}(hk:k<4)(n:Int):(x0.setB k n).B[k]? =some n:=by
 show(x0.B.set k n)[k]? =some n
 rw[List.getElem?_set_self (by rw[h.1];exact hk)]
theorem allI_setS{x0:Gd.Ino}(h:AllI (inoL x0)){n:Int}(hn: -1000≤n∧n≤10000):AllI (inoL (x0.setS n)):=fun z hz=>by
 simp only[inoL,Gd.Ino.setS,List.mem_cons,List.mem_append]at hz;rcases hz with hz|hz|hz|hz|hz
 ·exact h z (by simp[inoL,hz])
 ·exact h z (by simp[inoL,hz])
 ·rw[hz];exact small_i64 (by omega)
 ·exact h z (by simp[inoL,hz])
 ·exact h z (by simp[inoL,hz])
theorem small_size{y:Gd.Ino}(h:Gd.mayI y=true):0≤y.s∧y.s≤1000:=by have:=Gd.mayI_in h;have h1:=this.s;omega
theorem change_t[MemNo]{x t K:Nat}{S:List UInt8}{F:Nat→Prop}(d:Int)(a:Nat)(T:Gd.Tab)(more spare:Int)(hmo: -1≤more∧more≤1)(ha:a<16)(hT:Gd.TabOk T)(w:World)(h:MT x t S K w F):
 Calls prog 121 #[.pointer (some ⟨x,0,none⟩),.int .i64 d,.int .i64 a,tabV T,.int .i64 more,.int .i64 spare] w (ErR x t S K F w):=by
 obtain⟨k,hk⟩:=nm (a/4);have hq:=quo4 a;rw[←hk]at hq;have hk4:k<4:=by omega
 have HTs:=hid (tabC_size hT.len);obtain⟨hb0,hr0⟩:=below_new w (tabC T) 141;obtain⟨tb,htb⟩:=nm w.heap.size;obtain⟨w0,hw0⟩:=nm (w.alloc (.cells (tabC T) 141));rw[←hw0,←htb]at hr0;rw[←hw0]at hb0;have HL0:=hid ((Tq.start h).new hb0 (k:=tb) (by omega) hr0);have HIn:=hid (inode_t d w0 (h.below hb0));have HUs:=hid fun W=>tused_any T hT.len k hk4 W;obtain⟨us,hus⟩:=nm (Gd.usedT T k);rw[←hus]at HUs;have HTb:=hid fun W=>tblock_any T hT k hk4 W;have HBl:=hid (Gd.blkT_len hT hk4);have Htb:=hid htb.symm;have HW0:=hid hw0.symm;have g4:(k:Int)<4:=by omega
 have g0:(0:Int)≤k:=by omega
 have ga:(0:Int)≤a:=by omega
 have Hq:=hid hq;have Hk4:=hid hk4;have Hmo:=hid hmo;clear hk hq htb hw0 hr0 hb0 h hT hus hk4 hmo;unfold inoV tabV at*;go_enter func121,ntmps121;go_upto_region 1 with fail
 rw[HW0.o,Htb.o];go_upto_region 2 with(first|(go_at_call 24;refine HIn.o.mono ?_;rintro e w2 ⟨x0,E,hy,rfl,hb2⟩;have HX:=hid hy;have HS:Hid ((inoC x0).size=15):=hid (inoC_size hy.1);clear hy;have HL2:=hid (HL0.o.below hb2);clear hb2)|(rw[←zIno_lit];refine wpList_store_mid rfl 72 _ _ rfl w2.heap.size 0 (inoC x0) rfl rfl (there_at (heap_alloc_new _ _) (by rw[zIno_size,HS.o])) (by rw[HS.o];exact sizeIno) (inoC_one _) ?_;obtain⟨hbw,hbg⟩:=new_whole2 w2 zIno 72 (inoC x0).toList (by rw[zIno_size,Array.length_toList,HS.o]);generalize (World.setCells _ _ _ _)=w3 at hbw hbg⊢;have HL3:=hid (HL2.o.new hbw (Nat.le_refl _) (o:= .cells (inoC x0) 72 (0,0)) hbg);clear hbw hbg))
 obtain⟨ib,hib⟩:=nm w2.heap.size;rw[←hib]at HL3⊢;have htib:Hid (ib≠tb):=hid (by
  have:=lt_get (HL2.o.get (k:=tb) (o:= .cells (tabC T) 141 (0,0)) (by simp))
  omega)
 clear hib;by_cases hE:E=0
 rotate_left
 ·have hE2:(E !=0)=true:=by rw[bne_iff_ne];exact hE
  clear hE;go_wp2_with fail
  go_ret
  exact⟨_,rfl,HL3.o.turns⟩
 subst hE;have HTr3:=hid (HL3.o.get (k:=tb) (o:= .cells (tabC T) 141 (0,0)) (by simp));have HSet:Hid (∀(W:World) (z:Gd.Ino) (n:Int),z.Shape→Tq x t S K F w W [(ib,.cells (inoC z) 72 (0,0)),(tb,.cells (tabC T) 141 (0,0))]→Tq x t S K F w (W.setCell ⟨ib,3+k,none⟩ (.int .i64 n)) [(ib,.cells (inoC (z.setB k n)) 72 (0,0)),(tb,.cells (tabC T) 141 (0,0))]):=hid fun W z n hz hW=>by
  refine hW.set (k:=ib) (C:=inoC z) (ty:=72) (by simp) _ fun p hp=> ?_;rw[show(inoC z).setIfInBounds (3+k) (.int .i64 n)=inoC (z.setB k n) from inoC_set (inoL_setB hz Hk4.o n)];simp only[List.mem_cons,List.mem_nil_iff,or_false]at hp;rcases hp with rfl|rfl
  ·exact Or.inl rfl
  ·exact Or.inr ⟨by simp,fun e=>htib.o e.symm⟩
 obtain⟨n0,hn0⟩:∃n,x0.B[k]? =some n:=⟨_,List.getElem?_eq_getElem (by rw[HX.o.1.1];exact Hk4.o)⟩;have HN0:=hid hn0;have HN0r:=hid (small_blocks HX.o.2.1 n0 (List.mem_of_getElem? hn0));have HA0:=hid (ino_all HX.o.2.1);have HZ0:=hid (small_size HX.o.2.1);clear hn0;go_upto_block 0 with fail
 rw[Hq.o];go_cut[14] from 30 to 59 (fun z wx=>∃(ec:Int) (x1:Gd.Ino) (n:Int),z= .int .i64 ec∧Hid (x1.Shape∧x1.B[k]? =some n∧(0≤n∧n≤128)∧AllI (inoL x1)∧(0≤x1.s∧x1.s≤1000))∧Hid (Tq x t S K F w wx [(ib,.cells (inoC x1) 72 (0,0)),(tb,.cells (tabC T) 141 (0,0))]))
 case first=>
  cases us with
  |false=>
   go_upto_region 6 with(first|(refine wpList_load_row rfl 141 _ rfl tb rfl 141 (tabC T) (0,0) _ HTr3.o underlying141 rfl (by rw[HTs.o];exact sizeTab) ?_)|(go_at_call 150;refine(HUs.o w3).mono ?_;rintro e w4 ⟨rfl,hb4⟩;have HL4:=hid (HL3.o.below hb4);clear hb4))
   have hI4:InoAt w4 ib x0:=⟨HL4.o.get (k:=ib) (by simp),HX.o.1⟩;obtain⟨b0,-⟩:=hI4.cB HN0.o;obtain⟨w5,hw5⟩:=nm (w4.alloc (.cells #[.int .i64 n0] 3));obtain⟨gb,hgb⟩:=nm w4.heap.size;have hl5:Tq x t S K F w w5 [(gb,.cells #[.int .i64 n0] 3 (0,0)),(ib,.cells (inoC x0) 72 (0,0)),(tb,.cells (tabC T) 141 (0,0))]:=by
    rw[hw5,hgb];exact HL4.o.new ((Below.refl _ _).alloc (Nat.le_refl _) _) (Nat.le_refl _) (heap_alloc_new _ _)
   have hgr:=hl5.get (k:=gb) (o:= .cells #[.int .i64 n0] 3 (0,0)) (by simp);obtain⟨F5,h5,h5t,h5n⟩:=hl5.open;have HGc:=hid ((give_t gb 0 1 [n0] w5 h5 (by show 1≤100;omega) (lt_get hgr) (fun j m hj=>by
    match j,hj with
    |0,hj=>
     cases hj
     exact cell_of_row w5 gb 0 _ _ _ hgr)).mono fun e w' ⟨er,he,ht⟩=>(⟨er,he,(h5n w' ht).less (by simp)⟩:ErQ x t S K F w [(ib,.cells (inoC x0) 72 (0,0)),(tb,.cells (tabC T) 141 (0,0))] e w'))
   have HW5:=hid hw5.symm;have Hgb:=hid hgb.symm;clear hI4 hw5 hgb hgr h5 h5t h5n hl5;go_upto_region 7 with(first|(rw[HW5.o,Hgb.o];go_at_call 64;refine HGc.o.mono ?_;rintro e w6 ⟨eg,rfl,hl6⟩;have HL6:=hid hl6;clear hl6)|(go_at_call 64;rw[HW5.o,Hgb.o];refine HGc.o.mono ?_;rintro e w6 ⟨eg,rfl,hl6⟩;have HL6:=hid hl6;clear hl6))
   clear b0;have hI6:InoAt w6 ib x0:=⟨HL6.o.get (k:=ib) (by simp),HX.o.1⟩;obtain⟨b0,f0⟩:=hI6.cB HN0.o;clear hI6;go_wp2_with fail
   go_meet
   exact⟨eg,x0.setB k 0,0,rfl,hid ⟨Gd.Ino.setB_shape HX.o.1 k 0,setB_at HX.o.1 Hk4.o 0,by omega,allI_setB HA0.o k (by omega),HZ0.o⟩,hid (HSet.o w6 x0 0 HX.o.1 HL6.o)⟩
  |true=>
   go_upto_region 8 with(first|(refine wpList_load_row rfl 141 _ rfl tb rfl 141 (tabC T) (0,0) _ HTr3.o underlying141 rfl (by rw[HTs.o];exact sizeTab) ?_)|(go_at_call 150;refine(HUs.o w3).mono ?_;rintro e w4 ⟨rfl,hb4⟩;have HL4:=hid (HL3.o.below hb4);clear hb4))
   have hI4:InoAt w4 ib x0:=⟨HL4.o.get (k:=ib) (by simp),HX.o.1⟩;obtain⟨b0,-⟩:=hI4.cB HN0.o;clear hI4;by_cases hn:n0=0
   rotate_left
   ·have Hn:=hid hn;go_wp2_with fail
    go_meet
    exact⟨0,x0,n0,rfl,hid ⟨HX.o.1,HN0.o,HN0r.o,HA0.o,HZ0.o⟩,HL4⟩
   ·rw[hn]at b0;have Hn:=hid hn;clear hn;go_upto_region 9 with fail
    obtain⟨F4,h4,h4t,h4n⟩:=HL4.o.open;have HBc:=hid ((block_t spare w4 h4).mono fun e w' ⟨n,er,hn,he,ht⟩=>(⟨n,er,hn,he,h4n w' ht⟩:BlQ x t S K F w [(ib,.cells (inoC x0) 72 (0,0)),(tb,.cells (tabC T) 141 (0,0))] e w'));clear h4 h4t h4n b0;go_wp2_with fail
    refine HBc.o.mono ?_;rintro e w5 ⟨n,er,hnr,rfl,hl5⟩;have HL5:=hid hl5;have Hnr:=hid hnr;clear hl5 hnr HBc;have hI5:InoAt w5 ib x0:=⟨HL5.o.get (k:=ib) (by simp),HX.o.1⟩;obtain⟨b0,f0⟩:=hI5.cB HN0.o;clear hI5;go_wp2_with fail
    go_meet
    exact⟨er,x0.setB k n,n,rfl,hid ⟨Gd.Ino.setB_shape HX.o.1 k n,setB_at HX.o.1 Hk4.o n,Hnr.o,allI_setB HA0.o k Hnr.o,HZ0.o⟩,hid (HSet.o w5 x0 n HX.o.1 HL5.o)⟩
 case rest=>
  obtain⟨ec,x1,n,hz,hx1,hq1⟩:=hcut;subst hz;have HX1:=hid hx1.o;have HQ1:=hid hq1.o;clear hx1 hq1;by_cases he:ec=0
  rotate_left
  ·have he2:(ec !=0)=true:=by rw[bne_iff_ne];exact he
   clear he;go_wp2_with fail
   go_ret
   exact⟨_,rfl,HQ1.o.turns⟩
  subst he;have HSx:=hid (inoC_size HX1.o.1);go_upto_if 61 with fail
  iterate 5 go_step
  go_cut[14] from 63 to 85 (fun z wx=>z= .int .i64 0∧Hid (Tq x t S K F w wx [(ib,.cells (inoC x1) 72 (0,0)),(tb,.cells (tabC T) 141 (0,0))]))
  case first=>
   have hI6:InoAt wc ib x1:=⟨HQ1.o.get (k:=ib) (by simp),HX1.o.1⟩;obtain⟨b0,-⟩:=hI6.cB HX1.o.2.1;clear hI6;by_cases hn:n=0
   ·rw[hn]at b0;go_wp2_with fail
    go_meet
    exact⟨rfl,HQ1⟩
   obtain⟨nn,hnn⟩:∃nn:Nat,n=nn:=⟨n.toNat,by have:=HX1.o.2.2.1;omega⟩;subst hnn;have Hnn:Hid (1≤nn∧nn≤128):=hid (by have:=HX1.o.2.2.1;omega);have HTr6:=hid (HQ1.o.get (k:=tb) (o:= .cells (tabC T) 141 (0,0)) (by simp));have gn:¬(nn:Int)=0:=hn;clear hn;go_upto_region 14 with(first|(refine wpList_load_row rfl 141 _ rfl tb rfl 141 (tabC T) (0,0) _ HTr6.o underlying141 rfl (by rw[HTs.o];exact sizeTab) ?_)|(go_at_call 152;refine(HTb.o wc).mono ?_;rintro e w7 ⟨v7,rfl,ho7,hb7⟩))
   have HL7:=hid (HQ1.o.below hb7);obtain⟨F7,h7,h7t,h7n⟩:=HQ1.o.open;have HSc:=hid ((store_t 7 nn v7 (Gd.blkT T k) w7 (h7.below hb7) ho7.at_ (by rw[HBl.o];exact Nat.le_refl _) (fun p hp=>by rw[Gd.ptAt_block Hnn.o.1 Hnn.o.2]at hp;cases hp;rw[HBl.o];exact Nat.le_refl _) (fun q hq e=>by
    have h3:=(own_block ho7 q hq).1;have h4:=h7t q e;omega)).mono fun e w' ⟨er,he,ht⟩=>(⟨er,he,h7n w' (Tu.behind hb7 ht)⟩:ErQ x t S K F w [(ib,.cells (inoC x1) 72 (0,0)),(tb,.cells (tabC T) 141 (0,0))] e w'))
   clear ho7 hb7 b0 h7 h7t h7n;have hI7:InoAt w7 ib x1:=⟨HL7.o.get (k:=ib) (by simp),HX1.o.1⟩;obtain⟨b0,-⟩:=hI7.cB HX1.o.2.1;clear hI7;go_upto_region 17 with(go_at_call 41;refine HSc.o.mono ?_;rintro e w8 ⟨er,rfl,hl8⟩;have HL8:=hid hl8;clear hl8)
   by_cases he:er=0
   ·subst he;go_wp2_with fail
    go_meet
    exact⟨rfl,HL8⟩
   ·have he2:(er !=0)=true:=by rw[bne_iff_ne];exact he
    clear he;go_wp2_with fail
    go_ret
    exact⟨_,rfl,HL8.o.turns⟩
  case rest=>
   obtain⟨hz,hq2⟩:=hcut;subst hz;have HQ2:=hid hq2.o;clear hq2;obtain⟨xs,hxs⟩:=nm x1.s;have Hxs:=hid hxs;have hxr:0≤xs∧xs≤1000:=by rw[hxs];exact HX1.o.2.2.2.2
   have hI8:InoAt wc ib x1:=⟨HQ2.o.get (k:=ib) (by simp),HX1.o.1⟩;have b2:=hI8.c2;rw[←hxs]at b2;have f2:=hI8.f 2;clear hI8;obtain⟨sm,hsm⟩:=nm (xs+more);have hwr:IntKind.i64.wrap (xs+more)=sm:=by have:=Hmo.o;rw[hsm,IntKind.wrap_i64];omega
   have Hsm:Hid (-1000≤sm∧sm≤10000):=hid (by have:=Hmo.o;omega);obtain⟨y,hy⟩:=nm (x1.setS sm);have hyS:y.Shape:=by rw[hy];exact Gd.Ino.setS_shape HX1.o.1 _
   have HSy:=hid (inoC_size hyS);have HyS:=hid hyS;have HyA:Hid (AllI (inoL y)):=hid (by rw[hy];exact allI_setS HX1.o.2.2.2.1 Hsm.o);have hl9:Tq x t S K F w (wc.setCell ⟨ib,2,none⟩ (.int .i64 sm)) [(ib,.cells (inoC y) 72 (0,0)),(tb,.cells (tabC T) 141 (0,0))]:=by
    refine HQ2.o.set (k:=ib) (C:=inoC x1) (ty:=72) (by simp) _ fun p hp=> ?_;rw[show(inoC x1).setIfInBounds 2 (.int .i64 sm)=inoC y by rw[hy];exact inoC_set (inoL_setS x1 _)];simp only[List.mem_cons,List.mem_nil_iff,or_false]at hp;rcases hp with rfl|rfl
    ·exact Or.inl rfl
    ·exact Or.inr ⟨by simp,fun e=>htib.o e.symm⟩
   obtain⟨w9,hw9⟩:=nm (wc.setCell ⟨ib,2,none⟩ (.int .i64 sm));rw[←hw9]at hl9;have HL9:=hid hl9;have HW9:=hid hw9.symm;clear hl9 hw9 hsm hy hyS hxs hxr;go_upto_region 20 with fail
   rw[HW9.o];have HIr:=hid (HL9.o.get (k:=ib) (o:= .cells (inoC y) 72 (0,0)) (by simp));obtain⟨F9,h9,h9t,h9n⟩:=HL9.o.open;have HSc9:=hid ((setino_t d y HyS.o HyA.o w9 h9).mono fun e w' ⟨er,he,ht⟩=>(⟨er,he,h9n w' ht⟩:ErQ x t S K F w [(ib,.cells (inoC y) 72 (0,0)),(tb,.cells (tabC T) 141 (0,0))] e w'));unfold inoV at HSc9;clear h9 h9t h9n b2 f2;go_upto_region 21 with(first|(refine wpList_load_row rfl 72 _ rfl ib rfl 72 (inoC y) (0,0) _ HIr.o underlying72 rfl (by rw[HSy.o];exact sizeIno) ?_)|(go_at_call 44;refine HSc9.o.mono ?_;rintro e w10 ⟨er,rfl,hl10⟩;have HL10:=hid hl10;clear hl10))
   all_goals go_wp2
   all_goals go_ret
   all_goals exact⟨_,rfl,HL10.o.turns⟩
end
section
open Go.Shelf
attribute [local go_sem] Oper.semAt_some
def FindR(w:World)(e:Ending)(w':World):Prop:=∃n E:Int,(E=0→0≤n∧n≤32)∧e= .returned (.tuple #[.int .i64 n,.int .i64 E])∧Below w.heap.size w w'
theorem put_t[MemNo]{x t K:Nat}{S:List UInt8}{F:Nat→Prop}(d:Int)(s:List UInt8)(i:Nat)(spare:Int)(hs:Np.nameB s=true)(hi:1≤i∧i≤32)(w:World)(h:MT x t S K w F):
 Calls prog 75 #[.pointer (some ⟨x,0,none⟩),.int .i64 d,.string ⟨s.toArray⟩,.int .i64 i,.int .i64 spare] w (ErR x t S K F w):=by
 have HTb:=hid (tableI_t d w h);have Hh:=hid h;have hsl:s≠[]∧s.length≤1000:=⟨Np.name_ne hs,by have:=nameB_len hs;omega⟩;have HFd:=hid fun(T:Gd.Tab) (hT:Gd.TabOk T) W=>tplace_any T hT ⟨s.toArray⟩ (by rw[Lib.size_eq];show s.length≤_;omega) (Gd.hN s) rfl W;have HMay:Hid (Gd.Ent.May ⟨s,i⟩):=hid (Or.inr ⟨hs,hi.1,hi.2⟩);have HSt:=hid fun(T:Gd.Tab) (hT:Gd.TabOk T) (j:Fin 16) W=>tset_any T hT.len j.val j.isLt ⟨s,i⟩ W;have HCh:=hid fun(T:Gd.Tab) (hT:Gd.TabOk T) (j:Fin 16) W (hW:Below w.heap.size w W)=>(change_t d j.val (Gd.setT T j.val ⟨s,i⟩) (1) spare (by omega) j.isLt (hT.set HMay.o) W (h.below hW)).mono fun e w' (h:ErR x t S K F W e w')=>ErR.behind hW h;obtain⟨sb,hsb⟩:∃sb:ByteArray,sb=⟨s.toArray⟩:=⟨_,rfl⟩;rw[←hsb]at HFd⊢;unfold entV at HSt
 (try dsimp only at HSt);rw[←hsb]at HSt
 clear h hs hsl hsb;go_enter func75,ntmps75;go_upto_region 2 with(first|(go_at_call 70;refine HTb.o.mono ?_;rintro e w2 ⟨T,E,hok,rfl,hb2⟩;unfold tabV;have HOk:=hid hok;have HTs:=hid (tabC_size hok.len);clear hok;have HB2:=hid hb2;clear hb2)|(rw[←zTab];refine wpList_store_mid rfl 141 _ _ rfl w2.heap.size 0 (tabC T) rfl rfl (there_at (heap_alloc_new _ _) (by rw[noTab_size,HTs.o])) (by rw[HTs.o];exact sizeTab) (tabC_one _) ?_;obtain⟨hbw,hbg⟩:=new_whole2 w2 (tabC Gd.noTab) 141 (tabC T).toList (by rw[noTab_size,Array.length_toList,HTs.o]);generalize (World.setCells _ _ _ _)=w3 at hbw hbg⊢;have HN3:Hid (w3.heap[w2.heap.size]? =some (.cells (tabC T) 141 (0,0))):=hid hbg;have HB3:=HB2.t hbw;clear hbw hbg))
 by_cases hE:E=0
 rotate_left
 ·have hE2:(E !=0)=true:=by rw[bne_iff_ne];exact hE
  have HE:=hid hE;clear hE;go_wp2_with fail
  go_ret
  exact⟨_,rfl,Tu.of Hh.o HB3.o⟩
 subst hE;obtain⟨f,hf⟩:=nm (Gd.placeT T (Gd.hN s));have HFc:=hid (HFd.o T HOk.o w3);rw[←hf]at HFc;unfold tabV at HFc;clear hf HFd HTb;go_upto_region 5 with(first|(refine wpList_load_row rfl 141 _ rfl w2.heap.size rfl 141 (tabC T) (0,0) _ HN3.o underlying141 rfl (by rw[HTs.o];exact sizeTab) ?_)|(go_at_call 120;refine HFc.o.mono ?_;rintro e w4 ⟨rfl,hb4⟩;have HB4:=HB3.t hb4;have HN4:=HN3.r hb4;clear hb4))
 cases f with
 |none=>
  have hn1:numO none= -1:=rfl;rw[hn1];go_wp2;go_ret
  exact⟨_,rfl,Tu.of Hh.o HB4.o⟩
 |some j=>
  have HSs:=hid (HSt.o T HOk.o j);have HCs:=hid (HCh.o T HOk.o j);obtain⟨T2,hT2⟩:=nm (Gd.setT T j.val ⟨s,i⟩);rw[←hT2]at HSs HCs;obtain⟨k,hk⟩:=nm j.val;have hnk:numO (some j)=(k:Int):=by rw[hk];rfl
  have hk16:(k:Int)<16:=by have:=j.isLt;omega
  have hk0:(0:Int)≤k:=by omega
  rw[←hk]at HSs HCs;rw[hnk];unfold tabV at HSs HCs;clear hT2 hk hnk HSt HCh;go_wp2_with(first|(refine wpList_load_row rfl 141 _ rfl w2.heap.size rfl 141 (tabC T) (0,0) _ HN4.o underlying141 rfl (by rw[HTs.o];exact sizeTab) ?_)|(go_at_call 122;refine(HSs.o w4).mono ?_;rintro e w5 ⟨rfl,hb5⟩;have HCc:=hid (HCs.o w5 (HB4.o.trans (hb5.mono HB4.o.size)));clear hb5)|(go_at_call 121;refine HCc.o.mono ?_;rintro e w6 ⟨er,rfl,ht6⟩))
  go_ret
  exact⟨er,rfl,ht6⟩
theorem take_t[MemNo]{x t K:Nat}{S:List UInt8}{F:Nat→Prop}(d:Int)(s:List UInt8)(hs:Np.nameB s=true)(w:World)(h:MT x t S K w F):
 Calls prog 79 #[.pointer (some ⟨x,0,none⟩),.int .i64 d,.string ⟨s.toArray⟩] w (ErR x t S K F w):=by
 have HTb:=hid (tableI_t d w h);have Hh:=hid h;have hsl:s≠[]∧s.length≤1000:=⟨Np.name_ne hs,by have:=nameB_len hs;omega⟩;have HFd:=hid fun(T:Gd.Tab) (hT:Gd.TabOk T) W=>tfind_any T hT.len ⟨s.toArray⟩ (by rw[Lib.size_eq];show s.length≤_;omega) hsl.1 (Gd.hN s) rfl W;have HMay:Hid (Gd.Ent.May Gd.noEnt):=hid (Or.inl rfl);have HSt:=hid fun(T:Gd.Tab) (hT:Gd.TabOk T) (j:Fin 16) W=>tset_any T hT.len j.val j.isLt Gd.noEnt W;have HCh:=hid fun(T:Gd.Tab) (hT:Gd.TabOk T) (j:Fin 16) W (hW:Below w.heap.size w W)=>(change_t d j.val (Gd.setT T j.val Gd.noEnt) (-1) 0 (by omega) j.isLt (hT.set HMay.o) W (h.below hW)).mono fun e w' (h:ErR x t S K F W e w')=>ErR.behind hW h;rw[show(⟨s.toArray⟩:ByteArray).data.toList=s from rfl]at HFd;obtain⟨sb,hsb⟩:∃sb:ByteArray,sb=⟨s.toArray⟩:=⟨_,rfl⟩;rw[←hsb]at HFd⊢;unfold entV at HSt
 (try dsimp only at HSt)
 clear h hs hsl hsb;go_enter func79,ntmps79;go_upto_region 2 with(first|(go_at_call 70;refine HTb.o.mono ?_;rintro e w2 ⟨T,E,hok,rfl,hb2⟩;unfold tabV;have HOk:=hid hok;have HTs:=hid (tabC_size hok.len);clear hok;have HB2:=hid hb2;clear hb2)|(rw[←zTab];refine wpList_store_mid rfl 141 _ _ rfl w2.heap.size 0 (tabC T) rfl rfl (there_at (heap_alloc_new _ _) (by rw[noTab_size,HTs.o])) (by rw[HTs.o];exact sizeTab) (tabC_one _) ?_;obtain⟨hbw,hbg⟩:=new_whole2 w2 (tabC Gd.noTab) 141 (tabC T).toList (by rw[noTab_size,Array.length_toList,HTs.o]);generalize (World.setCells _ _ _ _)=w3 at hbw hbg⊢;have HN3:Hid (w3.heap[w2.heap.size]? =some (.cells (tabC T) 141 (0,0))):=hid hbg;have HB3:=HB2.t hbw;clear hbw hbg))
 by_cases hE:E=0
 rotate_left
 ·have hE2:(E !=0)=true:=by rw[bne_iff_ne];exact hE
  have HE:=hid hE;clear hE;go_wp2_with fail
  go_ret
  exact⟨_,rfl,Tu.of Hh.o HB3.o⟩
 subst hE;obtain⟨f,hf⟩:=nm (Gd.findT T s (Gd.hN s));have HFc:=hid (HFd.o T HOk.o w3);rw[←hf]at HFc;unfold tabV at HFc;clear hf HFd HTb;go_upto_region 5 with(first|(refine wpList_load_row rfl 141 _ rfl w2.heap.size rfl 141 (tabC T) (0,0) _ HN3.o underlying141 rfl (by rw[HTs.o];exact sizeTab) ?_)|(go_at_call 116;refine HFc.o.mono ?_;rintro e w4 ⟨rfl,hb4⟩;have HB4:=HB3.t hb4;have HN4:=HN3.r hb4;clear hb4))
 cases f with
 |none=>
  have hn1:numO none= -1:=rfl;rw[hn1];go_wp2;go_ret
  exact⟨_,rfl,Tu.of Hh.o HB4.o⟩
 |some j=>
  have HSs:=hid (HSt.o T HOk.o j);have HCs:=hid (HCh.o T HOk.o j);obtain⟨T2,hT2⟩:=nm (Gd.setT T j.val Gd.noEnt);rw[←hT2]at HSs HCs;obtain⟨k,hk⟩:=nm j.val;have hnk:numO (some j)=(k:Int):=by rw[hk];rfl
  have hk16:(k:Int)<16:=by have:=j.isLt;omega
  have hk0:(0:Int)≤k:=by omega
  rw[←hk]at HSs HCs;rw[hnk];unfold tabV at HSs HCs;have HSs2:Hid (∀W,Calls prog 122 #[.agg (tabC T),.int .i64 k,.agg #[.string ⟨#[]⟩,.int .i64 0]] W fun x w'=>x= .returned (.agg (tabC T2))∧Below W.heap.size W w'):=hid fun W=>HSs.o W;clear hT2 hk hnk HSt HCh;go_wp2_with(first|(refine wpList_load_row rfl 141 _ rfl w2.heap.size rfl 141 (tabC T) (0,0) _ HN4.o underlying141 rfl (by rw[HTs.o];exact sizeTab) ?_)|(go_at_call 122;refine(HSs2.o w4).mono ?_;rintro e w5 ⟨rfl,hb5⟩;have HCc:=hid (HCs.o w5 (HB4.o.trans (hb5.mono HB4.o.size)));clear hb5)|(go_at_call 121;refine HCc.o.mono ?_;rintro e w6 ⟨er,rfl,ht6⟩))
  go_ret
  exact⟨er,rfl,ht6⟩
theorem find_t[MemNo]{x t K:Nat}{S:List UInt8}{F:Nat→Prop}(d:Int)(s:List UInt8)(hs:Np.nameB s=true)(w:World)(h:MT x t S K w F):
 Calls prog 69 #[.pointer (some ⟨x,0,none⟩),.int .i64 d,.string ⟨s.toArray⟩] w (FindR w):=by
 have HTb:=hid (tableI_t d w h);have Hh:=hid h;have hsl:s≠[]∧s.length≤1000:=⟨Np.name_ne hs,by have:=nameB_len hs;omega⟩;have HFd:=hid fun(T:Gd.Tab) (hT:Gd.TabOk T) W=>tfind_any T hT.len ⟨s.toArray⟩ (by rw[Lib.size_eq];show s.length≤_;omega) hsl.1 (Gd.hN s) rfl W;rw[show(⟨s.toArray⟩:ByteArray).data.toList=s from rfl]at HFd;obtain⟨sb,hsb⟩:∃sb:ByteArray,sb=⟨s.toArray⟩:=⟨_,rfl⟩;rw[←hsb]at HFd⊢;clear h hs hsl hsb;go_enter func69,ntmps69
 go_upto_region 2 with(first|(go_at_call 70;refine HTb.o.mono ?_;rintro e w2 ⟨T,E,hok,rfl,hb2⟩;unfold tabV;have HOk:=hid hok;have HTs:=hid (tabC_size hok.len);clear hok;have HB2:=hid hb2;clear hb2)|(rw[←zTab];refine wpList_store_mid rfl 141 _ _ rfl w2.heap.size 0 (tabC T) rfl rfl (there_at (heap_alloc_new _ _) (by rw[noTab_size,HTs.o])) (by rw[HTs.o];exact sizeTab) (tabC_one _) ?_;obtain⟨hbw,hbg⟩:=new_whole2 w2 (tabC Gd.noTab) 141 (tabC T).toList (by rw[noTab_size,Array.length_toList,HTs.o]);generalize (World.setCells _ _ _ _)=w3 at hbw hbg⊢;have HN3:Hid (w3.heap[w2.heap.size]? =some (.cells (tabC T) 141 (0,0))):=hid hbg;have HB3:=HB2.t hbw;clear hbw hbg))
 by_cases hE:E=0
 rotate_left
 ·have hE2:(E !=0)=true:=by rw[bne_iff_ne];exact hE
  have HE:=hid hE;clear hE;go_wp2_with fail
  go_ret2
  exact⟨_,_,fun e=>absurd e HE.o,rfl,HB3.o⟩
 subst hE;obtain⟨f,hf⟩:=nm (Gd.findT T s (Gd.hN s));have HFc:=hid (HFd.o T HOk.o w3);rw[←hf]at HFc;unfold tabV at HFc;clear hf HFd HTb;go_upto_region 5 with(first|(refine wpList_load_row rfl 141 _ rfl w2.heap.size rfl 141 (tabC T) (0,0) _ HN3.o underlying141 rfl (by rw[HTs.o];exact sizeTab) ?_)|(go_at_call 116;refine HFc.o.mono ?_;rintro e w4 ⟨rfl,hb4⟩;have HB4:=HB3.t hb4;have HN4:=HN3.r hb4;clear hb4))
 cases f with
 |none=>
  have hn1:numO none= -1:=rfl;rw[hn1];go_wp2;go_ret2
  exact⟨0,_,by omega,rfl,HB4.o⟩
 |some j=>
  obtain⟨-,n1⟩:=tab_cells HN4.o (Gd.entAt_get HOk.o.len j.isLt);obtain⟨q,hq⟩:=nm ((Gd.entAt T j.val).i);rw[←hq]at n1;have hj16:=j.isLt;obtain⟨k,hk⟩:=nm j.val;have hnk:numO (some j)=(k:Int):=by rw[hk];rfl
  rw[←hk]at n1 hj16;rw[hnk];have HNd:=hid (node_t (q:Int) w4 (Hh.o.below HB4.o));obtain⟨tb,htb⟩:=nm w2.heap.size;rw[←htb]at n1 HN4⊢;have hk16:(k:Int)<16:=by omega
  have hk0:(0:Int)≤k:=by omega
  have HN1:=hid (fun W (hb:Below w4.heap.size w4 W)=>(hb.cell (p:=⟨tb,k*2+1,none⟩) (lt_get HN4.o)).trans n1);clear hq hk hnk hj16 htb;go_upto_region 8 with(go_at_call 117;refine HNd.o.mono ?_;rintro e w5 ⟨y,E,hy,rfl,hb5⟩;unfold inoV;have HY:=hid hy;clear hy;have HB5:=HB4.t hb5;have n2:=HN1.o w5 hb5;clear hb5)
  clear n1;go_wp2_with fail
  go_ret2
  exact⟨(q:Int),_,fun e=>by have:=HY.o.2.2 e;omega,rfl,HB5.o⟩
theorem make_t[MemNo]{x t K:Nat}{S:List UInt8}{F:Nat→Prop}(d:Int)(s:List UInt8)(hs:Np.nameB s=true)(y:Gd.Ino)(hy:y.Shape)(ha:AllI (inoL y))(spare:Int)(w:World)(h:MT x t S K w F):
 Calls prog 67 #[.pointer (some ⟨x,0,none⟩),.int .i64 d,.string ⟨s.toArray⟩,inoV y,.int .i64 spare] w (BlkR x t S K F w):=by
 obtain⟨hb0,hr0⟩:=below_new w (inoC y) 72;obtain⟨yb,hyb⟩:=nm w.heap.size;obtain⟨w0,hw0⟩:=nm (w.alloc (.cells (inoC y) 72));rw[←hw0,←hyb]at hr0;rw[←hw0]at hb0;have HL0:=hid ((Tq.start h).new hb0 (k:=yb) (by omega) hr0);have HFr:=hid (free_t w0 (h.below hb0));have HSi:=hid fun(a:Int) W F1 (h3:MT x t S K W F1)=>setino_t a y hy ha W h3;have HP:=hid fun(f:Nat) (hf:1≤f∧f≤32) W F1 (h3:MT x t S K W F1)=>put_t d s f spare hs hf W h3;have HS:=hid (inoC_size hy);have HTo:=hid fun(a er:Int) W=>metold_any a er W;have Hyb:=hid hyb.symm;have HW0:=hid hw0.symm;obtain⟨sb,hsb⟩:∃sb:ByteArray,sb=⟨s.toArray⟩:=⟨_,rfl⟩;rw[←hsb]at HP⊢;clear h hs hy ha hb0 hr0 hyb hw0 hsb;unfold inoV at*;go_enter func67,ntmps67;go_upto_region 1 with fail
 rw[HW0.o,Hyb.o];go_upto_region 2 with(go_at_call 115;refine HFr.o.mono ?_;rintro e w2 ⟨a,E,hin,rfl,hb2⟩;have Hin:=hid hin;clear hin;have HL2:=hid (HL0.o.below hb2);clear hb2)
 by_cases hE:E=0
 rotate_left
 ·have hE2:(E !=0)=true:=by rw[bne_iff_ne];exact hE
  have HE:=hid hE;clear hE;go_wp2_with fail
  go_ret2
  exact⟨0,_,by omega,rfl,HL2.o.turns⟩
 subst hE;obtain⟨f,rfl⟩:∃f:Nat,a=f:=⟨a.toNat,by have:=Hin.o rfl;omega⟩;have Hf:Hid (1≤f∧f≤32):=hid (by have:=Hin.o rfl;omega);have HIr:=hid (HL2.o.get (k:=yb) (o:= .cells (inoC y) 72 (0,0)) (by simp));obtain⟨F2,h2,h2t,h2n⟩:=HL2.o.open;have HSc:=hid ((HSi.o f w2 F2 h2).mono fun e w' (h:ErR x t S K F2 w2 e w')=>h.elim fun er h=>(⟨er,h.1,h2n w' h.2⟩:ErQ x t S K F w [(yb,.cells (inoC y) 72 (0,0))] e w'));clear h2 h2t h2n Hin;go_upto_region 5 with(first|(refine wpList_load_row rfl 72 _ rfl yb rfl 72 (inoC y) (0,0) _ HIr.o underlying72 rfl (by rw[HS.o];exact sizeIno) ?_)|(go_at_call 44;refine HSc.o.mono ?_;rintro e w3 ⟨er,rfl,ht3⟩;have HL3:=hid ht3;clear ht3))
 by_cases hE:er=0
 rotate_left
 ·have hE2:(er !=0)=true:=by rw[bne_iff_ne];exact hE
  have HE:=hid hE;clear hE;go_wp2_with fail
  go_ret2
  exact⟨0,_,by omega,rfl,HL3.o.turns⟩
 subst hE;obtain⟨F3,h3,h3t,h3n⟩:=HL3.o.open;have HPc:=hid ((HP.o f Hf.o w3 F3 h3).mono fun e w' (h:ErR x t S K F3 w3 e w')=>h.elim fun er h=>(⟨er,h.1,(h3n w' h.2).turns⟩:ErR x t S K F w e w'));clear h3 h3t h3n;go_wp2_with(first|(go_at_call 75;refine HPc.o.mono ?_;rintro e w4 ⟨eq,rfl,ht4⟩;have HT4:=hid ht4;clear ht4)|(go_at_call 68;refine(HTo.o f eq w4).mono ?_;rintro e w5 ⟨rfl,rfl⟩))
 all_goals go_ret2
 all_goals refine⟨_,_,?_,rfl,HT4.o⟩
 all_goals have:=Hf.o
 all_goals first|omega|(split<;>omega)
end
section
open Go.Shelf
attribute [local go_sem] Oper.semAt_some
def NmB(s:ByteArray):Prop:=Np.nameB s.data.toList=true
def PlaceS(w:World)(e:Ending)(w':World):Prop:=∃(d:Int) (s:ByteArray) (E:Int),(E=0→(1≤d∧d≤32)∧NmB s)∧e= .returned (.tuple #[.int .i64 d,.string s,.int .i64 E])∧Below w.heap.size w w'
theorem small_opens{x:Gd.Ino}(h:Gd.mayI x=true):∀n∈x.O,0≤n∧n≤8:=(Gd.mayI_in h).O
theorem allI_setO{x0:Gd.Ino}(h:AllI (inoL x0))(k:Nat){n:Int}(hn:0≤n∧n≤128):AllI (inoL (x0.setO k n)):=fun z hz=>by
 simp only[inoL,Gd.Ino.setO,List.mem_cons,List.mem_append]at hz;rcases hz with hz|hz|hz|hz|hz
 ·exact h z (by simp[inoL,hz])
 ·exact h z (by simp[inoL,hz])
 ·exact h z (by simp[inoL,hz])
 ·exact h z (by simp[inoL,hz])
 ·rcases List.mem_or_eq_of_mem_set hz with hz|rfl
  ·exact h z (by simp[inoL,hz])
  ·exact small_i64 (by omega)
theorem allI_setL{x0:Gd.Ino}(h:AllI (inoL x0)){n:Int}(hn: -1000≤n∧n≤10000):AllI (inoL (x0.setL n)):=fun z hz=>by
 simp only[inoL,Gd.Ino.setL,List.mem_cons,List.mem_append]at hz;rcases hz with hz|hz|hz|hz|hz
 ·exact h z (by simp[inoL,hz])
 ·rw[hz];exact small_i64 (by omega)
 ·exact h z (by simp[inoL,hz])
 ·exact h z (by simp[inoL,hz])
 ·exact h z (by simp[inoL,hz])
theorem opens_setO{x0:Gd.Ino}(h:∀n∈x0.O,0≤n∧n≤8)(k:Nat){n:Int}(hn:0≤n∧n≤8):∀z∈(x0.setO k n).O,0≤z∧z≤8:=fun z hz=>by
 rcases List.mem_or_eq_of_mem_set hz with hz|rfl
 ·exact h z hz
 ·exact hn
theorem small_links{y:Gd.Ino}(h:Gd.mayI y=true):0≤y.l∧y.l≤100:=by have:=Gd.mayI_in h;have h1:=this.l;omega
def Cx(F:Nat→Prop)(w:World):Prop:=Mx w∧¬F 0
section
variable {x t K:Nat} {S:List UInt8} {F:Nat→Prop} {w a:World} {Ls:List (Nat×Obj)}
theorem Tq.mx[MemNo](h:Tq x t S K F w a Ls)(hC:Cx F w):Mx a:=by
 obtain⟨⟨m,hm⟩,hF⟩:=hC;obtain⟨F',h1,_⟩:=h;have hb:=h1.only.block _ (mx_lt hm) hF;refine⟨m,?_⟩;unfold World.cell? at hm⊢;rw[show(⟨0,0,none⟩:Addr).block=0 from rfl]at hm⊢;rw[hb];exact hm
theorem Tq.walk[MemNo](h:Tq x t S K F w a Ls)(hC:Cx F w)(s:ByteArray)(hs:s.size≤100000):Calls prog 65 #[.pointer (some ⟨x,0,none⟩),.string s] a (NumR a):=by
 obtain⟨m,hm⟩:=h.mx hC;obtain⟨F1,h1,-,-⟩:=h.open;exact mwalk_t s m a h1 hs hm
theorem Tq.place[MemNo](h:Tq x t S K F w a Ls)(hC:Cx F w)(s:ByteArray)(hs:s.size≤100000):Calls prog 66 #[.pointer (some ⟨x,0,none⟩),.string s] a (PlaceS a):=by
 obtain⟨m,hm⟩:=h.mx hC;obtain⟨F1,h1,-,-⟩:=h.open;exact(mplace_t s m a h1 hs hm).mono fun e w' ⟨d,n,E,hE,he,hb⟩=>⟨d,⟨n.toArray⟩,E,fun e0=>⟨(hE e0).1,(hE e0).2⟩,he,hb⟩
theorem Tq.inode[MemNo](h:Tq x t S K F w a Ls)(d:Int):Calls prog 24 #[.pointer (some ⟨x,0,none⟩),.int .i64 d] a (InoR d a):=by
 obtain⟨F1,h1,-,-⟩:=h.open;exact inode_t d a h1
theorem Tq.node[MemNo](h:Tq x t S K F w a Ls)(d:Int):Calls prog 117 #[.pointer (some ⟨x,0,none⟩),.int .i64 d] a (InoR d a):=by
 obtain⟨F1,h1,-,-⟩:=h.open;exact node_t d a h1
theorem Tq.tableI[MemNo](h:Tq x t S K F w a Ls)(d:Int):Calls prog 70 #[.pointer (some ⟨x,0,none⟩),.int .i64 d] a (TabR a):=by
 obtain⟨F1,h1,-,-⟩:=h.open;exact tableI_t d a h1
theorem Tq.table[MemNo](h:Tq x t S K F w a Ls)(y:Gd.Ino)(hs:y.Shape)(hm:Gd.mayI y=true):Calls prog 118 #[.pointer (some ⟨x,0,none⟩),inoV y] a (TabR a):=by
 obtain⟨F1,h1,-,-⟩:=h.open;exact table_t y hs (small_blocks hm) a h1
theorem NmB.eq(s:ByteArray):(⟨s.data.toList.toArray⟩:ByteArray)=s:=by rw[Array.toArray_toList]
theorem Tq.find[MemNo](h:Tq x t S K F w a Ls)(d:Int)(s:ByteArray)(hs:NmB s):Calls prog 69 #[.pointer (some ⟨x,0,none⟩),.int .i64 d,.string s] a (FindR a):=by
 obtain⟨F1,h1,-,-⟩:=h.open;have h2:=find_t d s.data.toList hs a h1;rwa [NmB.eq]at h2
theorem Tq.er[MemNo]{g:Nat}{args:Array Value}(h:Tq x t S K F w a Ls)(hc:∀F1,MT x t S K a F1→Calls prog g args a (ErR x t S K F1 a)):Calls prog g args a (ErQ x t S K F w Ls):=by
 obtain⟨F1,h1,-,h3⟩:=h.open;exact(hc F1 h1).mono fun e w' ⟨er,he,ht⟩=>⟨er,he,h3 w' ht⟩
theorem Tq.put[MemNo](h:Tq x t S K F w a Ls)(d:Int)(s:ByteArray)(hs:NmB s)(i:Nat)(spare:Int)(hi:1≤i∧i≤32):Calls prog 75 #[.pointer (some ⟨x,0,none⟩),.int .i64 d,.string s,.int .i64 i,.int .i64 spare] a (ErQ x t S K F w Ls):=
 h.er fun F1 h1=>by
  have h2:=put_t d s.data.toList i spare hs hi a h1;rwa [NmB.eq]at h2
theorem Tq.take[MemNo](h:Tq x t S K F w a Ls)(d:Int)(s:ByteArray)(hs:NmB s):Calls prog 79 #[.pointer (some ⟨x,0,none⟩),.int .i64 d,.string s] a (ErQ x t S K F w Ls):=
 h.er fun F1 h1=>by
  have h2:=take_t d s.data.toList hs a h1;rwa [NmB.eq]at h2
theorem Tq.setino[MemNo](h:Tq x t S K F w a Ls)(d:Int)(y:Gd.Ino)(hs:y.Shape)(ha:AllI (inoL y)):Calls prog 44 #[.pointer (some ⟨x,0,none⟩),.int .i64 d,inoV y] a (ErQ x t S K F w Ls):=
 h.er fun F1 h1=>setino_t d y hs ha a h1
theorem Tq.keep[MemNo](h:Tq x t S K F w a Ls)(d:Int)(y:Gd.Ino)(hs:y.Shape)(ha:AllI (inoL y))(hO:∀n∈y.O,0≤n∧n≤8):Calls prog 25 #[.pointer (some ⟨x,0,none⟩),.int .i64 d,inoV y] a (ErQ x t S K F w Ls):=
 h.er fun F1 h1=>keep_t d y hs ha hO a h1
theorem Tq.make[MemNo](h:Tq x t S K F w a Ls)(d:Int)(s:ByteArray)(hs:NmB s)(y:Gd.Ino)(hy:y.Shape)(ha:AllI (inoL y))(spare:Int):Calls prog 67 #[.pointer (some ⟨x,0,none⟩),.int .i64 d,.string s,inoV y,.int .i64 spare] a (BlQ x t S K F w Ls):=by
 obtain⟨F1,h1,-,h3⟩:=h.open;have h2:=make_t d s.data.toList hs y hy ha spare a h1;rw[NmB.eq]at h2;exact h2.mono fun e w' ⟨n,er,hn,he,ht⟩=>⟨n,er,hn,he,h3 w' ht⟩
end
theorem ErQ.r[MemNo]{x t K:Nat}{S:List UInt8}{F:Nat→Prop}{w:World}{Ls:List (Nat×Obj)}{e:Ending}{w':World}(h:ErQ x t S K F w Ls e w'):ErR x t S K F w e w':=h.elim fun er h=>⟨er,h.1,h.2.turns⟩
end
section
open Go.Shelf
attribute [local go_sem] Oper.semAt_some
theorem less_t[MemNo]{x t K:Nat}{S:List UInt8}{F:Nat→Prop}(i:Int)(w:World)(h:MT x t S K w F):
 Calls prog 76 #[.pointer (some ⟨x,0,none⟩),.int .i64 i] w (ErR x t S K F w):=by
 have HQ0:=hid (Tq.start h);clear h;go_enter func76,ntmps76;go_upto_region 2 with(first|(go_at_call 24;refine(HQ0.o.inode i).mono ?_;rintro e w2 ⟨y,E,hy,rfl,hb⟩;have HY:=hid hy;have HS:Hid ((inoC y).size=15):=hid (inoC_size hy.1);clear hy;unfold inoV;have HQ2:=hid (HQ0.o.below hb);clear hb)|(rw[←zIno_lit];refine wpList_store_mid rfl 72 _ _ rfl w2.heap.size 0 (inoC y) rfl rfl (there_at (heap_alloc_new _ _) (by rw[zIno_size,HS.o])) (by rw[HS.o];exact sizeIno) (inoC_one _) ?_;obtain⟨hbw,hbg⟩:=new_whole2 w2 zIno 72 (inoC y).toList (by rw[zIno_size,Array.length_toList,HS.o]);generalize (World.setCells _ _ _ _)=w3 at hbw hbg⊢;have HQ3:=hid (HQ2.o.new hbw (Nat.le_refl _) (o:= .cells (inoC y) 72 (0,0)) hbg);clear hbw hbg))
 obtain⟨ib,hib⟩:=nm w2.heap.size;rw[←hib]at HQ3⊢;clear hib;by_cases hE:E=0
 rotate_left
 ·have hE2:(E !=0)=true:=by rw[bne_iff_ne];exact hE
  have hE3:(E==0)=false:=by rw[beq_eq_false_iff_ne];exact hE
  have HE:=hid hE;clear hE;go_wp2_with fail
  go_ret
  exact⟨_,rfl,HQ3.o.turns⟩
 subst hE;have hI3:InoAt w3 ib y:=⟨HQ3.o.get (k:=ib) (by simp),HY.o.1⟩;have b1:=hI3.c1;have f1:=hI3.f 1;have hl:=small_links HY.o.2.1;obtain⟨l,hlq⟩:=nm y.l;rw[←hlq]at b1 hl;obtain⟨l1,hl1⟩:=nm (l-1);have hwr:IntKind.i64.wrap (l-1)=l1:=by rw[hl1,IntKind.wrap_i64];omega
 obtain⟨y2,hy2⟩:=nm (y.setL l1);have HY2:Hid (y2.Shape∧AllI (inoL y2)∧∀n∈y2.O,0≤n∧n≤8):=hid (by rw[hy2];exact⟨⟨HY.o.1.1,HY.o.1.2⟩,allI_setL (ino_all HY.o.2.1) (by omega),fun n hn=>small_opens HY.o.2.1 n hn⟩);have HS2:=hid (inoC_size HY2.o.1);obtain⟨w4,hw4⟩:=nm (w3.setCell ⟨ib,1,none⟩ (.int .i64 l1));have HQ4:Hid (Tq x t S K F w w4 [(ib,.cells (inoC y2) 72 (0,0))]):=hid (by
  rw[hw4,hy2];refine HQ3.o.set (k:=ib) (C:=inoC y) (ty:=72) (by simp) _ fun p hp=> ?_;rw[show(inoC y).setIfInBounds 1 (.int .i64 l1)=inoC (y.setL l1) from inoC_set (inoL_setL y _)];exact Or.inl (List.mem_singleton.1 hp))
 have HW4:=hid hw4.symm;have HI4:=hid (HQ4.o.get (k:=ib) (o:= .cells (inoC y2) 72 (0,0)) (by simp));have HKp:=hid (HQ4.o.keep i y2 HY2.o.1 HY2.o.2.1 HY2.o.2.2);unfold inoV at HKp;clear hI3 hw4 hl hlq hl1 hy2;go_upto_region 5 with fail
 rw[HW4.o];clear hwr b1 f1;go_wp2_with(first|(refine wpList_load_row rfl 72 _ rfl ib rfl 72 (inoC y2) (0,0) _ HI4.o underlying72 rfl (by rw[HS2.o];exact sizeIno) ?_)|(go_at_call 25;refine HKp.o.mono ?_;rintro e w6 ⟨er,rfl,ht⟩;have HQ6:=hid ht;clear ht))
 go_ret
 exact⟨_,rfl,HQ6.o.turns⟩
theorem empty_t[MemNo]{x t K:Nat}{S:List UInt8}{F:Nat→Prop}(i:Int)(w:World)(h:MT x t S K w F):
 Calls prog 73 #[.pointer (some ⟨x,0,none⟩),.int .i64 i] w (ErR x t S K F w):=by
 have HSz:=hid (setino_t i Gd.noIno noIno_shape (ino_all (by kernel_rfl)) w h);clear h;unfold inoV at HSz;go_enter func73,ntmps73;go_wp2_with(go_at_call 44;refine HSz.o.mono ?_;rintro e w4 ⟨er,rfl,ht4⟩;have HT4:=hid ht4;clear ht4)
 go_ret
 exact⟨er,rfl,HT4.o⟩
theorem Tq.less'[MemNo]{x t K:Nat}{S:List UInt8}{F:Nat→Prop}{w a:World}{Ls:List (Nat×Obj)}(h:Tq x t S K F w a Ls)(i:Int):Calls prog 76 #[.pointer (some ⟨x,0,none⟩),.int .i64 i] a (ErQ x t S K F w Ls):=h.er fun F1 h1=>less_t i a h1
theorem Tq.empty[MemNo]{x t K:Nat}{S:List UInt8}{F:Nat→Prop}{w a:World}{Ls:List (Nat×Obj)}(h:Tq x t S K F w a Ls)(i:Int):Calls prog 73 #[.pointer (some ⟨x,0,none⟩),.int .i64 i] a (ErQ x t S K F w Ls):=h.er fun F1 h1=>empty_t i a h1
theorem mclose_t[MemNo]{x t K:Nat}{S:List UInt8}{F:Nat→Prop}(k:Nat)(hk:k<8)(i:Int)(w:World)(h:MT x t S K w F):
 Calls prog 28 #[.pointer (some ⟨x,0,none⟩),.int .i64 ((k:Int)+1),.int .i64 i] w (ErR x t S K F w):=by
 have HQ0:=hid (Tq.start h);clear h;have HIs:=hid fun W=>mis_any ((k:Int)+1) W;rw[show(decide ((1:Int)≤(k:Int)+1)&&decide (((k:Int)+1)≤8))=true by simp;omega]at HIs;have hk8:(k:Int)<8:=by omega
 have hk0:(0:Int)≤k:=by omega
 have Hk:=hid hk;clear hk;go_enter func28,ntmps28;go_upto_region 2 with(first|(go_at_call 24;refine(HQ0.o.inode i).mono ?_;rintro e w2 ⟨y,E,hy,rfl,hb⟩;have HY:=hid hy;have HS:Hid ((inoC y).size=15):=hid (inoC_size hy.1);clear hy;unfold inoV;have HQ2:=hid (HQ0.o.below hb);clear hb)|(rw[←zIno_lit];refine wpList_store_mid rfl 72 _ _ rfl w2.heap.size 0 (inoC y) rfl rfl (there_at (heap_alloc_new _ _) (by rw[zIno_size,HS.o])) (by rw[HS.o];exact sizeIno) (inoC_one _) ?_;obtain⟨hbw,hbg⟩:=new_whole2 w2 zIno 72 (inoC y).toList (by rw[zIno_size,Array.length_toList,HS.o]);generalize (World.setCells _ _ _ _)=w3 at hbw hbg⊢;have HQ3:=hid (HQ2.o.new hbw (Nat.le_refl _) (o:= .cells (inoC y) 72 (0,0)) hbg);clear hbw hbg))
 obtain⟨ib,hib⟩:=nm w2.heap.size;rw[←hib]at HQ3⊢;clear hib;by_cases hE:E=0
 rotate_left
 ·have hE2:(E !=0)=true:=by rw[bne_iff_ne];exact hE
  have hE3:(E==0)=false:=by rw[beq_eq_false_iff_ne];exact hE
  have HE:=hid hE;clear hE;go_wp2_with fail
  go_ret
  exact⟨_,rfl,HQ3.o.turns⟩
 subst hE;have hI3:InoAt w3 ib y:=⟨HQ3.o.get (k:=ib) (by simp),HY.o.1⟩;obtain⟨o,ho⟩:∃n,y.O[k]? =some n:=⟨_,List.getElem?_eq_getElem (by rw[HY.o.1.2];exact Hk.o)⟩;have ho8:=small_opens HY.o.2.1 o (List.mem_of_getElem? ho);obtain⟨b1,f1⟩:=hI3.cO ho;clear hI3 ho;by_cases ho0:o=0
 ·subst ho0;go_wp2_with(go_at_call 23;refine(HIs.o _).mono ?_;rintro e wq ⟨rfl,rfl⟩)
  go_ret
  exact⟨_,rfl,HQ3.o.turns⟩
 obtain⟨o1,ho1⟩:=nm (o-1);have hwo:IntKind.i64.wrap (o-1)=o1:=by rw[ho1,IntKind.wrap_i64];omega
 have hob:(o==0)=false:=by simp;omega
 obtain⟨y2,hy2⟩:=nm (y.setO k o1);have HY2:Hid (y2.Shape∧AllI (inoL y2)∧∀n∈y2.O,0≤n∧n≤8):=hid (by rw[hy2];exact⟨Gd.Ino.setO_shape HY.o.1 _ _,allI_setO (ino_all HY.o.2.1) k (by omega),opens_setO (small_opens HY.o.2.1) k (by omega)⟩);have HS2:=hid (inoC_size HY2.o.1);obtain⟨w4,hw4⟩:=nm (w3.setCell ⟨ib,7+k,none⟩ (.int .i64 o1));have HQ4:Hid (Tq x t S K F w w4 [(ib,.cells (inoC y2) 72 (0,0))]):=hid (by
  rw[hw4,hy2];refine HQ3.o.set (k:=ib) (C:=inoC y) (ty:=72) (by simp) _ fun p hp=> ?_;rw[show(inoC y).setIfInBounds (7+k) (.int .i64 o1)=inoC (y.setO k o1) from inoC_set (inoL_setO HY.o.1 Hk.o _)];exact Or.inl (List.mem_singleton.1 hp))
 have HW4:=hid hw4.symm;have HI4:=hid (HQ4.o.get (k:=ib) (o:= .cells (inoC y2) 72 (0,0)) (by simp));have HKp:=hid (HQ4.o.keep i y2 HY2.o.1 HY2.o.2.1 HY2.o.2.2);unfold inoV at HKp;clear hw4 ho1 hy2 ho8;go_upto_region 5 with(go_at_call 23;refine(HIs.o _).mono ?_;rintro e wq ⟨rfl,rfl⟩)
 rw[HW4.o];clear hwo b1 f1;go_wp2_with(first|(refine wpList_load_row rfl 72 _ rfl ib rfl 72 (inoC y2) (0,0) _ HI4.o underlying72 rfl (by rw[HS2.o];exact sizeIno) ?_)|(go_at_call 25;refine HKp.o.mono ?_;rintro e w6 ⟨er,rfl,ht⟩;have HQ6:=hid ht;clear ht))
 go_ret
 exact⟨_,rfl,HQ6.o.turns⟩
theorem mdrop_t[MemNo]{x t K:Nat}{S:List UInt8}{F:Nat→Prop}(k:Nat)(hk:k<8)(w:World)(h:MT x t S K w F):
 Calls prog 8 #[.pointer (some ⟨x,0,none⟩),.int .i64 ((k:Int)+1)] w (ErR x t S K F w):=by
 have HQ0:=hid (Tq.start h);clear h;have HIs:=hid fun W=>mis_any ((k:Int)+1) W;rw[show(decide ((1:Int)≤(k:Int)+1)&&decide (((k:Int)+1)≤8))=true by simp;omega]at HIs;have hk8:(k:Int)<8:=by omega
 have hk0:(0:Int)≤k:=by omega
 have Hk:=hid hk;clear hk;go_enter func8,ntmps8;go_upto_region 4 with(go_at_call 23;refine(HIs.o _).mono ?_;rintro e wq ⟨rfl,hq⟩;obtain rfl:w=wq:=hq.symm)
 go_loopw[12] (fun z wr=>∃j:Nat,z= .int .i64 j∧j≤32∧Hid (Tq x t S K F w wr [])) (fun z _=>32-(intOf z).toNat)
 case atStart=>exact⟨0,rfl,by omega,HQ0⟩
 case round=>
  obtain⟨j,rfl,hj,HQ⟩:=hrel;by_cases hlt:j<32
  rotate_left
  ·have h1:¬(j:Int)<32:=by omega
   clear hlt;go_wp2_with fail
   go_ret
   exact⟨_,rfl,HQ.o.turns⟩
  have hj1:(j:Int)<32:=by omega
  have hj0:(0:Int)≤j:=by omega
  have Hlt:=hid hlt;clear hlt;go_upto_region 7 with(first|(go_at_call 24;refine(HQ.o.inode ((j:Int)+1)).mono ?_;rintro e w2 ⟨y,E,hy,rfl,hb⟩;have HY:=hid hy;have HS:Hid ((inoC y).size=15):=hid (inoC_size hy.1);clear hy;unfold inoV;have HQ2:=hid (HQ.o.below hb);clear hb)|(rw[←zIno_lit];refine wpList_store_mid rfl 72 _ _ rfl w2.heap.size 0 (inoC y) rfl rfl (there_at (heap_alloc_new _ _) (by rw[zIno_size,HS.o])) (by rw[HS.o];exact sizeIno) (inoC_one _) ?_;obtain⟨hbw,hbg⟩:=new_whole2 w2 zIno 72 (inoC y).toList (by rw[zIno_size,Array.length_toList,HS.o]);generalize (World.setCells _ _ _ _)=w3 at hbw hbg⊢;have HQ3:=hid (HQ2.o.new hbw (Nat.le_refl _) (o:= .cells (inoC y) 72 (0,0)) hbg);clear hbw hbg))
  obtain⟨ib,hib⟩:=nm w2.heap.size;rw[←hib]at HQ3⊢;clear hib;by_cases hE:E=0
  rotate_left
  ·have hE2:(E !=0)=true:=by rw[bne_iff_ne];exact hE
   clear hE;go_wp2_with fail
   go_roundw
   case rel=>exact⟨j+1,by go_num,by have:=Hlt.o;omega,hid (HQ3.o.less (by simp))⟩
   case measure=>simp[intOf];have:=Hlt.o;omega
  subst hE;have hI3:InoAt w3 ib y:=⟨HQ3.o.get (k:=ib) (by simp),HY.o.1⟩;obtain⟨o,ho⟩:∃n,y.O[k]? =some n:=⟨_,List.getElem?_eq_getElem (by rw[HY.o.1.2];exact Hk.o)⟩;obtain⟨b1,f1⟩:=hI3.cO ho;clear hI3 ho;by_cases ho0:o=0
  ·subst ho0;go_wp2_with fail
   go_roundw
   case rel=>exact⟨j+1,by go_num,by have:=Hlt.o;omega,hid (HQ3.o.less (by simp))⟩
   case measure=>simp[intOf];have:=Hlt.o;omega
  have hob:(o==0)=false:=by rw[beq_eq_false_iff_ne];exact ho0
  clear ho0;obtain⟨y2,hy2⟩:=nm (y.setO k 0);have HY2:Hid (y2.Shape∧AllI (inoL y2)∧∀n∈y2.O,0≤n∧n≤8):=hid (by rw[hy2];exact⟨Gd.Ino.setO_shape HY.o.1 _ _,allI_setO (ino_all HY.o.2.1) k (by omega),opens_setO (small_opens HY.o.2.1) k (by omega)⟩);have HS2:=hid (inoC_size HY2.o.1);obtain⟨w4,hw4⟩:=nm (w3.setCell ⟨ib,7+k,none⟩ (.int .i64 0));have HQ4:Hid (Tq x t S K F w w4 [(ib,.cells (inoC y2) 72 (0,0))]):=hid (by
   rw[hw4,hy2];refine HQ3.o.set (k:=ib) (C:=inoC y) (ty:=72) (by simp) _ fun p hp=> ?_;rw[show(inoC y).setIfInBounds (7+k) (.int .i64 0)=inoC (y.setO k 0) from inoC_set (inoL_setO HY.o.1 Hk.o _)];exact Or.inl (List.mem_singleton.1 hp))
  have HW4:=hid hw4.symm;have HI4:=hid (HQ4.o.get (k:=ib) (o:= .cells (inoC y2) 72 (0,0)) (by simp));have HKp:=hid (HQ4.o.keep ((j:Int)+1) y2 HY2.o.1 HY2.o.2.1 HY2.o.2.2);unfold inoV at HKp;clear hw4 hy2;go_upto_region 9 with fail
  rw[HW4.o];clear b1 f1;go_upto_region 10 with(first|(refine wpList_load_row rfl 72 _ rfl ib rfl 72 (inoC y2) (0,0) _ HI4.o underlying72 rfl (by rw[HS2.o];exact sizeIno) ?_)|(go_at_call 25;refine HKp.o.mono ?_;rintro e w6 ⟨er,rfl,ht⟩;have HQ6:=hid ht;clear ht))
  by_cases he:er=0
  ·subst he;go_wp2_with fail
   go_roundw
   case rel=>exact⟨j+1,by go_num,by have:=Hlt.o;omega,hid (HQ6.o.less (by simp))⟩
   case measure=>simp[intOf];have:=Hlt.o;omega
  ·have hE2:(er !=0)=true:=by rw[bne_iff_ne];exact he
   clear he;go_wp2_with fail
   go_ret
   exact⟨_,rfl,HQ6.o.turns⟩
theorem removeL_t[MemNo]{x t K:Nat}{S:List UInt8}{F:Nat→Prop}(s:ByteArray)(hs:s.size≤100000)(i:Int)(w:World)(h:MT x t S K w F)(hC:Cx F w):
 Calls prog 72 #[.pointer (some ⟨x,0,none⟩),.string s,.int .i64 i,.func (.func 76) #[.pointer (some ⟨x,0,none⟩)] #[]] w (ErR x t S K F w):=by
 have HQ0:=hid (Tq.start h);clear h;have HC:=hid hC;have Hs:=hid hs;clear hC hs;go_enter func72,ntmps72;go_upto_region 2 with(go_at_call 66;refine(HQ0.o.place HC.o s Hs.o).mono ?_;rintro e w2 ⟨d,n,E,hin,rfl,hb⟩;have Hind:=hid hin;clear hin;have HQ2:=hid (HQ0.o.below hb);clear hb)
 by_cases hE:E=0
 rotate_left
 ·have hE2:(E !=0)=true:=by rw[bne_iff_ne];exact hE
  have hE3:(E==0)=false:=by rw[beq_eq_false_iff_ne];exact hE
  have HE:=hid hE;clear hE;go_wp2_with fail
  go_ret
  exact⟨_,rfl,HQ2.o.turns⟩
 subst hE;have HN:=hid (Hind.o rfl).2;have HTk:=hid (HQ2.o.take d n HN.o);go_upto_region 5 with(go_at_call 79;refine HTk.o.mono ?_;rintro e w3 ⟨er,rfl,ht⟩;have HQ3:=hid ht;clear ht)
 by_cases hE:er=0
 rotate_left
 ·have hE2:(er !=0)=true:=by rw[bne_iff_ne];exact hE
  have hE3:(er==0)=false:=by rw[beq_eq_false_iff_ne];exact hE
  have HE:=hid hE;clear hE;go_wp2_with fail
  go_ret
  exact⟨_,rfl,HQ3.o.turns⟩
 subst hE;have HLs:=hid (HQ3.o.less' i);go_wp2_with(go_at_call 76;refine HLs.o.mono ?_;rintro e w4 ⟨eq,rfl,ht⟩;have HQ4:=hid ht;clear ht)
 go_ret
 exact⟨_,rfl,HQ4.o.turns⟩
theorem removeE_t[MemNo]{x t K:Nat}{S:List UInt8}{F:Nat→Prop}(s:ByteArray)(hs:s.size≤100000)(i:Int)(w:World)(h:MT x t S K w F)(hC:Cx F w):
 Calls prog 72 #[.pointer (some ⟨x,0,none⟩),.string s,.int .i64 i,.func (.func 73) #[.pointer (some ⟨x,0,none⟩)] #[]] w (ErR x t S K F w):=by
 have HQ0:=hid (Tq.start h);clear h;have HC:=hid hC;have Hs:=hid hs;clear hC hs;go_enter func72,ntmps72;go_upto_region 2 with(go_at_call 66;refine(HQ0.o.place HC.o s Hs.o).mono ?_;rintro e w2 ⟨d,n,E,hin,rfl,hb⟩;have Hind:=hid hin;clear hin;have HQ2:=hid (HQ0.o.below hb);clear hb)
 by_cases hE:E=0
 rotate_left
 ·have hE2:(E !=0)=true:=by rw[bne_iff_ne];exact hE
  have hE3:(E==0)=false:=by rw[beq_eq_false_iff_ne];exact hE
  have HE:=hid hE;clear hE;go_wp2_with fail
  go_ret
  exact⟨_,rfl,HQ2.o.turns⟩
 subst hE;have HN:=hid (Hind.o rfl).2;have HTk:=hid (HQ2.o.take d n HN.o);go_upto_region 5 with(go_at_call 79;refine HTk.o.mono ?_;rintro e w3 ⟨er,rfl,ht⟩;have HQ3:=hid ht;clear ht)
 by_cases hE:er=0
 rotate_left
 ·have hE2:(er !=0)=true:=by rw[bne_iff_ne];exact hE
  have hE3:(er==0)=false:=by rw[beq_eq_false_iff_ne];exact hE
  have HE:=hid hE;clear hE;go_wp2_with fail
  go_ret
  exact⟨_,rfl,HQ3.o.turns⟩
 subst hE;have HLs:=hid (HQ3.o.empty i);go_wp2_with(go_at_call 73;refine HLs.o.mono ?_;rintro e w4 ⟨eq,rfl,ht⟩;have HQ4:=hid ht;clear ht)
 go_ret
 exact⟨_,rfl,HQ4.o.turns⟩
end
end Go.Proofs.YtckoobkjpndgnaaGreatDoor
