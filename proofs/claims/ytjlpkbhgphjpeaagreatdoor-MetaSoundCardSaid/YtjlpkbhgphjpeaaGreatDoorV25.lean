/- Walks: metadata: Open, each way. -/
import Derived.Test.YtjlpkbhgphjpeaaGreatDoorV24
set_option linter.unusedVariables false
set_option linter.unusedSimpArgs false
set_option linter.unusedSectionVars false
set_option maxHeartbeats 8000000
set_option maxRecDepth 100000
namespace Go.Proofs.YtjlpkbhgphjpeaaGreatDoor
open Go.RowKit
open Lib(hid)
open Go.Proofs.Tryz
open Go.Shelf
attribute [local go_sem] Oper.semAt_some
def vT(fl:Int):Prop:=fl=0∨fl=1∨fl=3
theorem YS{x:Nat}(k:Nat)(hk:k<8)(s:ByteArray)(fl spare:Int)(full:Bool)(w:World)(hf:¬vT fl):
 Calls prog 40 #[.pointer (some ⟨x,0,none⟩),.int .i64 ((k:Int)+1),.string s,.int .i64 fl,.bool full,.int .i64 spare] w fun e w'=>e= .returned (.tuple #[.int .i64 0,.int .i64 15])∧w'=w:=by
 have HI:=hid fun W=>j3 ((k:Int)+1) W;rw[show(decide ((1:Int)≤(k:Int)+1)&&decide ((k:Int)+1≤8))=true by simp;omega]at HI;have hk8:(k:Int)<8:=by omega
 have hk0:(0:Int)≤k:=by omega
 have hcl0:(1:Int)≤(k:Int)+1:=by omega
 have hcl8:(k:Int)+1≤8:=by omega
 unfold vT at hf;by_cases h0:fl<0
 ·clear hf hk;go_enter func40,ntmps40;go_wp2_with(go_at_call 59;refine(HI.o _).mono ?_;rintro e wq ⟨rfl,rfl⟩)
  go_ret2
  exact⟨rfl,rfl⟩
 ·by_cases h3:3<fl
  ·clear hf hk;go_enter func40,ntmps40;go_wp2_with(go_at_call 59;refine(HI.o _).mono ?_;rintro e wq ⟨rfl,rfl⟩)
   go_ret2
   exact⟨rfl,rfl⟩
  ·obtain rfl:fl=2:=by omega
   clear hf hk h0 h3;go_enter func40,ntmps40;go_wp2_with(go_at_call 59;refine(HI.o _).mono ?_;rintro e wq ⟨rfl,rfl⟩)
   go_ret2
   exact⟨rfl,rfl⟩
theorem YQ{x:Nat}(k:Nat)(hk:k<8)(s n:ByteArray)(wi d E e2 fl spare:Int)(full:Bool)(w:World)(hf:vT fl)(hE:E≠0)(hno:E≠10∨e2≠0∨fl=0)
 (hW:Ret w 25 #[.pointer (some ⟨x,0,none⟩),.string s] (.tuple #[.int .i64 wi,.int .i64 E]))
 (hP:Ret w 89 #[.pointer (some ⟨x,0,none⟩),.string s] (.tuple #[.int .i64 d,.string n,.int .i64 e2])):
 Calls prog 40 #[.pointer (some ⟨x,0,none⟩),.int .i64 ((k:Int)+1),.string s,.int .i64 fl,.bool full,.int .i64 spare] w fun e w'=>e= .returned (.tuple #[.int .i64 0,.int .i64 E])∧Below w.heap.size w w':=by
 have HI:=hid fun W=>j3 ((k:Int)+1) W;rw[show(decide ((1:Int)≤(k:Int)+1)&&decide ((k:Int)+1≤8))=true by simp;omega]at HI;have hk8:(k:Int)<8:=by omega
 have hk0:(0:Int)≤k:=by omega
 have hcl0:(1:Int)≤(k:Int)+1:=by omega
 have hcl8:(k:Int)+1≤8:=by omega
 have HW:=hid hW;have HP:=hid hP;have hEb:(E==0)=false:=by simp[hE]
 clear hW hP hk;unfold vT at hf;by_cases h10:E=10
 ·subst h10;clear hE hEb;by_cases h2:e2=0
  ·subst h2;obtain rfl:fl=0:=by
    rcases hno with h|h|h
    ·exact absurd rfl h
    ·exact absurd rfl h
    ·exact h
   clear hno hf;go_enter func40,ntmps40;go_upto_region 5 with(go_at_call 59;refine(HI.o _).mono ?_;rintro e wq ⟨rfl,rfl⟩)
   have HW0:=hid (HW.o wq (Below.refl _ _));go_upto_region 6 with(go_at_call 25;refine HW0.o.mono ?_;rintro e w2 ⟨rfl,hb2⟩;have HB2:=hid hb2;clear hb2)
   have HP2:=hid (HP.o w2 HB2.o);go_upto_region 7 with(go_at_call 89;refine HP2.o.mono ?_;rintro e w3 ⟨rfl,hb3⟩;have HB3:=HB2.t hb3;clear hb3)
   go_wp2;go_ret2
   exact⟨rfl,HB3.o⟩
  ·have h2b:(e2==0)=false:=by simp[h2]
   clear hno;rcases hf with rfl|rfl|rfl
   all_goals
    go_enter func40,ntmps40;go_upto_region 5 with(go_at_call 59;refine(HI.o _).mono ?_;rintro e wq ⟨rfl,rfl⟩)
    have HW0:=hid (HW.o wq (Below.refl _ _));go_upto_region 6 with(go_at_call 25;refine HW0.o.mono ?_;rintro e w2 ⟨rfl,hb2⟩;have HB2:=hid hb2;clear hb2)
    have HP2:=hid (HP.o w2 HB2.o);go_upto_region 7 with(go_at_call 89;refine HP2.o.mono ?_;rintro e w3 ⟨rfl,hb3⟩;have HB3:=HB2.t hb3;clear hb3)
    go_wp2;go_ret2
    exact⟨rfl,HB3.o⟩
 ·have h10b:(E==10)=false:=by simp[h10]
  clear hno;rcases hf with rfl|rfl|rfl
  all_goals
   go_enter func40,ntmps40;go_upto_region 5 with(go_at_call 59;refine(HI.o _).mono ?_;rintro e wq ⟨rfl,rfl⟩)
   have HW0:=hid (HW.o wq (Below.refl _ _));go_upto_region 6 with(go_at_call 25;refine HW0.o.mono ?_;rintro e w2 ⟨rfl,hb2⟩;have HB2:=hid hb2;clear hb2)
   have HP2:=hid (HP.o w2 HB2.o);go_upto_region 7 with(go_at_call 89;refine HP2.o.mono ?_;rintro e w3 ⟨rfl,hb3⟩;have HB3:=HB2.t hb3;clear hb3)
   go_wp2;go_ret2
   exact⟨rfl,HB3.o⟩
theorem JZ{x:Nat}(k:Nat)(hk:k<8)(s n:ByteArray)(wi d e2 spare:Int)(full:Bool)(w:World)
 (hW:Ret w 25 #[.pointer (some ⟨x,0,none⟩),.string s] (.tuple #[.int .i64 wi,.int .i64 0]))
 (hP:Ret w 89 #[.pointer (some ⟨x,0,none⟩),.string s] (.tuple #[.int .i64 d,.string n,.int .i64 e2])):
 Calls prog 40 #[.pointer (some ⟨x,0,none⟩),.int .i64 ((k:Int)+1),.string s,.int .i64 3,.bool full,.int .i64 spare] w fun e w'=>e= .returned (.tuple #[.int .i64 0,.int .i64 11])∧Below w.heap.size w w':=by
 have HI:=hid fun W=>j3 ((k:Int)+1) W;rw[show(decide ((1:Int)≤(k:Int)+1)&&decide ((k:Int)+1≤8))=true by simp;omega]at HI;have hk8:(k:Int)<8:=by omega
 have hk0:(0:Int)≤k:=by omega
 have hcl0:(1:Int)≤(k:Int)+1:=by omega
 have hcl8:(k:Int)+1≤8:=by omega
 have HW:=hid hW;have HP:=hid hP;clear hW hP hk;go_enter func40,ntmps40;go_upto_region 5 with(go_at_call 59;refine(HI.o _).mono ?_;rintro e wq ⟨rfl,rfl⟩)
 have HW0:=hid (HW.o wq (Below.refl _ _));go_upto_region 6 with(go_at_call 25;refine HW0.o.mono ?_;rintro e w2 ⟨rfl,hb2⟩;have HB2:=hid hb2;clear hb2)
 have HP2:=hid (HP.o w2 HB2.o);go_upto_region 7 with(go_at_call 89;refine HP2.o.mono ?_;rintro e w3 ⟨rfl,hb3⟩;have HB3:=HB2.t hb3;clear hb3)
 go_wp2;go_ret2
 exact⟨rfl,HB3.o⟩
theorem Xx{x:Nat}(k:Nat)(hk:k<8)(s n:ByteArray)(wi d fl spare:Int)(w:World)(hf:fl=1∨fl=3)
 (hW:Ret w 25 #[.pointer (some ⟨x,0,none⟩),.string s] (.tuple #[.int .i64 wi,.int .i64 10]))
 (hP:Ret w 89 #[.pointer (some ⟨x,0,none⟩),.string s] (.tuple #[.int .i64 d,.string n,.int .i64 0])):
 Calls prog 40 #[.pointer (some ⟨x,0,none⟩),.int .i64 ((k:Int)+1),.string s,.int .i64 fl,.bool true,.int .i64 spare] w fun e w'=>e= .returned (.tuple #[.int .i64 0,.int .i64 17])∧Below w.heap.size w w':=by
 have HI:=hid fun W=>j3 ((k:Int)+1) W;rw[show(decide ((1:Int)≤(k:Int)+1)&&decide ((k:Int)+1≤8))=true by simp;omega]at HI;have hk8:(k:Int)<8:=by omega
 have hk0:(0:Int)≤k:=by omega
 have hcl0:(1:Int)≤(k:Int)+1:=by omega
 have hcl8:(k:Int)+1≤8:=by omega
 have HW:=hid hW;have HP:=hid hP;clear hW hP hk;rcases hf with rfl|rfl
 all_goals
  go_enter func40,ntmps40;go_upto_region 5 with(go_at_call 59;refine(HI.o _).mono ?_;rintro e wq ⟨rfl,rfl⟩)
  have HW0:=hid (HW.o wq (Below.refl _ _));go_upto_region 6 with(go_at_call 25;refine HW0.o.mono ?_;rintro e w2 ⟨rfl,hb2⟩;have HB2:=hid hb2;clear hb2)
  have HP2:=hid (HP.o w2 HB2.o);go_upto_region 7 with(go_at_call 89;refine HP2.o.mono ?_;rintro e w3 ⟨rfl,hb3⟩;have HB3:=HB2.t hb3;clear hb3)
  go_wp2;go_ret2
  exact⟨rfl,HB3.o⟩
theorem Xw{x:Nat}(k:Nat)(hk:k<8)(s n:ByteArray)(wi d fl spare:Int)(w:World)(R:Int→Int→World→Prop)(hf:fl=1∨fl=3)
 (hW:Ret w 25 #[.pointer (some ⟨x,0,none⟩),.string s] (.tuple #[.int .i64 wi,.int .i64 10]))
 (hP:Ret w 89 #[.pointer (some ⟨x,0,none⟩),.string s] (.tuple #[.int .i64 d,.string n,.int .i64 0]))
 (hM:∀W,Below w.heap.size w W→Calls prog 91 #[.pointer (some ⟨x,0,none⟩),.int .i64 d,.string n,zv (jf.setO k 1),.int .i64 spare] W fun e w'=>∃v r:Int,e= .returned (.tuple #[.int .i64 v,.int .i64 r])∧R v r w'):
 Calls prog 40 #[.pointer (some ⟨x,0,none⟩),.int .i64 ((k:Int)+1),.string s,.int .i64 fl,.bool false,.int .i64 spare] w fun e w'=>∃v r:Int,e= .returned (.tuple #[.int .i64 v,.int .i64 r])∧R v r w':=by
 have HI:=hid fun W=>j3 ((k:Int)+1) W;rw[show(decide ((1:Int)≤(k:Int)+1)&&decide ((k:Int)+1≤8))=true by simp;omega]at HI;have hk8:(k:Int)<8:=by omega
 have hk0:(0:Int)≤k:=by omega
 have hcl0:(1:Int)≤(k:Int)+1:=by omega
 have hcl8:(k:Int)+1≤8:=by omega
 have HW:=hid hW;have HP:=hid hP;have HM:=hid hM;have HK8:Hid (k<8):=hid hk;have HSn:Hid ((zf jf).size=15):=hid rfl;have HSo:=hid (zm (Gd.Ino.setO_shape jk k 1));have HC:Hid ((zf jf).setIfInBounds (7+k) (.int .i64 1)=zf (jf.setO k 1)):=hid (jz (qQ jk HK8.o 1));clear hW hP hM hk;unfold zv at*;rcases hf with rfl|rfl
 all_goals
  go_enter func40,ntmps40;go_upto_region 5 with(go_at_call 59;refine(HI.o _).mono ?_;rintro e wq ⟨rfl,rfl⟩)
  have HW0:=hid (HW.o wq (Below.refl _ _));go_upto_region 6 with(go_at_call 25;refine HW0.o.mono ?_;rintro e w2 ⟨rfl,hb2⟩;have HB2:=hid hb2;clear hb2)
  have HP2:=hid (HP.o w2 HB2.o);go_upto_region 7 with(go_at_call 89;refine HP2.o.mono ?_;rintro e w3 ⟨rfl,hb3⟩;have HB3:=HB2.t hb3;clear hb3)
  go_upto_region 15 with fail
  go_upto_region 16 with(rw[←zA];refine wpList_store_mid rfl 48 _ _ rfl w3.heap.size 0 (zf jf) rfl rfl (zd (heap_alloc_new _ _) (by rw[zc,HSn.o])) (by rw[HSn.o];exact sizeIno) (zr _) ?_;obtain⟨hbw,hbg⟩:=zi w3 zU 48 (zf jf).toList (by rw[zc,Array.length_toList,HSn.o]);generalize (World.setCells _ _ _ _)=w4 at hbw hbg⊢;have HB4:=HB3.t hbw;have HN4:Hid (w4.heap[w3.heap.size]? =some (.cells (zf jf) 48 (0,0))):=hid hbg;clear hbw hbg)
  obtain⟨ib,hib⟩:=nm w3.heap.size;rw[←hib]at HN4⊢;have hI4:zp w4 ib jf:=⟨HN4.o,jk⟩;obtain⟨b0,b1⟩:=hI4.cO (k:=k) (n:=0) (by
   exact JD ⟨k,HK8.o⟩)
  obtain⟨w5,hw5⟩:=nm (w4.setCell ⟨ib,7+k,none⟩ (.int .i64 1));have HB5:Hid (Below wq.heap.size wq w5):=hid (by rw[hw5];exact HB4.o.setCell (show wq.heap.size≤ib by rw[hib];exact HB3.o.size) _);have HN5:Hid (w5.heap[ib]? =some (.cells (zf (jf.setO k 1)) 48 (0,0))):=hid (by rw[hw5,←HC.o];exact Go.heap_setCell_same w4 ib _ _ _ _ HN4.o);have HW5:=hid hw5.symm;clear hI4 hw5 hib;have HMc:=hid (HM.o w5 HB5.o);go_upto_region 17 with fail
  rw[HW5.o];go_wp2_with(first|(refine wpList_load_row rfl 48 _ rfl ib rfl 48 (zf (jf.setO k 1)) (0,0) _ HN5.o underlying48 rfl (by rw[HSo.o];exact sizeIno) ?_)|(go_at_call 91;refine HMc.o.mono ?_;rintro e w6 ⟨v,r,rfl,hr6⟩))
  go_ret2
  exact⟨v,r,rfl,hr6⟩
theorem YR{x:Nat}(k:Nat)(hk:k<8)(s n:ByteArray)(i:Nat)(d e2 fl spare:Int)(full:Bool)(y:Gd.Ino)(hy:y.Shape)(hyk:y.k=2)(w:World)(hf:fl=0∨fl=1)
 (hW:Ret w 25 #[.pointer (some ⟨x,0,none⟩),.string s] (.tuple #[.int .i64 i,.int .i64 0]))
 (hP:Ret w 89 #[.pointer (some ⟨x,0,none⟩),.string s] (.tuple #[.int .i64 d,.string n,.int .i64 e2]))
 (hI:Ret w 17 #[.pointer (some ⟨x,0,none⟩),.int .i64 i] (.tuple #[zv y,.int .i64 0])):
 Calls prog 40 #[.pointer (some ⟨x,0,none⟩),.int .i64 ((k:Int)+1),.string s,.int .i64 fl,.bool full,.int .i64 spare] w fun e w'=>e= .returned (.tuple #[.int .i64 0,.int .i64 13])∧Below w.heap.size w w':=by
 have HI:=hid fun W=>j3 ((k:Int)+1) W;rw[show(decide ((1:Int)≤(k:Int)+1)&&decide ((k:Int)+1≤8))=true by simp;omega]at HI;have hk8:(k:Int)<8:=by omega
 have hk0:(0:Int)≤k:=by omega
 have hcl0:(1:Int)≤(k:Int)+1:=by omega
 have hcl8:(k:Int)+1≤8:=by omega
 have HW:=hid hW;have HP:=hid hP;have HIn:=hid hI;have HSh:=hid hy;have HS:=hid (zm hy);have HK:=hid hyk;clear hW hP hI hk hy hyk;unfold zv at*;rcases hf with rfl|rfl
 all_goals
  go_enter func40,ntmps40;go_upto_region 5 with(go_at_call 59;refine(HI.o _).mono ?_;rintro e wq ⟨rfl,rfl⟩)
  have HW0:=hid (HW.o wq (Below.refl _ _));go_upto_region 6 with(go_at_call 25;refine HW0.o.mono ?_;rintro e w2 ⟨rfl,hb2⟩;have HB2:=hid hb2;clear hb2)
  have HP2:=hid (HP.o w2 HB2.o);go_upto_region 7 with(go_at_call 89;refine HP2.o.mono ?_;rintro e w3 ⟨rfl,hb3⟩;have HB3:=HB2.t hb3;clear hb3)
  have HI3:=hid (HIn.o w3 HB3.o);go_upto_region 19 with(first|(go_at_call 17;refine HI3.o.mono ?_;rintro e w4 ⟨rfl,hb4⟩;have HB4:=HB3.t hb4;clear hb4)|(rw[←zA];refine wpList_store_mid rfl 48 _ _ rfl w4.heap.size 0 (zf y) rfl rfl (zd (heap_alloc_new _ _) (by rw[zc,HS.o])) (by rw[HS.o];exact sizeIno) (zr _) ?_;obtain⟨hbw,hbg⟩:=zi w4 zU 48 (zf y).toList (by rw[zc,Array.length_toList,HS.o]);generalize (World.setCells _ _ _ _)=w5 at hbw hbg⊢;have HB5:=HB4.t hbw;have HN5:Hid (w5.heap[w4.heap.size]? =some (.cells (zf y) 48 (0,0))):=hid hbg;clear hbw hbg))
  obtain⟨ib,hib⟩:=nm w4.heap.size;have Hib:Hid (wq.heap.size≤ib):=hid (by rw[hib];exact HB4.o.size);rw[←hib]at HN5⊢;clear hib;have hI5:zp w5 ib y:=⟨HN5.o,HSh.o⟩;have c0:=hI5.c0;rw[HK.o]at c0;clear hI5;go_wp2;go_ret2
  exact⟨rfl,HB5.o⟩
theorem Xv{x:Nat}(k:Nat)(hk:k<8)(s n:ByteArray)(i:Nat)(d e2 fl spare:Int)(y:Gd.Ino)(hy:y.Shape)(hyk:y.k≠2)(w:World)(hf:fl=0∨fl=1)
 (hW:Ret w 25 #[.pointer (some ⟨x,0,none⟩),.string s] (.tuple #[.int .i64 i,.int .i64 0]))
 (hP:Ret w 89 #[.pointer (some ⟨x,0,none⟩),.string s] (.tuple #[.int .i64 d,.string n,.int .i64 e2]))
 (hI:Ret w 17 #[.pointer (some ⟨x,0,none⟩),.int .i64 i] (.tuple #[zv y,.int .i64 0])):
 Calls prog 40 #[.pointer (some ⟨x,0,none⟩),.int .i64 ((k:Int)+1),.string s,.int .i64 fl,.bool true,.int .i64 spare] w fun e w'=>e= .returned (.tuple #[.int .i64 0,.int .i64 17])∧Below w.heap.size w w':=by
 have HI:=hid fun W=>j3 ((k:Int)+1) W;rw[show(decide ((1:Int)≤(k:Int)+1)&&decide ((k:Int)+1≤8))=true by simp;omega]at HI;have hk8:(k:Int)<8:=by omega
 have hk0:(0:Int)≤k:=by omega
 have hcl0:(1:Int)≤(k:Int)+1:=by omega
 have hcl8:(k:Int)+1≤8:=by omega
 have HW:=hid hW;have HP:=hid hP;have HIn:=hid hI;have HSh:=hid hy;have HS:=hid (zm hy);obtain⟨ky,hky⟩:=nm y.k;have hkb:(ky==2)=false:=by rw[hky];simp[hyk]
 have Hky:=hid hky.symm;clear hW hP hI hk hy hyk hky;unfold zv at*;rcases hf with rfl|rfl
 all_goals
  go_enter func40,ntmps40;go_upto_region 5 with(go_at_call 59;refine(HI.o _).mono ?_;rintro e wq ⟨rfl,rfl⟩)
  have HW0:=hid (HW.o wq (Below.refl _ _));go_upto_region 6 with(go_at_call 25;refine HW0.o.mono ?_;rintro e w2 ⟨rfl,hb2⟩;have HB2:=hid hb2;clear hb2)
  have HP2:=hid (HP.o w2 HB2.o);go_upto_region 7 with(go_at_call 89;refine HP2.o.mono ?_;rintro e w3 ⟨rfl,hb3⟩;have HB3:=HB2.t hb3;clear hb3)
  have HI3:=hid (HIn.o w3 HB3.o);go_upto_region 19 with(first|(go_at_call 17;refine HI3.o.mono ?_;rintro e w4 ⟨rfl,hb4⟩;have HB4:=HB3.t hb4;clear hb4)|(rw[←zA];refine wpList_store_mid rfl 48 _ _ rfl w4.heap.size 0 (zf y) rfl rfl (zd (heap_alloc_new _ _) (by rw[zc,HS.o])) (by rw[HS.o];exact sizeIno) (zr _) ?_;obtain⟨hbw,hbg⟩:=zi w4 zU 48 (zf y).toList (by rw[zc,Array.length_toList,HS.o]);generalize (World.setCells _ _ _ _)=w5 at hbw hbg⊢;have HB5:=HB4.t hbw;have HN5:Hid (w5.heap[w4.heap.size]? =some (.cells (zf y) 48 (0,0))):=hid hbg;clear hbw hbg))
  obtain⟨ib,hib⟩:=nm w4.heap.size;have Hib:Hid (wq.heap.size≤ib):=hid (by rw[hib];exact HB4.o.size);rw[←hib]at HN5⊢;clear hib;have hI5:zp w5 ib y:=⟨HN5.o,HSh.o⟩;have c0:=hI5.c0;rw[Hky.o]at c0;clear hI5;go_wp2;go_ret2
  exact⟨rfl,HB5.o⟩
theorem YO{x:Nat}(k:Nat)(hk:k<8)(s n:ByteArray)(i:Nat)(d e2 fl spare o:Int)(y:Gd.Ino)(hy:y.Shape)(hyk:y.k≠2)(ho:y.O[k]? =some o)(ho0:0≤o)(ho8:o<8)(w:World)(R:World→Prop)(hf:fl=0∨fl=1)
 (hW:Ret w 25 #[.pointer (some ⟨x,0,none⟩),.string s] (.tuple #[.int .i64 i,.int .i64 0]))
 (hP:Ret w 89 #[.pointer (some ⟨x,0,none⟩),.string s] (.tuple #[.int .i64 d,.string n,.int .i64 e2]))
 (hI:Ret w 17 #[.pointer (some ⟨x,0,none⟩),.int .i64 i] (.tuple #[zv y,.int .i64 0]))
 (hS:∀W,Below w.heap.size w W→Calls prog 74 #[.pointer (some ⟨x,0,none⟩),.int .i64 i,zv (y.setO k (o+1))] W fun e w'=>e= .returned (.int .i64 0)∧R w'):
 Calls prog 40 #[.pointer (some ⟨x,0,none⟩),.int .i64 ((k:Int)+1),.string s,.int .i64 fl,.bool false,.int .i64 spare] w fun e w'=>e= .returned (.tuple #[.int .i64 i,.int .i64 0])∧R w':=by
 have HI:=hid fun W=>j3 ((k:Int)+1) W;rw[show(decide ((1:Int)≤(k:Int)+1)&&decide ((k:Int)+1≤8))=true by simp;omega]at HI;have hk8:(k:Int)<8:=by omega
 have hk0:(0:Int)≤k:=by omega
 have hcl0:(1:Int)≤(k:Int)+1:=by omega
 have hcl8:(k:Int)+1≤8:=by omega
 have HW:=hid hW;have HP:=hid hP;have HIn:=hid hI;have HSh:=hid hy;have HS:=hid (zm hy);obtain⟨ky,hky⟩:=nm y.k;have hkb:(ky==2)=false:=by rw[hky];simp[hyk]
 have Hky:=hid hky.symm;have HSI:=hid hS;have HK8:Hid (k<8):=hid hk;have HO:=hid ho;have HSo:=hid (zm (Gd.Ino.setO_shape hy k (o+1)));have HC:Hid ((zf y).setIfInBounds (7+k) (.int .i64 (o+1))=zf (y.setO k (o+1))):=hid (jz (qQ hy HK8.o (o+1)));have HTo:=hid fun W=>qv (i:Int) 0 W;rw[if_pos rfl]at HTo;clear hW hP hI hk hy hyk hky hS ho;unfold zv at*;rcases hf with rfl|rfl
 all_goals
  go_enter func40,ntmps40;go_upto_region 5 with(go_at_call 59;refine(HI.o _).mono ?_;rintro e wq ⟨rfl,rfl⟩)
  have HW0:=hid (HW.o wq (Below.refl _ _));go_upto_region 6 with(go_at_call 25;refine HW0.o.mono ?_;rintro e w2 ⟨rfl,hb2⟩;have HB2:=hid hb2;clear hb2)
  have HP2:=hid (HP.o w2 HB2.o);go_upto_region 7 with(go_at_call 89;refine HP2.o.mono ?_;rintro e w3 ⟨rfl,hb3⟩;have HB3:=HB2.t hb3;clear hb3)
  have HI3:=hid (HIn.o w3 HB3.o);go_upto_region 19 with(first|(go_at_call 17;refine HI3.o.mono ?_;rintro e w4 ⟨rfl,hb4⟩;have HB4:=HB3.t hb4;clear hb4)|(rw[←zA];refine wpList_store_mid rfl 48 _ _ rfl w4.heap.size 0 (zf y) rfl rfl (zd (heap_alloc_new _ _) (by rw[zc,HS.o])) (by rw[HS.o];exact sizeIno) (zr _) ?_;obtain⟨hbw,hbg⟩:=zi w4 zU 48 (zf y).toList (by rw[zc,Array.length_toList,HS.o]);generalize (World.setCells _ _ _ _)=w5 at hbw hbg⊢;have HB5:=HB4.t hbw;have HN5:Hid (w5.heap[w4.heap.size]? =some (.cells (zf y) 48 (0,0))):=hid hbg;clear hbw hbg))
  obtain⟨ib,hib⟩:=nm w4.heap.size;have Hib:Hid (wq.heap.size≤ib):=hid (by rw[hib];exact HB4.o.size);rw[←hib]at HN5⊢;clear hib;have hI5:zp w5 ib y:=⟨HN5.o,HSh.o⟩;have c0:=hI5.c0;rw[Hky.o]at c0;obtain⟨b0,b1⟩:=hI5.cO HO.o;obtain⟨w6,hw6⟩:=nm (w5.setCell ⟨ib,7+k,none⟩ (.int .i64 (o+1)));have HB6:Hid (Below wq.heap.size wq w6):=hid (by rw[hw6];exact HB5.o.setCell Hib.o _);have HN6:Hid (w6.heap[ib]? =some (.cells (zf (y.setO k (o+1))) 48 (0,0))):=hid (by rw[hw6,←HC.o];exact Go.heap_setCell_same w5 ib _ _ _ _ HN5.o);have HW6:=hid hw6.symm;clear hI5 hw6;have HSc:=hid (HSI.o w6 HB6.o);go_upto_region 26 with fail
  rw[HW6.o];go_wp2_with(first|(refine wpList_load_row rfl 48 _ rfl ib rfl 48 (zf (y.setO k (o+1))) (0,0) _ HN6.o underlying48 rfl (by rw[HSo.o];exact sizeIno) ?_)|(go_at_call 74;refine HSc.o.mono ?_;rintro e w7 ⟨rfl,hr7⟩)|(go_at_call 92;refine(HTo.o w7).mono ?_;rintro e w8 ⟨rfl,rfl⟩))
  go_ret2
  exact⟨rfl,hr7⟩
end Go.Proofs.YtjlpkbhgphjpeaaGreatDoor
