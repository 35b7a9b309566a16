/- Walks: inodes as values; which may be. -/
import Derived.Test.YtckoobkjpndgnaaGreatDoorW08
import Derived.DeepKeys
set_option linter.unusedVariables false
set_option linter.unusedSimpArgs false
set_option linter.unusedSectionVars false
set_option maxHeartbeats 8000000
set_option maxRecDepth 100000
namespace Go.Proofs.YtckoobkjpndgnaaGreatDoor
open Go.RowKit
open Lib(hid)
open Go.Proofs.Tryz
section
attribute [local go_sem] Oper.semAt_some
def intC(L:List Int):List Value:=L.map fun n=>Value.int .i64 n
def inoL(x:Gd.Ino):List Int:=x.k::x.l::x.s::(x.B++x.O)
def inoC(x:Gd.Ino):Array Value:=(intC (inoL x)).toArray
def inoV(x:Gd.Ino):Value:= .agg (inoC x)
theorem sizeIno:(prog.info? 72).map (fun i=>i.size)=some 15:=by kernel_rfl
theorem size4:(prog.info? 70).map (fun i=>i.size)=some 4:=by kernel_rfl
theorem size8:(prog.info? 36).map (fun i=>i.size)=some 8:=by kernel_rfl
theorem infoInts:(prog.info? 3).map (·.size)=some 1:=by kernel_rfl
theorem intC_len(L:List Int):(intC L).length=L.length:=List.length_map ..
theorem intC_get{L:List Int}{j:Nat}{n:Int}(h:L[j]? =some n):(intC L)[j]? =some (.int .i64 n):=by
 unfold intC;rw[List.getElem?_map,h];rfl
theorem intC_one(L:List Int):∀u∈intC L,u.oneCell'=true:=by
 intro u hu;unfold intC at hu;obtain⟨n,_,rfl⟩:=List.mem_map.1 hu;rfl
theorem inoL_len{x:Gd.Ino}(h:x.Shape):(inoL x).length=15:=by
 unfold inoL;simp only[List.length_cons,List.length_append,h.1,h.2]
theorem inoC_size{x:Gd.Ino}(h:x.Shape):(inoC x).size=15:=by
 unfold inoC;rw[List.size_toArray,intC_len,inoL_len h]
theorem inoC_one(x:Gd.Ino):(inoC x).all (·.oneCell')=true:=all_oneCell_toArray (intC_one _)
theorem inoC_get{x:Gd.Ino}{j:Nat}{n:Int}(h:(inoL x)[j]? =some n):(inoC x)[j]? =some (.int .i64 n):=by
 unfold inoC;rw[List.getElem?_toArray];exact intC_get h
structure InoAt(w:World)(b:Nat)(x:Gd.Ino):Prop where
 row:w.heap[b]? =some (.cells (inoC x) 72 (0,0))
 shape:x.Shape
theorem InoAt.c0{w:World}{b:Nat}{x:Gd.Ino}(h:InoAt w b x):w.cell? ⟨b,0,none⟩=some (.int .i64 x.k):=(cell_of_row w b 0 _ _ _ h.row).trans (inoC_get rfl)
theorem InoAt.c1{w:World}{b:Nat}{x:Gd.Ino}(h:InoAt w b x):w.cell? ⟨b,1,none⟩=some (.int .i64 x.l):=(cell_of_row w b 1 _ _ _ h.row).trans (inoC_get rfl)
theorem InoAt.c2{w:World}{b:Nat}{x:Gd.Ino}(h:InoAt w b x):w.cell? ⟨b,2,none⟩=some (.int .i64 x.s):=(cell_of_row w b 2 _ _ _ h.row).trans (inoC_get rfl)
theorem InoAt.blocks{w:World}{b:Nat}{x:Gd.Ino}(h:InoAt w b x):w.rangeAt b 3 (intC x.B):=fun j v hv=>by
 unfold intC at hv;rw[List.getElem?_map]at hv;obtain⟨n,hn,rfl⟩:=Option.map_eq_some_iff.1 hv;have hj:=(List.getElem?_eq_some_iff.1 hn).1;refine(cell_of_row w b (3+j) _ _ _ h.row).trans (inoC_get ?_)
 rw[show 3+j=j+3 by omega];show(x.B++x.O)[j]? =some n
 rw[List.getElem?_append_left hj];exact hn
theorem InoAt.opens{w:World}{b:Nat}{x:Gd.Ino}(h:InoAt w b x):w.rangeAt b 7 (intC x.O):=fun j v hv=>by
 unfold intC at hv;rw[List.getElem?_map]at hv;obtain⟨n,hn,rfl⟩:=Option.map_eq_some_iff.1 hv;have hB:=h.shape.1;refine(cell_of_row w b (7+j) _ _ _ h.row).trans (inoC_get ?_)
 rw[show 7+j=(4+j)+3 by omega];show(x.B++x.O)[4+j]? =some n
 rw[List.getElem?_append_right (by omega),hB,show 4+j-4=j by omega];exact hn
theorem InoAt.keep{w w':World}{b:Nat}{x:Gd.Ino}(h:InoAt w b x)(hb:Below w.heap.size w w'):InoAt w' b x:=⟨(hb.block b (lt_get h.row)).trans h.row,h.shape⟩
theorem InoAt.range{w:World}{b:Nat}{x:Gd.Ino}(h:InoAt w b x):w.rangeAt b 0 (intC (inoL x)):=fun j v hv=>by
 rw[Nat.zero_add,cell_of_row w b j _ _ _ h.row];unfold inoC;rw[List.getElem?_toArray];exact hv
theorem ino_box(w:World){x:Gd.Ino}(h:x.Shape):InoAt (w.alloc (.cells (inoC x) 72)) w.heap.size x∧Below w.heap.size w (w.alloc (.cells (inoC x) 72)):=⟨⟨heap_alloc_new _ _,h⟩,(Below.refl _ _).alloc (Nat.le_refl _) _⟩
def AllI(L:List Int):Prop:=∀n∈L,I64 n
theorem opnB_take{most:Int}{O:List Int}{i:Nat}{n:Int}(h:O[i]? =some n):Gd.opnB most (O.take (i+1))=(Gd.opnB most (O.take i)&&(decide (0≤n)&&decide (n≤most))):=by
 unfold Gd.opnB;rw[List.take_add_one,h,List.all_append];simp
theorem opnB_bad{most:Int}{O:List Int}{i:Nat}{n:Int}(h:O[i]? =some n)(hb:(decide (0≤n)&&decide (n≤most))=false):Gd.opnB most O=false:=by
 unfold Gd.opnB;rw[List.all_eq_false];exact⟨n,List.mem_of_getElem? h,by rw[hb];simp⟩
theorem opens_any(x:Gd.Ino)(hx:x.Shape)(most:Nat)(w:World):Calls prog 154 #[inoV x,.int .i64 most] w fun e w'=>e= .returned (.bool (Gd.opnB most x.O))∧Below w.heap.size w w':=by
 obtain⟨hb0,hbb⟩:=ino_box w hx;obtain⟨b,hbe⟩:=nm w.heap.size;obtain⟨wb,hwb⟩:=nm (w.alloc (.cells (inoC x) 72));rw[←hwb,←hbe]at hb0;rw[←hwb]at hbb;have Hbe:=hid hbe.symm;have HBb:=hid hbb;have HWb:=hid hwb;have HI:=hid hb0;have HX:=hid hx;have HL:Hid ((intC x.O).length=8):=hid (by rw[intC_len];exact hx.2);clear hbe hbb hwb hb0 hx;unfold inoV at*;go_enter func154,ntmps154;go_upto_region 1 with fail
 rw[←HWb.o,Hbe.o];go_upto_region 2 with(refine wpList_load_mid rfl 36 _ rfl b 7 rfl (intC x.O) _ HI.o.opens underlying36 rfl (by rw[HL.o];exact size8) ?_)
 go_loopw[9] (fun z wr=>∃i:Nat,z= .int .i64 i∧i≤8∧Hid (Gd.opnB most (x.O.take i)=true)∧wr=wb) (fun z _=>8-(intOf z).toNat)
 case atStart=>exact⟨0,rfl,by omega,hid (by simp[Gd.opnB]),rfl⟩
 case round=>
  obtain⟨i,rfl,hi,HO,rfl⟩:=hrel;by_cases hlt:i<8
  ·obtain⟨n,hn⟩:∃n,x.O[i]? =some n:=⟨_,List.getElem?_eq_getElem (by have:=HX.o.2;omega)⟩;have hc:=run_index_one 36 3 8 (intC x.O).toArray .i64 .i64 i _ wr underlying36 underlying3 infoInts hlt (by rw[List.getElem?_toArray];exact intC_get hn);have h1:(i:Int)<8:=by omega
   have HT:=hid (opnB_take (most:=most) hn);have HN:=hid (inoin_any n most wr)
   cases hb:(decide (0≤n)&&decide (n≤(most:Int)))with
   |true=>
    rw[hb]at HN HT;have HO2:Hid (Gd.opnB most (x.O.take (i+1))=true):=hid (by rw[HT.o,HO.o];rfl);clear hn hb hlt HT;go_wp2_with(go_at_call 153;refine HN.o.mono ?_;rintro e w2 ⟨rfl,rfl⟩)
    go_roundw
    case rel=>exact⟨i+1,by go_num,by omega,HO2,trivial⟩
    case measure=>simp[intOf];omega
   |false=>
    rw[hb]at HN;have HBd:=hid (opnB_bad hn hb);clear hn hb hlt HT;go_wp2_with(go_at_call 153;refine HN.o.mono ?_;rintro e w2 ⟨rfl,rfl⟩)
    go_ret
    exact⟨ret_bool HBd.o.symm,HBb.o⟩
  ·obtain rfl:i=8:=by omega
   clear hlt;go_wp2;go_ret
   refine⟨ret_bool ?_,HBb.o⟩;have:=HO.o
   rw[List.take_of_length_le (by have:=HX.o.2;omega)]at this;exact this.symm
theorem hadZero:∀j:Fin 129,zeroCells240[j.val]? =some (.bool false):=fun j=>by
 have h:zeroCells240=Array.replicate 129 (.bool false):=by kernel_rfl
 rw[h,Array.getElem?_replicate,if_pos j.isLt]
theorem hadSize:zeroCells240.size=129:=by kernel_rfl
structure HadAt(w:World)(h:Nat)(had:List Int):Prop where
 row:∃C:Array Value,w.heap[h]? =some (.cells C 240 (0,0))∧C.size=129∧∀j:Nat,j<129→C[j]? =some (.bool (had.contains (j:Int)))
theorem HadAt.cell{w:World}{h:Nat}{had:List Int}(H:HadAt w h had){j:Nat}(hj:j<129):w.cell? ⟨h,j,none⟩=some (.bool (had.contains (j:Int)))∧w.frozen? ⟨h,j,none⟩=false:=by
 obtain⟨C,hg,_,hc⟩:=H.row;exact⟨(cell_of_row w h j _ _ _ hg).trans (hc j hj),frozen_of_row w h j _ _ hg⟩
theorem HadAt.set{w:World}{h:Nat}{had:List Int}(H:HadAt w h had){j:Nat}(hj:j<129):HadAt (w.setCell ⟨h,j,none⟩ (.bool true)) h (had++[(j:Int)]):=by
 obtain⟨C,hg,hs,hc⟩:=H.row;refine⟨_,Go.heap_setCell_same w h j _ _ _ hg,by rw[Array.size_setIfInBounds];exact hs,fun k hk=> ?_⟩;rw[Array.getElem?_setIfInBounds];by_cases e:j=k
 ·subst e;rw[if_pos rfl,if_pos (by omega)];simp
 ·rw[if_neg e,hc k hk];simp
  intro e';omega
theorem HadAt.keep{w w':World}{h:Nat}{had:List Int}(H:HadAt w h had)(hb:w'.heap[h]? =w.heap[h]?):HadAt w' h had:=by
 obtain⟨C,hg,hs,hc⟩:=H.row;exact⟨C,hb.trans hg,hs,hc⟩
theorem HadAt.lt{w:World}{h:Nat}{had:List Int}(H:HadAt w h had):h<w.heap.size:=by
 obtain⟨C,hg,hs,hc⟩:=H.row;exact lt_get hg
theorem had_new(w:World):HadAt (w.alloc (.cells zeroCells240 240)) w.heap.size []:=
 ⟨_,heap_alloc_new _ _,hadSize,fun j hj=>hadZero ⟨j,hj⟩⟩
def blkOk(kind size:Int)(k:Nat)(had:List Int)(b:Int):Bool:=(decide (0≤b)&&decide (b≤128))&& !(decide (0<b)&&had.contains b)&& !(decide (kind=1)&&(decide (0<b) !=decide ((64*k:Int)<size)))
theorem blkB_cons(kind size:Int)(k:Nat)(had:List Int)(b:Int)(r:List Int):Gd.blkB kind size k had (b::r)=(blkOk kind size k had b&&Gd.blkB kind size (k+1) (had++[b]) r):=rfl
theorem blocks_any(x:Gd.Ino)(hx:x.Shape)(hI:AllI x.B)(w:World):Calls prog 155 #[inoV x] w fun e w'=>e= .returned (.bool (Gd.blkB x.k x.s 0 [] x.B))∧Below w.heap.size w w':=by
 obtain⟨hb0,hbb⟩:=ino_box w hx;obtain⟨b,hbe⟩:=nm w.heap.size;obtain⟨wb,hwb⟩:=nm (w.alloc (.cells (inoC x) 72));rw[←hwb,←hbe]at hb0;rw[←hwb]at hbb;have hh0:=had_new wb;have hhb:Below wb.heap.size wb (wb.alloc (.cells zeroCells240 240)):=(Below.refl _ _).alloc (Nat.le_refl _) _;obtain⟨wh,hwh⟩:=nm (wb.alloc (.cells zeroCells240 240));obtain⟨h,hhe⟩:=nm wb.heap.size;rw[←hwh,←hhe]at hh0;rw[←hwh]at hhb;have hbh:b<h:=by rw[hhe];exact lt_get hb0.row
 have hI1:=hb0.keep hhb;have Hbe:=hid hbe.symm;have Hhe:=hid hhe.symm;have HBb:Hid (Below w.heap.size w wh):=hid (hbb.trans (hhb.mono hbb.size));have HWb:=hid hwb;have HWh:=hid hwh;have HI:=hid hI1;have HH:=hid hh0;have HX:=hid hx;have HA:=hid hI;have HL:Hid ((intC x.B).length=4):=hid (by rw[intC_len];exact hx.1);have Hbh:=hid hbh;obtain⟨R,hR⟩:=nm (Gd.blkB x.k x.s 0 [] x.B);have HR:Hid (R=Gd.blkB x.k x.s 0 [] (x.B.drop 0)):=hid hR;rw[←hR];clear hbe hbb hwb hb0 hx hh0 hhb hwh hhe hbh hI1 hI hR;unfold inoV at*;go_enter func155,ntmps155;go_upto_region 1 with fail
 rw[←HWb.o,Hbe.o];go_upto_region 2 with fail
 rw[←HWh.o,Hhe.o];go_upto_region 3 with(refine wpList_load_mid rfl 70 _ rfl b 3 rfl (intC x.B) _ HI.o.blocks underlying70 rfl (by rw[HL.o];exact size4) ?_)
 go_loopw[8] (fun z wr=>∃(i:Nat) (had:List Int),z= .int .i64 i∧i≤4∧Hid (R=Gd.blkB x.k x.s i had (x.B.drop i))∧Hid (HadAt wr h had∧InoAt wr b x∧Below w.heap.size w wr)) (fun z _=>4-(intOf z).toNat)
 case atStart=>exact⟨0,[],rfl,by omega,HR,hid ⟨HH.o,HI.o,HBb.o⟩⟩
 case round=>
  obtain⟨i,had,rfl,hi,HRi,HW⟩:=hrel;by_cases hlt:i<4
  ·obtain⟨n,hn⟩:∃n,x.B[i]? =some n:=⟨_,List.getElem?_eq_getElem (by have:=HX.o.1;omega)⟩;have hc:=run_index_one 70 3 4 (intC x.B).toArray .i64 .i64 i _ wr underlying70 underlying3 infoInts hlt (by rw[List.getElem?_toArray];exact intC_get hn);have h1:(i:Int)<4:=by omega
   have h0:(0:Int)≤i:=by omega
   have hdr:x.B.drop i=n::x.B.drop (i+1):=by
    have hl:=(List.getElem?_eq_some_iff.1 hn);rw[←hl.2,List.drop_eq_getElem_cons hl.1]
   have HRn:Hid (R=(blkOk x.k x.s i had n&&Gd.blkB x.k x.s (i+1) (had++[n]) (x.B.drop (i+1)))):=hid (by rw[HRi.o,hdr,blkB_cons]);have HN:=hid (inoin_any n 128 wr);have k0:=HW.o.2.1.c0;have k2:=HW.o.2.1.c2;obtain⟨kd,hkd⟩:=nm x.k;obtain⟨sz,hsz⟩:=nm x.s;have Hks:=hid (And.intro hkd hsz);rw[←hkd]at k0;rw[←hsz]at k2;rw[←hkd,←hsz]at HRn;clear hn hdr hlt HRi hkd hsz
   cases hb:(decide (0≤n)&&decide (n≤((128:Nat):Int)))with
   |false=>
    rw[hb]at HN;have HR0:Hid (R=false):=hid (by
     rw[HRn.o];unfold blkOk;rw[show(decide (0≤n)&&decide (n≤128))=false from hb];rfl)
    clear hb;go_wp2_with(go_at_call 153;refine HN.o.mono ?_;rintro e w2 ⟨rfl,rfl⟩)
    go_ret
    exact⟨ret_bool HR0.o.symm,HW.o.2.2⟩
   |true=>
    rw[hb]at HN;obtain⟨m,rfl⟩:∃m:Nat,n=m:=⟨n.toNat,by simp at hb;omega⟩;have hm:m≤128:=by simp at hb;omega
    have hm9:(m:Int)<129:=by omega
    have hm0:(0:Int)≤m:=by omega
    obtain⟨d0,d1⟩:=HW.o.1.cell (j:=m) (by omega);obtain⟨g,hg⟩:=nm (had.contains (m:Int));rw[←hg]at d0;have HOk:Hid (blkOk kd sz i had m=(!(decide (0<(m:Int))&&g)&& !(decide (kd=1)&&(decide (0<(m:Int)) !=decide ((64*i:Int)<sz))))):=hid (by
     unfold blkOk;rw[show(decide (0≤(m:Int))&&decide ((m:Int)≤128))=true from hb,←hg];rfl)
    obtain⟨w3,hw3⟩:=nm (wr.setCell ⟨h,m,none⟩ (.bool true));have HW3:Hid (HadAt w3 h (had++[(m:Int)])∧InoAt w3 b x∧Below w.heap.size w w3):=hid (by
     rw[hw3];refine⟨HW.o.1.set (by omega),⟨(Go.heap_setCell_other wr ⟨h,m,none⟩ b _ (by have:=Hbh.o;simp;omega)).trans HW.o.2.1.row,HW.o.2.1.shape⟩,HW.o.2.2.setCell ?_ _⟩;have h1:=Hbh.o;have h2:=Hbe.o;show w.heap.size≤h
     omega)
    have Hw3:=hid hw3;clear hw3 hb hg;by_cases hbad:blkOk kd sz i had m=true
    ·have HR1:Hid (R=Gd.blkB x.k x.s (i+1) (had++[(m:Int)]) (x.B.drop (i+1))):=hid (by rw[HRn.o,hbad,Bool.true_and,Hks.o.1,Hks.o.2]);have hok:=hbad;rw[HOk.o]at hok;clear hbad;by_cases hmz:m=0
     ·subst hmz;by_cases hk1:kd=1
      ·subst hk1;have hs1:sz≤(i:Int)*64:=by simp at hok;omega
       clear hok;go_wp2_with(go_at_call 153;refine HN.o.mono ?_;rintro e w2 ⟨rfl,rfl⟩)
       rw[←Hw3.o];go_roundw
       case rel=>exact⟨i+1,_,by go_num,by omega,HR1,HW3⟩
       case measure=>simp[intOf];omega
      ·clear hok;go_wp2_with(go_at_call 153;refine HN.o.mono ?_;rintro e w2 ⟨rfl,rfl⟩)
       rw[←Hw3.o]
       (first|(go_roundw;(case rel=>exact⟨i+1,_,by go_num,by omega,HR1,HW3⟩);(case measure=>simp[intOf];omega))|(refine⟨⟨i+1,_,by go_num,by omega,HR1,HW3⟩,?_⟩;simp[intOf];omega))
     ·have hmp:(0:Int)<m:=by omega
      have hg0:g=false:=by
       cases g with
       |false=>rfl
       |true=>simp[hmp]at hok;omega
      subst hg0;by_cases hk1:kd=1
      ·subst hk1;have hs1:(i:Int)*64<sz:=by simp[hmp]at hok;omega
       clear hok;go_wp2_with(go_at_call 153;refine HN.o.mono ?_;rintro e w2 ⟨rfl,rfl⟩)
       rw[←Hw3.o]
       (first|(go_roundw;(case rel=>exact⟨i+1,_,by go_num,by omega,HR1,HW3⟩);(case measure=>simp[intOf];omega))|(refine⟨⟨i+1,_,by go_num,by omega,HR1,HW3⟩,?_⟩;simp[intOf];omega))
      ·clear hok;go_wp2_with(go_at_call 153;refine HN.o.mono ?_;rintro e w2 ⟨rfl,rfl⟩)
       rw[←Hw3.o]
       (first|(go_roundw;(case rel=>exact⟨i+1,_,by go_num,by omega,HR1,HW3⟩);(case measure=>simp[intOf];omega))|(refine⟨⟨i+1,_,by go_num,by omega,HR1,HW3⟩,?_⟩;simp[intOf];omega))
    ·have HR0:Hid (R=false):=hid (by
      rw[HRn.o];simp only[Bool.not_eq_true]at hbad;rw[hbad];rfl)
     have hok:=hbad;rw[HOk.o]at hok;clear hbad;by_cases hmz:m=0
     ·subst hmz;obtain⟨rfl,hs1⟩:kd=1∧(i:Int)*64<sz:=by
       simp at hok
       omega
      clear hok;go_wp2_with(go_at_call 153;refine HN.o.mono ?_;rintro e w2 ⟨rfl,rfl⟩)
      go_ret
      exact⟨ret_bool HR0.o.symm,HW.o.2.2⟩
     ·have hmp:(0:Int)<m:=by omega
      cases g with
      |true=>
       clear hok;go_wp2_with(go_at_call 153;refine HN.o.mono ?_;rintro e w2 ⟨rfl,rfl⟩)
       go_ret
       exact⟨ret_bool HR0.o.symm,HW.o.2.2⟩
      |false=>
       obtain⟨rfl,hs1⟩:kd=1∧sz≤(i:Int)*64:=by
        simp[hmp]at hok;omega
       have hs2:decide ((i:Int)*64<sz)=false:=decide_eq_false (by omega);clear hok;go_wp2_with(go_at_call 153;refine HN.o.mono ?_;rintro e w2 ⟨rfl,rfl⟩)
       go_ret
       exact⟨ret_bool HR0.o.symm,HW.o.2.2⟩
  ·obtain rfl:i=4:=by omega
   clear hlt;go_wp2;go_ret
   refine⟨ret_bool ?_,HW.o.2.2⟩;rw[HRi.o,List.drop_eq_nil_of_le (by have:=HX.o.1;omega)];rfl
end
section
attribute [local go_sem] Oper.semAt_some
theorem cells4:prog.cellsOf 70=4:=by kernel_rfl
theorem cells8:prog.cellsOf 36=8:=by kernel_rfl
theorem cells1:prog.cellsOf 3=1:=by kernel_rfl
theorem cells15:prog.cellsOf 72=15:=by kernel_rfl
theorem inoKey:prog.keyTypeAt 3 72=true:=by kernel_rfl
theorem int_key{n:Int}(h:I64 n):prog.keyLits 1 3 [.int .i64 n]=some [.int .i64 n]:=by
 unfold I64 at h;unfold Program.keyLits;simp[underlying3,h]
theorem int_items{L:List Int}(h:AllI L)(n:Nat)(hn:L.length=n):(List.range n).mapM (fun i=>prog.keyLits 1 3 (((intC L).drop (i*prog.cellsOf 3)).take (prog.cellsOf 3)))=some ((List.range n).map fun i=>[Lit.int .i64 (L.getD i 0)]):=by
 refine mapM_all _ _ _ fun i hi=> ?_;have hi':i<L.length:=by rw[hn];simpa using hi
 rw[cells1,Nat.mul_one];have hb:(intC L)[i]? =some (.int .i64 L[i]):=intC_get (List.getElem?_eq_getElem hi');have hl:i<(intC L).length:=(List.getElem?_eq_some_iff.1 hb).1;rw[List.drop_eq_getElem_cons hl,List.take_succ_cons,List.take_zero,(List.getElem?_eq_some_iff.1 hb).2,List.getD_eq_getElem?_getD,List.getElem?_eq_getElem hi'];exact int_key (h _ (List.getElem_mem hi'))
theorem range_getI(L:List Int)(n:Nat)(hn:L.length=n):((List.range n).map fun i=>[Lit.int .i64 (L.getD i 0)]).flatten=L.map (Lit.int .i64):=by
 rw[flatten_one];subst hn;apply List.ext_getElem?
 intro i;rw[List.getElem?_map,List.getElem?_map];by_cases hi:i<L.length
 ·rw[List.getElem?_range hi,List.getElem?_eq_getElem hi];simp[List.getD_eq_getElem?_getD,List.getElem?_eq_getElem hi]
 ·rw[List.getElem?_eq_none (by simpa using hi),List.getElem?_eq_none (by omega)];rfl
theorem key4{L:List Int}(h:AllI L)(hn:L.length=4):prog.keyLits 2 70 (intC L)=some (L.map (Lit.int .i64)):=by
 unfold Program.keyLits;rw[underlying70];simp only[intC_len,hn,cells4,if_true];rw[int_items h 4 hn,Option.map_some,range_getI L 4 hn]
theorem key8{L:List Int}(h:AllI L)(hn:L.length=8):prog.keyLits 2 36 (intC L)=some (L.map (Lit.int .i64)):=by
 unfold Program.keyLits;rw[underlying36];simp only[intC_len,hn,cells8,if_true];rw[int_items h 8 hn,Option.map_some,range_getI L 8 hn]
theorem int_key2{n:Int}(h:I64 n):prog.keyLits 2 3 [.int .i64 n]=some [.int .i64 n]:=by
 unfold I64 at h;unfold Program.keyLits;simp[underlying3,h]
deriving instance DecidableEq for Gd.Ino
theorem ino_lits{x:Gd.Ino}(hs:x.Shape)(hI:AllI (inoL x)):prog.keyLits 3 72 (intC (inoL x))=some ((inoL x).map (Lit.int .i64)):=by
 unfold Program.keyLits;rw[underlying72];have hc:intC (inoL x)= .int .i64 x.k:: .int .i64 x.l:: .int .i64 x.s::(intC x.B++intC x.O):=by simp[intC,inoL]
 have e3:((intC (inoL x)).drop 3).take 4=intC x.B:=by
  rw[hc];show(intC x.B++intC x.O).take 4=_
  exact List.take_left' (by rw[intC_len];exact hs.1)
 have e7:((intC (inoL x)).drop 7).take 8=intC x.O:=by
  rw[hc];show((intC x.B++intC x.O).drop 4).take 8=_
  rw[List.drop_left' (by rw[intC_len];exact hs.1),List.take_of_length_le (by rw[intC_len,hs.2];omega)]
 have e0:((intC (inoL x)).drop 0).take 1=[.int .i64 x.k]:=by rw[hc];rfl
 have e1:((intC (inoL x)).drop 1).take 1=[.int .i64 x.l]:=by rw[hc];rfl
 have e2:((intC (inoL x)).drop 2).take 1=[.int .i64 x.s]:=by rw[hc];rfl
 have k0:=int_key2 (hI x.k (by simp[inoL]));have k1:=int_key2 (hI x.l (by simp[inoL]));have k2:=int_key2 (hI x.s (by simp[inoL]));have k3:=key4 (L:=x.B) (fun n h=>hI n (by simp[inoL,h])) hs.1;have k4:=key8 (L:=x.O) (fun n h=>hI n (by simp[inoL,h])) hs.2;simp only[intC_len,inoL_len hs,cells15,true_and];rw[if_pos (by kernel_rfl)];simp only[List.mapM_cons,List.mapM_nil,cells1,cells4,cells8,e0,e1,e2,e3,e7,k0,k1,k2,k3,k4];simp[inoL]
theorem ino_formed{x:Gd.Ino}(hs:x.Shape):(inoV x).formed prog 72=true:=by
 unfold inoV Value.formed;rw[underlying72];simp[inoC_size hs,cells15]
theorem ino_eq{x y:Gd.Ino}(hx:x.Shape)(hy:y.Shape)(hxI:AllI (inoL x))(hyI:AllI (inoL y))(w:World):(Op.equal 72 (inoV x) (inoV y)).run prog w= .ok (decide (x=y)) w:=by
 obtain⟨r,hr,hiff⟩:=run_equalIn_deep (P:=prog) 9997 3 72 inoKey w 3 3 (inoV x) (inoV y) _ _ (ino_formed hx) (ino_formed hy) (ino_lits hx hxI) (ino_lits hy hyI);refine hr.trans ?_;congr 1
 rw[Bool.eq_iff_iff,hiff,decide_eq_true_iff];constructor
 ·intro h;have h2:=(List.map_inj_right (fun a b e=>(Lit.int.inj e).2)).1 h;obtain⟨k,l,s,B,O⟩:=x;obtain⟨k',l',s',B',O'⟩:=y;simp only[inoL,List.cons.injEq]at h2;obtain⟨rfl,rfl,rfl,h3⟩:=h2;obtain⟨rfl,rfl⟩:=List.append_inj h3 (by rw[hx.1,hy.1]);rfl
 ·intro h;rw[h]
theorem ino_eql{x y:Gd.Ino}(hx:x.Shape)(hy:y.Shape)(hxI:AllI (inoL x))(hyI:AllI (inoL y))(w:World):(binOp .eql 72 (inoV x) (inoV y)).run prog w= .ok (.bool (decide (x=y))) w:=by
 have h:=ino_eq hx hy hxI hyI w;unfold inoV at h⊢;simp[binOp,h]
theorem noIno_shape:Gd.noIno.Shape:=⟨rfl,rfl⟩
theorem noIno_all:AllI (inoL Gd.noIno):=fun n h=>by
 have:n=0:=by simp[inoL,Gd.noIno]at h;exact h
 rw[this];rfl
theorem mayI_none{x:Gd.Ino}(hs:x.Shape)(hk:x.k=0):Gd.mayI x=decide (x=Gd.noIno):=by
 rw[Bool.eq_iff_iff,decide_eq_true_iff];constructor
 ·intro h;exact Gd.mayI_zero hs h hk
 ·intro h;rw[h];rfl
theorem noGuard:prog.eqGuardType prog.depth 72=false:=by kernel_rfl
theorem ino_guard(o:BinOp)(x y:Operand)(cs ds:Array Value)(w:World):(eqGuard o 72 x y (.agg cs) (.agg ds)).run prog w= .ok () w:=by
 have hp:∀w:World,(Sem.program Sem.pure:Sem Program).run prog w= .ok prog w:=fun _=>rfl;simp only[eqGuard]
 cases o<;>simp[program,hp,noGuard]
theorem InoAt.load{w:World}{b:Nat}{x:Gd.Ino}(h:InoAt w b x):(Instr.loadAt 72 (.pointer (some ⟨b,0,none⟩))).run prog w= .ok (.agg (inoC x)) w:=by
 have:=run_loadAt_mid (P:=prog) w b 0 72 (intC (inoL x)) _ h.range underlying72 rfl (by rw[intC_len,inoL_len h.shape];exact sizeIno)
 exact this
theorem wpList_load_guarded{P:Program}{ops:Array Oper}{rest:List Oper}{op:Oper}{a:Act}{w:World}{Q:Exit→Act→World→Prop}(i:Nat)(b:Bool)(hgd:op.guard=some (i,b))(hw:Region.wanted op (yielded ops a.tmps)=true)(ty:TypeId)(x:Operand)(ho:op.op= .load ty x)(p v:Value)(hx:a.eval x=p)
 (hr:(Instr.loadAt ty p).run P w= .ok v w)(h:wpList P ops Q rest (a.put op.dst v) w):wpList P ops Q (op::rest) a w:=
 wpList_step fun K hK=>by
  rw[if_pos hw];unfold Oper.wp execOp;simp only[ho,hx,Sem.run_bind,Sem.run_pure,hr,Result.andThen_ok];exact hK _ _ h
theorem wpList_bin{P:Program}{ops:Array Oper}{rest:List Oper}{op:Oper}{a:Act}{w:World}{Q:Exit→Act→World→Prop}(hgd:op.guard=none)(o:BinOp)(t ty:TypeId)(x y:Operand)(ho:op.op= .binOp o t x y ty)(u v r:Value)(hx:a.eval x=u)(hy:a.eval y=v)
 (hq:(eqGuard o t x y u v).run P w= .ok () w)(hr:(binOp o t u v).run P w= .ok r w)(h:wpList P ops Q rest (a.put op.dst r) w):wpList P ops Q (op::rest) a w:=
 wpList_plain hgd fun _ hK=>by
  unfold Oper.wp execOp;simp only[ho,hx,hy,Sem.run_bind,Sem.run_pure,hq,hr,Result.andThen_ok];exact hK _ _ h
theorem may_ino(x:Gd.Ino)(hx:x.Shape)(hI:AllI (inoL x))(w:World):Calls prog 126 #[inoV x] w fun e w'=>e= .returned (.bool (Gd.mayI x))∧Below w.heap.size w w':=by
 obtain⟨hb0,hbb⟩:=ino_box w hx;obtain⟨b,hbe⟩:=nm w.heap.size;obtain⟨wb,hwb⟩:=nm (w.alloc (.cells (inoC x) 72));rw[←hwb,←hbe]at hb0;rw[←hwb]at hbb;have hBI:AllI x.B:=fun n h=>hI n (by simp[inoL,h]);have Hbe:=hid hbe.symm;have HBb:=hid hbb;have HWb:=hid hwb;have HI:=hid hb0;have HS:=hid (inoC_size hx);have k0:=hb0.c0;have k1:=hb0.c1;have k2:=hb0.c2;obtain⟨k,hk⟩:=nm x.k;obtain⟨l,hl⟩:=nm x.l;obtain⟨s,hs⟩:=nm x.s;rw[←hk]at k0;rw[←hl]at k1;rw[←hs]at k2;have HEq:=hid (ino_eql hx noIno_shape hI noIno_all wb);have HZ:Hid (k=0→Gd.mayI x=decide (x=Gd.noIno)):=hid fun h=>mayI_none hx (hk▸h);have HF:Hid (k=1→Gd.mayI x=((((decide (0≤l)&&decide (l≤((20:Nat):Int)))&&(decide (0≤s)&&decide (s≤((256:Nat):Int))))&&Gd.opnB 8 x.O)&&Gd.blkB 1 s 0 [] x.B)):=hid fun h=>by
  unfold Gd.mayI;rw[←hk,if_neg (by omega),if_pos h,hl,hs];simp only[Bool.and_assoc];rfl
 have HD:Hid (k=2→Gd.mayI x=(((decide (l=1)&&(decide (0≤s)&&decide (s≤((16:Nat):Int))))&&Gd.opnB 0 x.O)&&Gd.blkB 2 s 0 [] x.B)):=hid fun h=>by
  unfold Gd.mayI;rw[←hk,if_neg (by omega),if_neg (by omega),if_pos h,hl,hs];simp only[Bool.and_assoc];rfl
 have HE:Hid (k≠0→k≠1→k≠2→Gd.mayI x=false):=hid fun h0 h1 h2=>by
  unfold Gd.mayI;rw[←hk,if_neg h0,if_neg h1,if_neg h2]
 have HBl:=hid (fun W=>blocks_any x hx hBI W);have HO8:Hid (Calls prog 154 #[inoV x,.int .i64 8] wb fun e w'=>e= .returned (.bool (Gd.opnB 8 x.O))∧Below wb.heap.size wb w'):=hid (opens_any x hx 8 wb);have HO0:Hid (Calls prog 154 #[inoV x,.int .i64 0] wb fun e w'=>e= .returned (.bool (Gd.opnB 0 x.O))∧Below wb.heap.size wb w'):=hid (opens_any x hx 0 wb);rw[←hk,←hs]at HBl;obtain⟨R,hR⟩:=nm (Gd.mayI x);rw[←hR]at HZ HF HD HE⊢;clear hbe hbb hwb hb0 hx hI hBI hk hl hs hR;go_enter func126,ntmps126;unfold inoV at*;go_upto_region 1 with fail
 rw[←HWb.o,Hbe.o];by_cases h0:k=0
 ·subst h0;have HX:=hid (HZ.o rfl);have hq:=HEq.o;obtain⟨g,hg⟩:=nm (decide (x=Gd.noIno));rw[←hg]at hq HX;clear hg HEq HZ HF HD HE HBl HO8 HO0;go_wp2_with(first|(refine wpList_bin rfl .eql 72 _ _ _ rfl (inoV x) (inoV Gd.noIno) (.bool g) rfl rfl (ino_guard _ _ _ _ _ _) hq ?_)|(refine wpList_load_row rfl 72 _ rfl b rfl 72 (inoC x) (0,0) _ (by first|exact HI3.o.row|exact HI.o.row) underlying72 rfl (by rw[HS.o];exact sizeIno) ?_))
  go_ret
  exact⟨ret_bool HX.o.symm,HBb.o⟩
 have HL2:=hid HI.o.load;by_cases h1:k=1
 ·subst h1;have HX:=hid (HF.o rfl);clear HZ HF HD HE h0;have HR:=HX;clear HX HEq;obtain⟨b3,hb3⟩:=nm (Gd.opnB 8 x.O);obtain⟨b4,hb4⟩:=nm (Gd.blkB 1 s 0 [] x.B);have HOp:=HO8;rw[←hb3]at HOp HR;rw[←hb4]at HBl HR;clear hb3 hb4 HO8 HO0;have HN1:Hid (Calls prog 153 #[.int .i64 l,.int .i64 20] wb fun e w'=>e= .returned (.bool (decide (0≤l)&&decide (l≤((20:Nat):Int))))∧w'=wb):=hid (inoin_any l 20 wb);have HN2:Hid (Calls prog 153 #[.int .i64 s,.int .i64 256] wb fun e w'=>e= .returned (.bool (decide (0≤s)&&decide (s≤((256:Nat):Int))))∧w'=wb):=hid (inoin_any s 256 wb);obtain⟨b1,hb1⟩:=nm ((decide (0≤l)&&decide (l≤((20:Nat):Int))));obtain⟨b2,hb2⟩:=nm ((decide (0≤s)&&decide (s≤((256:Nat):Int))));rw[←hb1]at HN1 HR;rw[←hb2]at HN2 HR;clear hb1 hb2
  cases b1 with
  |false=>
   go_wp2_with(first|(go_at_call 153;with_reducible refine HN1.o.mono ?_;rintro e w2 ⟨rfl,rfl⟩))
   go_ret
   exact⟨ret_bool (by rw[HR.o];rfl),HBb.o⟩
  |true=>
   cases b2 with
   |false=>
    go_wp2_with(first|(go_at_call 153;with_reducible refine HN1.o.mono ?_;rintro e w2 ⟨rfl,rfl⟩)|(go_at_call 153;with_reducible refine HN2.o.mono ?_;rintro e w2 ⟨rfl,rfl⟩))
    go_ret
    exact⟨ret_bool (by rw[HR.o];rfl),HBb.o⟩
   |true=>
    cases b3 with
    |false=>
     go_wp2_with(first|(refine wpList_load_guarded _ _ rfl (by rfl) 72 _ rfl (.pointer (some ⟨b,0,none⟩)) (.agg (inoC x)) rfl (by first|exact HL3.o|exact HL2.o) ?_)|(go_at_call 153;with_reducible refine HN1.o.mono ?_;rintro e w2 ⟨rfl,rfl⟩)|(go_at_call 153;with_reducible refine HN2.o.mono ?_;rintro e w2 ⟨rfl,rfl⟩)|(go_at_call 154;with_reducible refine HOp.o.mono ?_;rintro e w3 ⟨rfl,hb3⟩;have HB3:=HBb.t hb3;have HL3:=hid (HI.o.keep hb3).load;clear hb3))
     go_ret
     exact⟨ret_bool (by rw[HR.o];rfl),HB3.o⟩
    |true=>
     go_wp2_with(first|(refine wpList_load_guarded _ _ rfl (by rfl) 72 _ rfl (.pointer (some ⟨b,0,none⟩)) (.agg (inoC x)) rfl (by first|exact HL3.o|exact HL2.o) ?_)|(go_at_call 153;with_reducible refine HN1.o.mono ?_;rintro e w2 ⟨rfl,rfl⟩)|(go_at_call 153;with_reducible refine HN2.o.mono ?_;rintro e w2 ⟨rfl,rfl⟩)|(go_at_call 154;with_reducible refine HOp.o.mono ?_;rintro e w3 ⟨rfl,hb3⟩;have HB3:=HBb.t hb3;have HL3:=hid (HI.o.keep hb3).load;clear hb3)|(go_at_call 155;with_reducible refine(HBl.o w3).mono ?_;rintro e w4 ⟨rfl,hb4⟩;have HB4:=HB3.t hb4;clear hb4))
     go_ret
     exact⟨ret_bool (by rw[HR.o];rfl),HB4.o⟩
 by_cases h2:k=2
 ·subst h2;have HX:=hid (HD.o rfl);clear HZ HF HD HE h0 h1;have HR:=HX;clear HX HEq;obtain⟨b3,hb3⟩:=nm (Gd.opnB 0 x.O);obtain⟨b4,hb4⟩:=nm (Gd.blkB 2 s 0 [] x.B);have HOp:=HO0;rw[←hb3]at HOp HR;rw[←hb4]at HBl HR;clear hb3 hb4 HO8 HO0;have HN2:Hid (Calls prog 153 #[.int .i64 s,.int .i64 16] wb fun e w'=>e= .returned (.bool (decide (0≤s)&&decide (s≤((16:Nat):Int))))∧w'=wb):=hid (inoin_any s 16 wb);obtain⟨b2,hb2⟩:=nm ((decide (0≤s)&&decide (s≤((16:Nat):Int))));rw[←hb2]at HN2 HR;clear hb2;by_cases hl1:l=1
  ·subst hl1
   cases b2 with
   |false=>
    go_wp2_with(first|(go_at_call 153;with_reducible refine HN2.o.mono ?_;rintro e w2 ⟨rfl,rfl⟩))
    go_ret
    exact⟨ret_bool (by rw[HR.o];rfl),HBb.o⟩
   |true=>
    cases b3 with
    |false=>
     go_wp2_with(first|(refine wpList_load_guarded _ _ rfl (by rfl) 72 _ rfl (.pointer (some ⟨b,0,none⟩)) (.agg (inoC x)) rfl (by first|exact HL3.o|exact HL2.o) ?_)|(go_at_call 153;with_reducible refine HN2.o.mono ?_;rintro e w2 ⟨rfl,rfl⟩)|(go_at_call 154;with_reducible refine HOp.o.mono ?_;rintro e w3 ⟨rfl,hb3⟩;have HB3:=HBb.t hb3;have HL3:=hid (HI.o.keep hb3).load;clear hb3))
     go_ret
     exact⟨ret_bool (by rw[HR.o];rfl),HB3.o⟩
    |true=>
     go_wp2_with(first|(refine wpList_load_guarded _ _ rfl (by rfl) 72 _ rfl (.pointer (some ⟨b,0,none⟩)) (.agg (inoC x)) rfl (by first|exact HL3.o|exact HL2.o) ?_)|(go_at_call 153;with_reducible refine HN2.o.mono ?_;rintro e w2 ⟨rfl,rfl⟩)|(go_at_call 154;with_reducible refine HOp.o.mono ?_;rintro e w3 ⟨rfl,hb3⟩;have HB3:=HBb.t hb3;have HL3:=hid (HI.o.keep hb3).load;clear hb3)|(go_at_call 155;with_reducible refine(HBl.o w3).mono ?_;rintro e w4 ⟨rfl,hb4⟩;have HB4:=HB3.t hb4;clear hb4))
     go_ret
     exact⟨ret_bool (by rw[HR.o];rfl),HB4.o⟩
  ·have HR0:Hid (R=false):=hid (by rw[HR.o,decide_eq_false hl1];rfl);clear HR;go_wp2_with(first|fail)
   go_ret
   exact⟨ret_bool HR0.o.symm,HBb.o⟩
 have HX:=hid (HE.o h0 h1 h2);clear HZ HF HD HE HEq HBl HO8 HO0;go_wp2;go_ret
 exact⟨ret_bool HX.o.symm,HBb.o⟩
end
section
attribute [local go_sem] Oper.semAt_some
theorem made_bytes(n:Nat)(hn:n≤100000)(W:World):(Instr.makeSlice 23 (.int .i64 n) (.int .i64 n)).run prog W= .ok (.slice (some ⟨W.heap.size,0,none⟩) n n) (W.alloc (.cells (cellsB (List.replicate n 0)) 5)):=by
 obtain⟨i0,hi,hz0,hz1,hz2⟩:=info_parts infoU8;have:=run_makeSlice (P:=prog) (w:=W) 23 5 i0 _ underlying23 hi hz0 .i64 .i64 n n (by omega) (by omega) (by rw[hz1,Int.toNat_natCast];omega) (by rw[hz2];omega) (by omega)
 rw[hz1,Int.toNat_natCast,Nat.mul_one]at this;rw[this];congr 3
 unfold madeCells cellsB Lib.byteCells;apply Array.ext
 ·simp
 ·intro i h1 h2;simp only[Array.getElem_map,Array.getElem_range,List.getElem_toArray,List.getElem_map,List.getElem_replicate];have hc:(Value.int .u8 0).cells=#[.int .u8 0]:=rfl;rw[hc,getElem!_pos _ _ (by simp;omega)];simp
theorem own_made(W:World)(n:Nat)(hn:n≤100000)(B:Nat)(hB:B≤W.heap.size):OwnB (W.alloc (.cells (cellsB (List.replicate n 0)) 5)) B (.slice (some ⟨W.heap.size,0,none⟩) n n) (List.replicate n 0):=by
 refine⟨by rw[byteCells_len,Nat.mul_one],Or.inr ⟨W.heap.size,n,cellsB (List.replicate n 0),by rw[List.length_replicate],hB,heap_alloc_new _ _,by rw[List.length_replicate];exact Nat.le_refl _,by unfold maxLen;omega,?_,?_⟩⟩
 ·unfold cellsB;rw[List.size_toArray,byteCells_len,List.length_replicate,Nat.mul_one]
 ·rw[List.length_replicate,Nat.mul_one];unfold cellsB;exact List.take_of_length_le (by rw[byteCells_len,List.length_replicate];exact Nat.le_refl _)
theorem le_one(n:Int):Gd.le n.toNat 1=[Gd.byteOf n]:=rfl
theorem bytes_take{L:List Int}{i:Nat}{n:Int}(h:L[i]? =some n):(L.take (i+1)).map Gd.byteOf=(L.take i).map Gd.byteOf++[Gd.byteOf n]:=by
 rw[List.take_add_one,h];simp
def Bad1(w:World)(e:Ending)(w':World):Prop:=e= .returned (.tuple #[.slice none 0 0,.int .i64 1])∧Below w.heap.size w w'
theorem puti_bad(x:Gd.Ino)(hx:x.Shape)(hI:AllI (inoL x))(hm:Gd.mayI x=false)(w:World):Calls prog 89 #[inoV x] w (Bad1 w):=by
 obtain⟨hb0,hbb⟩:=ino_box w hx;obtain⟨b,hbe⟩:=nm w.heap.size;obtain⟨wb,hwb⟩:=nm (w.alloc (.cells (inoC x) 72));rw[←hwb,←hbe]at hb0;rw[←hwb]at hbb;have Hbe:=hid hbe.symm;have HBb:=hid hbb;have HWb:=hid hwb;have HI:=hid hb0;have HS:=hid (inoC_size hx);have HSh:=hid hx;have HMay:=hid (may_ino x hx hI wb);clear hbe hbb hwb hb0 hx hI;rw[hm]at HMay;clear hm;go_enter func89,ntmps89;unfold inoV at*;go_upto_region 1 with fail
 rw[←HWb.o,Hbe.o];go_wp2_with(first|(refine wpList_load_row rfl 72 _ rfl b rfl 72 (inoC x) (0,0) _ HI.o.row underlying72 rfl (by rw[HS.o];exact sizeIno) ?_)|(go_at_call 126;refine HMay.o.mono ?_;rintro e w1 ⟨rfl,hb1⟩))
 go_ret2
 exact⟨rfl,HBb.o.trans (hb1.mono HBb.o.size)⟩
theorem puti_any(x:Gd.Ino)(hx:x.Shape)(hI:AllI (inoL x))(hm:Gd.mayI x=true)(w:World):Calls prog 89 #[inoV x] w (Loads w (Gd.inoB x)):=by
 obtain⟨hb0,hbb⟩:=ino_box w hx;obtain⟨b,hbe⟩:=nm w.heap.size;obtain⟨wb,hwb⟩:=nm (w.alloc (.cells (inoC x) 72));rw[←hwb,←hbe]at hb0;rw[←hwb]at hbb;have Hbe:=hid hbe.symm;have HBb:=hid hbb;have HWb:=hid hwb;have HI:=hid hb0;have HS:=hid (inoC_size hx);have HSh:=hid hx;have HMay:=hid (may_ino x hx hI wb);clear hbe hbb hwb hb0 hx hI;rw[hm]at HMay;have hin:=Gd.mayI_in hm;obtain⟨⟨ik1,ik2⟩,⟨il1,il2⟩,⟨is1,is2⟩,iB,iO⟩:=hin;obtain⟨kn,hk⟩:∃n:Nat,x.k=n:=⟨x.k.toNat,by omega⟩;obtain⟨ln,hl⟩:∃n:Nat,x.l=n:=⟨x.l.toNat,by omega⟩;obtain⟨sn,hs⟩:∃n:Nat,x.s=n:=⟨x.s.toNat,by omega⟩;have Hk:=hid (And.intro hk (And.intro hl hs));have HIn:=hid (And.intro iB iO);have hk2:kn≤2:=by omega
 have hl20:ln≤20:=by omega
 have hs256:sn≤256:=by omega
 have HL4:Hid ((intC x.B).length=4):=hid (by rw[intC_len];exact HSh.o.1);have HL8:Hid ((intC x.O).length=8):=hid (by rw[intC_len];exact HSh.o.2);clear hk hl hs iB iO ik1 ik2 il1 il2 is1 is2 hm;go_enter func89,ntmps89;unfold inoV at*;go_upto_region 1 with fail
 rw[←HWb.o,Hbe.o];go_upto_region 3 with(first|(refine wpList_load_row rfl 72 _ rfl b rfl 72 (inoC x) (0,0) _ HI.o.row underlying72 rfl (by rw[HS.o];exact sizeIno) ?_)|(go_at_call 126;refine HMay.o.mono ?_;rintro e w1 ⟨rfl,hb1⟩))
 have HB1:=HBb.t hb1;have HI1:=hid (HI.o.keep hb1);clear hb1 HMay;have c0:=HI1.o.c0;rw[Hk.o.1]at c0;by_cases hz:kn=0
 ·subst hz;have hmk:(Instr.makeSlice 23 (.int .i64 64) (.int .i64 64)).run prog w1= .ok (.slice (some ⟨w1.heap.size,0,none⟩) 64 64) (w1.alloc (.cells (cellsB (List.replicate 64 0)) 5)):=made_bytes 64 (by omega) w1;have HMk:=hid (own_made w1 64 (by omega) w.heap.size HB1.o.size);have HBm:=hid ((Below.refl w1.heap.size w1).alloc (Nat.le_refl _) (.cells (cellsB (List.replicate 64 0)) 5));have HE:Hid (Gd.inoB x=List.replicate 64 0):=hid (by unfold Gd.inoB;rw[if_pos (by rw[Hk.o.1];rfl)]);obtain⟨wm,hwm⟩:=nm (w1.alloc (.cells (cellsB (List.replicate 64 0)) 5));rw[←hwm]at hmk HMk HBm;clear hwm;go_wp2;go_ret2
  refine⟨_,rfl,?_,HB1.o.trans (HBm.o.mono HB1.o.size)⟩;rw[HE.o];exact HMk.o
 have hz1:¬(kn:Int)=0:=by omega
 have HE:Hid (Gd.inoB x=Gd.sealB (Gd.inoBody x)):=hid (by unfold Gd.inoB;rw[if_neg (by rw[Hk.o.1];omega)]);clear hz;have HP1:=hid (putn_any (.slice none 0 0) [] kn 1 (Or.inl rfl) (by omega) (by omega) w1 (OwnB.at_ (B:=0) (World.ownsRow_nil _ _ _ _)) (by simp));go_wp2_with fail
 refine HP1.o.mono ?_;rintro e w2 ⟨v2,rfl,ho2,hb2⟩;rw[List.nil_append]at ho2;have HO2:=hid (ho2.mono HB1.o.size);have HB2:=HB1.t hb2;have HI2:=hid (HI1.o.keep hb2);clear ho2 hb2 HP1 c0;have c1:=HI2.o.c1;rw[Hk.o.2.1]at c1;have HP2:=hid (putn_any v2 _ ln 1 (Or.inl rfl) (by omega) (by omega) w2 HO2.o.at_ (by rw[Gd.le_length];omega));go_wp2_with fail
 refine HP2.o.mono ?_;rintro e w3 ⟨v3,rfl,ho3,hb3⟩;have HO3:=hid (ho3.mono HB2.o.size);have HB3:=HB2.t hb3;have HI3:=hid (HI2.o.keep hb3);clear ho3 hb3 HP2 c1 HO2;have c2:=HI3.o.c2;rw[Hk.o.2.2]at c2;have HP3:=hid (putn_any v3 _ sn 2 (Or.inr (Or.inl rfl)) (by omega) (by omega) w3 HO3.o.at_ (by rw[List.length_append,Gd.le_length,Gd.le_length];omega));go_wp2_with fail
 refine HP3.o.mono ?_;rintro e w4 ⟨v4,rfl,ho4,hb4⟩;have HO4:=hid (ho4.mono HB3.o.size);have HB4:=HB3.t hb4;have HI4:=hid (HI3.o.keep hb4);clear ho4 hb4 HP3 c2 HO3;obtain⟨L0,hL0⟩:=nm (Gd.le kn 1++Gd.le ln 1++Gd.le sn 2);rw[←hL0]at HO4;have HL0:Hid (L0.length=4):=hid (by rw[hL0];simp[Gd.le_length]);have HLb:Hid (Gd.inoBody x=L0++x.B.map Gd.byteOf++x.O.map Gd.byteOf++List.replicate 44 0):=hid (by
  unfold Gd.inoBody;rw[hL0,Hk.o.1,Hk.o.2.1,Hk.o.2.2];rfl)
 clear hL0 hk2 hl20 hs256;go_upto_region 9 with(refine wpList_load_mid rfl 70 _ rfl b 3 rfl (intC x.B) _ HI4.o.blocks underlying70 rfl (by rw[HL4.o];exact size4) ?_)
 go_loopw[4,29] (fun u z wr=>∃i:Nat,z= .int .i64 i∧i≤4∧Hid (OwnB wr w.heap.size u (L0++(x.B.take i).map Gd.byteOf))∧Hid (Below w.heap.size w wr∧Below w4.heap.size w4 wr)) (fun _ z _=>4-(intOf z).toNat)
 case atStart=>exact⟨0,rfl,by omega,hid (by have:=HO4.o;rw[List.take_zero,List.map_nil,List.append_nil];exact this),hid ⟨HB4.o,Below.refl _ _⟩⟩
 case round=>
  obtain⟨i,rfl,hi,HO,HB⟩:=hrel;by_cases hlt:i<4
  ·obtain⟨n,hn⟩:∃n,x.B[i]? =some n:=⟨_,List.getElem?_eq_getElem (by have:=HSh.o;have:=this.1;omega)⟩;have hc:=run_index_one 70 3 4 (intC x.B).toArray .i64 .i64 i _ wr underlying70 underlying3 infoInts hlt (by rw[List.getElem?_toArray];exact intC_get hn);have h1:(i:Int)<4:=by omega
   have h0:(0:Int)≤i:=by omega
   have hrng:=HIn.o.1 n (List.mem_of_getElem? hn);have HT:=hid (bytes_take hn);obtain⟨m,rfl⟩:∃m:Nat,n=m:=⟨n.toNat,by omega⟩;have HLn:Hid ((L0++(x.B.take i).map Gd.byteOf).length≤100):=hid (by
    have h1:=HL0.o;have h2:=HSh.o.1;have h3:=HSh.o.2;simp only[List.length_append,List.length_map,List.length_take];omega)
   have HPt:=hid (putn_any u4 _ m 1 (Or.inl rfl) (by omega) (by omega) wr HO.o.at_ (by have:=HLn.o;omega));clear hn hlt hrng;go_wp2_with fail
   refine HPt.o.mono ?_;rintro e w5 ⟨v5,rfl,ho5,hb5⟩;have HO5:Hid (OwnB w5 w.heap.size v5 (L0++(x.B.take (i+1)).map Gd.byteOf)):=hid (by
    rw[HT.o,←List.append_assoc];exact ho5.mono HB.o.1.size)
   have HB5:Hid (Below w.heap.size w w5∧Below w4.heap.size w4 w5):=hid ⟨HB.o.1.trans (hb5.mono HB.o.1.size),HB.o.2.trans (hb5.mono HB.o.2.size)⟩;clear ho5 hb5 HPt;go_wp2;go_roundw
   case rel=>exact⟨i+1,by go_num,by omega,HO5,HB5⟩
   case measure=>simp[intOf];omega
  ·obtain rfl:i=4:=by omega
   clear hlt;have HOa:Hid (OwnB wr w.heap.size u4 (L0++x.B.map Gd.byteOf)):=hid (by
    have:=HO.o
    rw[List.take_of_length_le (by have:=HSh.o.1;omega)]at this;exact this)
   obtain⟨w6,rfl⟩:=nm wr;have HI6:=hid (HI4.o.keep HB.o.2);have HB6:=hid HB.o.1;have HO6:=HOa;obtain⟨v6,rfl⟩:=nm u4;clear HO HB HOa;go_upto_region 14 with(refine wpList_load_mid rfl 36 _ rfl b 7 rfl (intC x.O) _ HI6.o.opens underlying36 rfl (by rw[HL8.o];exact size8) ?_)
   go_loopw[4,38] (fun u z wr=>∃i:Nat,z= .int .i64 i∧i≤8∧Hid (OwnB wr w.heap.size u ((L0++x.B.map Gd.byteOf)++(x.O.take i).map Gd.byteOf))∧Hid (Below w.heap.size w wr∧Below w6.heap.size w6 wr)) (fun _ z _=>8-(intOf z).toNat)
   case atStart=>exact⟨0,rfl,by omega,hid (by have:=HO6.o;rw[List.take_zero,List.map_nil,List.append_nil];exact this),hid ⟨HB6.o,Below.refl _ _⟩⟩
   case round=>
    obtain⟨i,rfl,hi,HO,HB⟩:=hrel;by_cases hlt:i<8
    ·obtain⟨n,hn⟩:∃n,x.O[i]? =some n:=⟨_,List.getElem?_eq_getElem (by have:=HSh.o;have:=this.2;omega)⟩;have hc:=run_index_one 36 3 8 (intC x.O).toArray .i64 .i64 i _ wr underlying36 underlying3 infoInts hlt (by rw[List.getElem?_toArray];exact intC_get hn);have h1:(i:Int)<8:=by omega
     have h0:(0:Int)≤i:=by omega
     have hrng:=HIn.o.2 n (List.mem_of_getElem? hn);have HT:=hid (bytes_take hn);obtain⟨m,rfl⟩:∃m:Nat,n=m:=⟨n.toNat,by omega⟩;have HLn:Hid (((L0++x.B.map Gd.byteOf)++(x.O.take i).map Gd.byteOf).length≤100):=hid (by
      have h1:=HL0.o;have h2:=HSh.o.1;have h3:=HSh.o.2;simp only[List.length_append,List.length_map,List.length_take];omega)
     have HPt:=hid (putn_any u4 _ m 1 (Or.inl rfl) (by omega) (by omega) wr HO.o.at_ (by have:=HLn.o;omega));clear hn hlt hrng;go_wp2_with fail
     refine HPt.o.mono ?_;rintro e w5 ⟨v5,rfl,ho5,hb5⟩;have HO5:Hid (OwnB w5 w.heap.size v5 ((L0++x.B.map Gd.byteOf)++(x.O.take (i+1)).map Gd.byteOf)):=hid (by
      rw[HT.o,←List.append_assoc];exact ho5.mono HB.o.1.size)
     have HB5:Hid (Below w.heap.size w w5∧Below w6.heap.size w6 w5):=hid ⟨HB.o.1.trans (hb5.mono HB.o.1.size),HB.o.2.trans (hb5.mono HB.o.2.size)⟩;clear ho5 hb5 HPt;go_wp2;go_roundw
     case rel=>exact⟨i+1,by go_num,by omega,HO5,HB5⟩
     case measure=>simp[intOf];omega
    ·obtain rfl:i=8:=by omega
     clear hlt;have HOa:Hid (OwnB wr w.heap.size u4 (L0++x.B.map Gd.byteOf++x.O.map Gd.byteOf)):=hid (by
      have:=HO.o
      rw[List.take_of_length_le (by have:=HSh.o.2;omega)]at this;exact this)
     have HBa:=hid HB.o.1;clear HO HB;obtain⟨L1,hL1⟩:=nm (L0++x.B.map Gd.byteOf++x.O.map Gd.byteOf);rw[←hL1]at HOa HLb;have HL1:Hid (L1.length=16):=hid (by
      rw[hL1];have h1:=HL0.o;have h2:=HSh.o.1;have h3:=HSh.o.2;simp only[List.length_append,List.length_map];omega)
     clear hL1;obtain⟨A4,c4,hv4,-⟩:=HOa.o.at_;rw[HL1.o]at hv4;subst hv4;go_upto_region 18 with fail
     go_wp2_with(at_builtin;refine app_zeros rfl _ _ rfl w.heap.size (.slice A4 16 c4) L1 wr rfl HOa.o 44 _ rfl (by rfl) (by have:=HL1.o;omega) HBa.o.size ?_;intro v7 w7 ho7 hb7)
     rw[←HLb.o]at ho7;have HO7:=hid ho7;have HB7:=hid (HBa.o.trans hb7);obtain⟨X,hX⟩:=nm (Gd.inoBody x);have HXl:Hid (X.length=60):=hid (by rw[hX];exact Gd.inoBody_length HSh.o);rw[←hX]at HO7 HE;have HCr:=hid (crc_any v7 X w7 HO7.o.at_ (by have:=HXl.o;omega));have hcl:=Gd.crc_lt X;have HSl:Hid (Gd.sealB X=X++Gd.le (Gd.crc X) 4):=hid rfl;obtain⟨cc,hcc⟩:=nm (Gd.crc X);rw[←hcc]at HCr HSl hcl;have hc2:(cc:Int)<4294967296:=by omega
     clear hX hcc ho7 hb7 HOa HLb;go_wp2_with fail
     refine HCr.o.mono ?_;rintro e w8 ⟨rfl,hb8⟩;have HB8:=HB7.t hb8;have HO8:=hid (HO7.o.keep hb8);have HP8:=hid (putn_any v7 X cc 4 (Or.inr (Or.inr (Or.inl rfl))) (by omega) (by omega) w8 HO8.o.at_ (by have:=HXl.o;omega));clear hb8 HCr HO7;go_wp2_with fail
     refine HP8.o.mono ?_;rintro e w9 ⟨v9,rfl,ho9,hb9⟩;have HO9:=hid (ho9.mono HB8.o.size);have HB9:=HB8.t hb9;clear ho9 hb9 HP8;go_wp2;go_ret2
     refine⟨v9,rfl,?_,HB9.o⟩;rw[HE.o,HSl.o];exact HO9.o
end
section
attribute [local go_sem] Oper.semAt_some
theorem ba_eq_list(L M:List UInt8):(((⟨L.toArray⟩:ByteArray).toList==(⟨M.toArray⟩:ByteArray).toList):Bool)=decide (L=M):=by
 rw[Bool.eq_iff_iff,decide_eq_true_iff,beq_iff_eq];constructor
 ·intro h;have h1:=Lib.toList_data (⟨L.toArray⟩:ByteArray);have h2:=Lib.toList_data (⟨M.toArray⟩:ByteArray);rw[h1,h2]at h;simpa using h
 ·intro h;rw[h]
theorem bequal_any(u v:Value)(L M:List UInt8)(w:World)(hu:BytesAt w u L)(hv:BytesAt w v M):Calls prog 107 #[u,v] w fun e w'=>e= .returned (.bool (decide (L=M)))∧w'=w:=by
 have h1:=conv_any u L w hu;have h2:=conv_any v M w hv;have HE:=hid (ba_eq_list L M);obtain⟨a,ha⟩:∃a:ByteArray,a=⟨L.toArray⟩:=⟨_,rfl⟩;obtain⟨b,hb⟩:∃b:ByteArray,b=⟨M.toArray⟩:=⟨_,rfl⟩;rw[←ha]at h1 HE;rw[←hb]at h2 HE;obtain⟨A,c,rfl,-⟩:=hu;obtain⟨A',c',rfl,-⟩:=hv;clear ha hb;go_enter func107,ntmps107;go_wp2;go_ret
 exact⟨ret_bool HE.o,rfl⟩
namespace Gd
theorem byteOf_nat{n:Int}(h0:0≤n)(h1:n<256):((byteOf n).toNat:Int)=n:=by
 unfold byteOf;rw[UInt8.toNat_ofNat'];omega
structure InoBytes(x:Ino)(L:List UInt8):Prop where
 len:L.length=64
 k:∃b:UInt8,L[0]? =some b∧(b.toNat:Int)=x.k
 l:∃b:UInt8,L[1]? =some b∧(b.toNat:Int)=x.l
 s:getN L 2 2=x.s.toNat
 B:∀j n,x.B[j]? =some n→∃b:UInt8,L[4+j]? =some b∧(b.toNat:Int)=n
 O:∀j n,x.O[j]? =some n→∃b:UInt8,L[8+j]? =some b∧(b.toNat:Int)=n
 sum:getN L 60 4=crc (L.take 60)
 ne:L≠List.replicate 64 0
theorem ino_bytes{x:Ino}(hs:x.Shape)(hm:mayI x=true)(hk:x.k≠0):InoBytes x (inoB x):=by
 have hin:=mayI_in hm;have hbl:=inoBody_length hs;have hB:=hs.1;have hO:=hs.2;have e:inoB x=inoBody x++le (crc (inoBody x)) 4:=by
  unfold inoB;rw[if_neg hk];rfl
 have e2:inoBody x=byteOf x.k::byteOf x.l::(le x.s.toNat 2++(x.B.map byteOf++(x.O.map byteOf++List.replicate 44 0))):=by
  unfold inoBody;rw[le_one,le_one];simp only[List.append_assoc,List.cons_append,List.nil_append]
 have ek:((byteOf x.k).toNat:Int)=x.k:=byteOf_nat hin.k.1 (by have:=hin.k.2;omega);have el:((byteOf x.l).toNat:Int)=x.l:=byteOf_nat hin.l.1 (by have:=hin.l.2;omega);have h0:(inoB x)[0]? =some (byteOf x.k):=by rw[e,e2];rfl
 refine⟨inoB_length hs,⟨_,h0,ek⟩,⟨_,by rw[e,e2];rfl,el⟩,?_,?_,?_,?_,?_⟩
 ·have h:inoB x=[byteOf x.k,byteOf x.l]++(le x.s.toNat 2++((x.B.map byteOf++(x.O.map byteOf++List.replicate 44 0))++le (crc (inoBody x)) 4)):=by
   rw[e,e2];simp only[List.append_assoc,List.cons_append,List.nil_append]
  rw[h];exact getN_mid [byteOf x.k,byteOf x.l] _ x.s.toNat 2 (by have:=hin.s;omega)
 ·intro j n hj;have hjl:=(List.getElem?_eq_some_iff.1 hj).1;have hn:=hin.B n (List.mem_of_getElem? hj);refine⟨byteOf n,?_,byteOf_nat hn.1 (by omega)⟩;rw[e,e2,show 4+j=(2+j)+1+1 by omega,List.getElem?_append_left (by simp[le_length];omega),List.getElem?_cons_succ,List.getElem?_cons_succ,List.getElem?_append_right (by rw[le_length];omega),le_length,show 2+j-2=j by omega,List.getElem?_append_left (by rw[List.length_map];exact hjl),List.getElem?_map,hj];rfl
 ·intro j n hj;have hjl:=(List.getElem?_eq_some_iff.1 hj).1;have hn:=hin.O n (List.mem_of_getElem? hj);refine⟨byteOf n,?_,byteOf_nat hn.1 (by omega)⟩;rw[e,e2,show 8+j=(6+j)+1+1 by omega,List.getElem?_append_left (by simp[le_length];omega),List.getElem?_cons_succ,List.getElem?_cons_succ,List.getElem?_append_right (by rw[le_length];omega),le_length,show 6+j-2=4+j by omega,List.getElem?_append_right (by rw[List.length_map];omega),List.length_map,hB,show 4+j-4=j by omega,List.getElem?_append_left (by rw[List.length_map];exact hjl),List.getElem?_map,hj];rfl
 ·have ht:(inoB x).take 60=inoBody x:=by rw[e,List.take_left' hbl]
  rw[ht,e];have:=getN_mid (inoBody x) [] (crc (inoBody x)) 4 (by have:=crc_lt (inoBody x);omega)
  rw[List.append_nil,hbl]at this;exact this
 ·intro h;rw[h,List.getElem?_replicate]at h0;simp at h0
  rw[←h0]at ek;exact hk ek.symm
end Gd
theorem ino_all{x:Gd.Ino}(hm:Gd.mayI x=true):AllI (inoL x):=by
 have h:=Gd.mayI_in hm;intro n hn;have hI: -9223372036854775808≤n∧n≤9223372036854775807:=by
  simp only[inoL,List.mem_cons,List.mem_append]at hn;have hk:=h.k;have hl:=h.l;have hs:=h.s;rcases hn with rfl|rfl|rfl|hn|hn
  ·omega
  ·omega
  ·omega
  ·have:=h.B n hn;omega
  ·have:=h.O n hn;omega
 unfold I64;simp[Lit.wf,show IntKind.i64.min= -9223372036854775808 from rfl,show IntKind.i64.max=9223372036854775807 from rfl];omega
end
end Go.Proofs.YtckoobkjpndgnaaGreatDoor
