/- Walks: a table's names, rising. -/
import Derived.Shelf.Slices.In.SortNone
import Derived.Sort.KeysCollected
import Derived.Sort.OwnSorted
import Derived.Test.YtjlpkbhgphjpeaaGreatDoorV16
set_option linter.unusedVariables false
set_option linter.unusedSimpArgs false
set_option linter.unusedSectionVars false
set_option maxHeartbeats 8000000
set_option maxRecDepth 100000
namespace Go.Proofs.YtjlpkbhgphjpeaaGreatDoor
open Go.RowKit
open Lib(hid)
open Go.Proofs.Tryz
section
open Go.Shelf Go.Sort
attribute [local go_sem] Oper.semAt_some
namespace Gd
def rawN(T:Tab)(k:Nat):List (List UInt8):=((T.take k).map (·.s)).filter fun s=>decide (s≠[])
def namesT(T:Tab):List (List UInt8):=(rawN T 16).mergeSort leB
theorem rawN_step{T:Tab}(hT:T.length=16){k:Nat}(hk:k<16):rawN T (k+1)=rawN T k++if(entAt T k).s=[]then[]else[(entAt T k).s]:=by
 unfold rawN;rw[List.take_add_one,entAt_get hT hk,List.map_append,List.filter_append];congr 1
 by_cases h:(entAt T k).s=[]
 ·rw[if_pos h];simp[h]
 ·rw[if_neg h];simp[h]
theorem rawN_le(T:Tab)(k:Nat):(rawN T k).length≤k:=by
 unfold rawN;have h1:=List.length_filter_le (fun s:List UInt8=>decide (s≠[])) ((T.take k).map (·.s));have h2:=List.length_take_le k T;rw[List.length_map]at h1;omega
theorem namesT_len(T:Tab):(namesT T).length=(rawN T 16).length:=List.length_mergeSort _
end Gd
theorem Q1{T:Gd.Tab}{k:Nat}{e:Gd.Ent}(he:T[k]? =some e):(zk T).extract (k*2) (k*2+2)=#[.string ⟨e.s.toArray⟩,.int .i64 e.i]:=by
 have h0:=xC (T:=T) 0 he (by omega);have h1:=xC (T:=T) 1 he (by omega);have hl:k<T.length:=(List.getElem?_eq_some_iff.1 he).1;have hs:(zk T).size=T.length*2:=by
  unfold zk;rw[List.size_toArray,xB]
 apply Array.ext
 ·simp[hs];omega
 ·intro i i1 i2;have i3:i<2:=by simpa using i2
  rw[Array.getElem_extract];have hg:∀j (hj:k*2+j<(zk T).size) (v:Value),(T.flatMap xO)[k*2+j]? =some v→(zk T)[k*2+j]=v:=fun j hj v hv=>by
   have:(zk T)[k*2+j]? =some v:=by
    unfold zk;rw[List.getElem?_toArray];exact hv
   exact(Array.getElem?_eq_some_iff.1 this).2
  match i,i3 with
  |0,_=>exact hg 0 _ _ h0
  |1,_=>exact hg 1 _ _ h1
theorem ud{T:Gd.Tab}{k:Nat}{e:Gd.Ent}(hT:T.length=16)(he:T[k]? =some e)(W:World):(Instr.index 77 (.agg (zk T)) (.int .i64 (k:Int))).run prog W= .ok (.agg #[.string ⟨e.s.toArray⟩,.int .i64 e.i]) W:=by
 have hl:k<T.length:=(List.getElem?_eq_some_iff.1 he).1;have hn:(0:Int)≤k∧(k:Int)<((16:Nat):Int):=by omega
 have hp:=Q1 he;obtain⟨j,hj,hs⟩:∃j,prog.info? 75=some j∧j.size=2:=by
  have:=sizeEnt
  cases hq:prog.info? 75 with
  |none=>rw[hq]at this;cases this
  |some j=>exact⟨j,rfl,by rw[hq]at this;simpa using this⟩
 simp[Instr.index,run_underlying underlying77,asIntOf,hn,part,isAgg,run_underlying underlying75,sizeOf,typeInfo,hj,hs,hp,go_sem];try omega
def qm(T:Gd.Tab)(w:World)(e:Ending)(w':World):Prop:=∃A c,e= .returned (.slice A (Gd.namesT T).length c)∧jb w' w.heap.size A (Gd.namesT T)∧Below w.heap.size w w'
theorem Qg(W:World):Calls prog 142 #[.slice none 0 0] W fun e w'=>e= .returned (.tuple #[])∧Below W.heap.size W w':=
 (slices_Sort_string_none none 0 W).mono fun e w' h=>⟨h.1,h.2▸Below.refl _ _⟩
theorem Xr{w:World}{B:Nat}{v:Value}{O:List (List UInt8)}(h:w.ownsRow B 9 1 v O.length (z9 O)):∃A c,v= .slice A O.length c∧jb w B A O:=by
 obtain⟨A,c,hv,_,_,hS⟩:=jc h;exact⟨A,c,hv,hS⟩
theorem qM(T:Gd.Tab)(hT:Gd.TabOk T)(w:World):Calls prog 96 #[zW T] w (qm T w):=by
 obtain⟨i0,hi,hz0,hz1,hz2⟩:=info_parts infoS;have hn:=heap_alloc_new w (.cells (zk T) 77);have hba:=(Below.refl w.heap.size w).alloc (Nat.le_refl _) (.cells (zk T) 77);obtain⟨w2,hw2⟩:=nm (w.alloc (.cells (zk T) 77));obtain⟨tb,htb⟩:=nm w.heap.size;rw[←hw2]at hn hba;rw[←htb]at hn;have HN:=hid hn;have HB2:=hid hba;have HT:=hid hT;have HS:=hid (zF hT.len);have Htb:=hid htb.symm;have Hw2:=hid hw2.symm;have HIx:=hid fun(k:Nat) (hk:k<16) (W:World)=>ud hT.len (Gd.entAt_get hT.len hk) W;clear hn hba hw2 hT htb;unfold zW;go_enter func96,ntmps96;go_upto_region 2 with fail
 rw[Hw2.o,Htb.o];go_upto_region 3 with(refine wpList_load_row rfl 77 _ rfl tb rfl 77 (zk T) (0,0) _ HN.o underlying77 rfl (by rw[HS.o];exact sizeTab) ?_)
 go_loopw[3,7] (fun v z wr=>∃i:Nat,z= .int .i64 i∧i≤16∧Hid (wr.ownsRow w.heap.size 9 1 v (Gd.rawN T i).length (z9 (Gd.rawN T i)))∧Hid (Below w.heap.size w wr)) (fun _ z _=>16-(intOf z).toNat)
 case atStart=>exact⟨0,rfl,by omega,hid (World.ownsRow_nil _ _ _ _),HB2⟩
 case round=>
  obtain⟨i,rfl,hi16,HO,HB⟩:=hrel;by_cases hlt:i<16
  ·have hc:=HIx.o i hlt wr;have h1:(i:Int)<16:=by omega
   have hst:=Gd.rawN_step HT.o.len hlt;obtain⟨en,hen⟩:=nm (Gd.entAt T i);rw[←hen]at hc hst;have hle:=Gd.rawN_le T i;obtain⟨u,hu⟩:∃u:ByteArray,u=⟨en.s.toArray⟩:=⟨_,rfl⟩;have hul:u.data.toList=en.s:=by rw[hu]
   rw[←hu]at hc;by_cases hs:en.s=[]
   ·rw[if_pos hs,List.append_nil]at hst;have hu0:u=⟨#[]⟩:=by rw[hu,hs]
    rw[hu0]at hc;have HO2:Hid (wr.ownsRow w.heap.size 9 1 u3 (Gd.rawN T (i+1)).length (z9 (Gd.rawN T (i+1)))):=hid (by rw[hst];exact HO.o);clear hen hu hul hu0 hst hs hlt hle;go_wp2;go_roundw
    case rel=>exact⟨i+1,by go_num,by omega,hid (HO2.o.alloc _),hid (HB.o.alloc HB.o.size _)⟩
    case measure=>simp[intOf];omega
   ·rw[if_neg hs]at hst;have hue:u.toList.isEmpty=false:=by rw[hu];exact qZ hs
    have HSt:=hid hst;have HUl:=hid hul;have HLe:=hid hle;clear hen hu hul hst hs hlt hle;go_upto_region 6 with fail
    have HE:Hid (wr.alloc (.cells #[.string u,.int .i64 en.i] 75)=wr.alloc (.cells #[.string u,.int .i64 en.i] 75)):=hid rfl;have hb1:Below wr.heap.size wr (wr.alloc (.cells #[.string u,.int .i64 en.i] 75)):=(Below.refl _ _).alloc (Nat.le_refl _) _;have hr1:=cell_of_row _ wr.heap.size 0 _ _ _ (heap_alloc_new wr (.cells #[.string u,.int .i64 en.i] 75));have ho1:=HO.o.alloc (.cells #[.string u,.int .i64 en.i] 75);obtain⟨eb,heb⟩:=nm wr.heap.size;rw[←heb]at hr1⊢;generalize (wr.alloc (.cells #[.string u,.int .i64 en.i] 75))=w1 at hb1 hr1 ho1⊢;have HB1:=HB.t hb1;have HO1:=hid ho1;clear hb1 ho1 HE heb hc
    go_wp2_with(at_builtin;refine wpList_append_own _ rfl _ _ 52 rfl w.heap.size 9 i0 (.string ByteArray.empty) 1 16 underlying52 hi hz0 hz1 hz2 rfl (by decide) _ _ _ rfl (HO1.o.alloc _) ⟨w1.heap.size,0,none⟩ 1 1 [.string u] rfl rfl (cell_one_new _ _ _) (by intro u hu;simp only[List.mem_singleton]at hu;subst hu;rfl) (by have:=HLe.o;unfold maxLen;omega) (by have:=HLe.o;omega) (by have:=HB1.o.size;simp;omega) ?_;intro v' w3 hown' hg3 hnil3)
    have HO3:Hid (w3.ownsRow w.heap.size 9 1 v' (Gd.rawN T (i+1)).length (z9 (Gd.rawN T (i+1)))):=hid (by
     have e1:z9 (Gd.rawN T i)++[.string u]=z9 (Gd.rawN T (i+1)):=by
      rw[HSt.o,jE _ u _ HUl.o]
     rw[e1]at hown';rw[show(Gd.rawN T (i+1)).length=(Gd.rawN T i).length+1 by rw[HSt.o,List.length_append];rfl];exact hown')
    have HB3:Hid (Below w.heap.size w w3):=hid ((HB1.o.alloc HB1.o.size _).grown hg3 (by have:=HB1.o.size;simp;omega) (fun j hj=>(HO1.o.lt j hj).1));clear hown' hg3 hnil3;go_wp2;go_roundw
    case rel=>exact⟨i+1,by go_num,by omega,HO3,HB3⟩
    case measure=>simp[intOf];omega
  ·obtain rfl:i=16:=by omega
   obtain⟨wy,rfl⟩:=nm wr;have hrow:=HO.o;have hrl:=Gd.rawN_le T 16;clear hlt hi16;rcases hrow.2 with⟨rfl,hn0⟩|⟨g,cap',cur,rfl,hbase,hb,h1,h2,h3,h4⟩
   ·have HE:Hid (Gd.namesT T=[]):=hid (by
     unfold Gd.namesT;rw[List.eq_nil_of_length_eq_zero hn0,List.mergeSort_nil])
    clear hrow hn0 HO hrl;go_wp2_with fail
    refine(Qg _).mono ?_
    rintro e w3 ⟨rfl,hb3⟩;have HB3:=HB.t hb3;go_wp2;go_ret
    refine⟨none,0,by rw[HE.o];rfl,?_,HB3.o⟩;rw[HE.o];exact Or.inl rfl
   ·obtain⟨ss,hss⟩:=nm (Gd.rawN T 16)
    (try rw[←hss]at h1)
    (try rw[←hss]at h2)
    (try rw[←hss]at h3)
    (try rw[←hss]at h4)
    (try rw[←hss]at hrl)
    rw[←hss];clear hrow;have h5:cur.toList.take ss.length=z9 ss:=by simpa using h4
    have hH:Holds encStr wy g 0 ss.toArray:=holds_of_block hb h5;have hgl:g<wy.heap.size:=(Array.getElem?_eq_some_iff.1 hb).1;have hsort:=hid (slices_Sort_string g 0 cap' ss wy hH hgl (by omega));have hfin:∀w3,(∃nn os,w3=Sort.grow (Sort.putRow encStr (Sort.ahead wy nn) g 0 (ss.mergeSort fun x y=>decide (x≤y)).toArray) os)→jb w3 w.heap.size (some ⟨g,0,none⟩) (Gd.namesT T)∧Below w.heap.size w w3:=by
     rintro w3 ⟨nn,os,rfl⟩;refine⟨?_,HB.o.grown (grownBy_sorted _) HB.o.size (fun j hj=>by cases hj;exact hbase)⟩;have ho:=ownsRow_sorted (ts:=ss.mergeSort fun x y=>decide (x≤y)) (n:=nn) (os:=os) (by simp) hbase hb h1 h2 h3;have hl:(ss.mergeSort leB).length=ss.length:=List.length_mergeSort _;obtain⟨A,c,hv,hS⟩:=Xr (O:=ss.mergeSort leB) (v:= .slice (some ⟨g,0,none⟩) ss.length cap') (by rw[hl];exact ho);injection hv with hv1 _ _
     unfold Gd.namesT;rw[←hss,hv1];exact hS
    have HFin:=hid hfin;have HLen:Hid ((Gd.namesT T).length=ss.length):=hid (by rw[Gd.namesT_len,hss]);clear hfin hH hb h1 h2 h3 h4 h5 HO hss hgl hrl;go_wp2_with fail
    refine hsort.o.mono ?_;rintro e w3 ⟨rfl,hw3⟩;have HF3:=hid (HFin.o w3 hw3);clear hw3;go_wp2;go_ret
    exact⟨some ⟨g,0,none⟩,cap',by rw[HLen.o];rfl,HF3.o.1,HF3.o.2⟩
end
section
open Go.Shelf
attribute [local go_sem] Oper.semAt_some
def VH(T:Gd.Tab)(w:World)(e:Ending)(w':World):Prop:=∃A c,e= .returned (.tuple #[.slice A (Gd.namesT T).length c,.int .i64 0])∧jb w' w.heap.size A (Gd.namesT T)∧Below w.heap.size w w'
theorem YW{x:Nat}(s:ByteArray)(i:Nat)(T:Gd.Tab)(hT:Gd.TabOk T)(w:World)
 (hW:Ret w 25 #[.pointer (some ⟨x,0,none⟩),.string s] (.tuple #[.int .i64 i,.int .i64 0]))
 (hI:Ret w 28 #[.pointer (some ⟨x,0,none⟩),.int .i64 i] (.tuple #[zW T,.int .i64 0])):
 Calls prog 47 #[.pointer (some ⟨x,0,none⟩),.string s] w (VH T w):=by
 have HW0:=hid (hW w (Below.refl _ _));have HI:=hid hI;have HS:=hid (zF hT.len);have HNm:=hid (qM T hT);unfold qm at HNm;unfold zW at HI HNm;clear hW hI hT;go_enter func47,ntmps47;go_upto_region 4 with(go_at_call 25;refine HW0.o.mono ?_;rintro e w2 ⟨rfl,hb2⟩;have HB2:=hid hb2;clear hb2)
 have HI2:=hid (HI.o w2 HB2.o);go_upto_region 5 with(first|(go_at_call 28;refine HI2.o.mono ?_;rintro e w3 ⟨rfl,hb3⟩;have HB3:=HB2.t hb3;clear hb3)|(rw[←qh];refine wpList_store_mid rfl 77 _ _ rfl w3.heap.size 0 (zk T) rfl rfl (zd (heap_alloc_new _ _) (by rw[zn,HS.o])) (by rw[HS.o];exact sizeTab) (zQ _) ?_;obtain⟨hbw,hbg⟩:=zi w3 (zk Gd.noTab) 77 (zk T).toList (by rw[zn,Array.length_toList,HS.o]);generalize (World.setCells _ _ _ _)=w4 at hbw hbg⊢;have HN4:Hid (w4.heap[w3.heap.size]? =some (.cells (zk T) 77 (0,0))):=hid hbg;have HB4:=HB3.t hbw;clear hbw hbg))
 obtain⟨tb,htb⟩:=nm w3.heap.size;rw[←htb]at HN4⊢;clear htb;go_wp2_with(first|(refine wpList_load_row rfl 77 _ rfl tb rfl 77 (zk T) (0,0) _ HN4.o underlying77 rfl (by rw[HS.o];exact sizeTab) ?_)|(go_at_call 96;refine(HNm.o w4).mono ?_;rintro e w5 ⟨A,c,rfl,hS5,hb5⟩;have HS5:=hid hS5;have HB5:=HB4.t hb5;clear hS5 hb5))
 go_ret2
 exact⟨A,c,rfl,HS5.o.low HB4.o.size,HB5.o⟩
theorem XG{xv:Value}(s:ByteArray)(wi E:Int)(hE:E≠0)(w:World)
 (hW:Calls prog 25 #[xv,.string s] w fun e w'=>e= .returned (.tuple #[.int .i64 wi,.int .i64 E])∧Below w.heap.size w w'):
 Calls prog 47 #[xv,.string s] w fun e w'=>e= .returned (.tuple #[.slice none 0 0,.int .i64 E])∧Below w.heap.size w w':=by
 have HW0:=hid hW;have hEb:(E==0)=false:=by simp[hE]
 clear hW;go_enter func47,ntmps47;go_wp2_with(go_at_call 25;refine HW0.o.mono ?_;rintro e w2 ⟨rfl,hb2⟩;have HB2:=hid hb2;clear hb2)
 go_ret2
 exact⟨rfl,HB2.o⟩
theorem XF{x:Nat}(s:ByteArray)(i:Nat)(E:Int)(hE:E≠0)(w:World)
 (hW:Ret w 25 #[.pointer (some ⟨x,0,none⟩),.string s] (.tuple #[.int .i64 i,.int .i64 0]))
 (hI:Ret w 28 #[.pointer (some ⟨x,0,none⟩),.int .i64 i] (.tuple #[zW Gd.noTab,.int .i64 E])):
 Calls prog 47 #[.pointer (some ⟨x,0,none⟩),.string s] w fun e w'=>e= .returned (.tuple #[.slice none 0 0,.int .i64 E])∧Below w.heap.size w w':=by
 have HW0:=hid (hW w (Below.refl _ _));have HI:=hid hI;have hEb:(E==0)=false:=by simp[hE]
 unfold zW at HI;clear hW hI;go_enter func47,ntmps47;go_upto_region 4 with(go_at_call 25;refine HW0.o.mono ?_;rintro e w2 ⟨rfl,hb2⟩;have HB2:=hid hb2;clear hb2)
 have HI2:=hid (HI.o w2 HB2.o);go_wp2_with(first|(go_at_call 28;refine HI2.o.mono ?_;rintro e w3 ⟨rfl,hb3⟩;have HB3:=HB2.t hb3;clear hb3)|(rw[←qh];refine wpList_store_mid rfl 77 _ _ rfl w3.heap.size 0 (zk Gd.noTab) rfl rfl (zd (heap_alloc_new _ _) zn) (by rw[zn];exact sizeTab) (zQ _) ?_;obtain⟨hbw,hbg⟩:=zi w3 (zk Gd.noTab) 77 (zk Gd.noTab).toList (by rw[Array.length_toList]);generalize (World.setCells _ _ _ _)=w4 at hbw hbg⊢;have HB4:=HB3.t hbw;clear hbw hbg))
 go_ret2
 exact⟨rfl,HB4.o⟩
theorem Yt{xv:Value}(s:ByteArray)(wi E:Int)(hE:E≠0)(w:World)
 (hW:Ret w 25 #[xv,.string s] (.tuple #[.int .i64 wi,.int .i64 E])):
 Calls prog 26 #[xv,.string s] w fun e w'=>e= .returned (.tuple #[.agg #[.int .i64 0,.int .i64 0,.int .i64 0],.int .i64 E])∧Below w.heap.size w w':=by
 obtain⟨w0,hw0⟩:=nm (w.alloc (.cells #[.int .i64 0,.int .i64 0,.int .i64 0] 54));have hb0:Below w.heap.size w w0:=by rw[hw0];exact(Below.refl _ _).alloc (Nat.le_refl _) _
 have hr0:w0.heap[w.heap.size]? =some (.cells #[.int .i64 0,.int .i64 0,.int .i64 0] 54 (0,0)):=by rw[hw0];exact heap_alloc_new _ _
 obtain⟨r,hr⟩:=nm w.heap.size;rw[←hr]at hr0;have HW0:=hid (hW w0 hb0);have HR0:=hid hr0;have HB0:=hid hb0;have Hw0:=hid hw0.symm;have Hr:=hid hr.symm;have hEb:(E==0)=false:=by simp[hE]
 clear hW hr0 hb0 hw0 hr;go_enter func26,ntmps26;go_upto_region 1 with fail
 rw[Hw0.o,Hr.o];go_upto_region 3 with(go_at_call 25;refine HW0.o.mono ?_;rintro e w2 ⟨rfl,hb2⟩;have HB2:=HB0.t hb2;have HR2:=hid ((hb2.block r (za HR0.o)).trans HR0.o);clear hb2)
 have Hrb:Hid (w.heap.size≤r):=hid (by rw[Hr.o];exact Nat.le_refl _);have r0:=cell_of_row w2 r 0 _ _ _ HR2.o;have r1:=cell_of_row w2 r 1 _ _ _ HR2.o;have r2:=cell_of_row w2 r 2 _ _ _ HR2.o;have f0:=frozen_of_row w2 r 0 _ _ HR2.o;have f1:=frozen_of_row w2 r 1 _ _ HR2.o;have f2:=frozen_of_row w2 r 2 _ _ HR2.o;go_wp2;have g0:=Go.heap_setCell_same w2 r 0 _ _ (.int .i64 0) HR2.o;have g1:=Go.heap_setCell_same _ r 1 _ _ (.int .i64 0) g0;have g2:=Go.heap_setCell_same _ r 2 _ _ (.int .i64 0) g1;refine bodyPost_ret (zO rfl _ _ r 54 #[.int .i64 0,.int .i64 0,.int .i64 0] (0,0) _ rfl g2 underlying54 rfl sizeInfo) rfl ?_;exact⟨rfl,((HB2.o.setCell Hrb.o _).setCell Hrb.o _).setCell Hrb.o _⟩
end
namespace Gd
theorem places_all(h:Nat)(j:Fin 16):j∈placesL h:=by
 unfold placesL;refine List.mem_map.2 ⟨(j.val+(16-h % 16)) % 16,List.mem_range.2 (Nat.mod_lt _ (by omega)),?_⟩;apply Fin.ext
 show(h+(j.val+(16-h % 16)) % 16) % 16=j.val
 have:=j.isLt
 omega
def Uniq(T:Tab):Prop:=∀j k:Nat,j<16→k<16→(entAt T j).s≠[]→(entAt T j).s=(entAt T k).s→j=k
def dirE(T:Tab)(s:List UInt8):Nat:=match findT T s (hN s)with|none=>0|some j=>(entAt T j.val).i
theorem find_none{T:Tab}{s:List UInt8}{h:Nat}(hf:findT T s h=none)(hs:s≠[])(j:Nat)(hj:j<16):(entAt T j).s≠s:=fun e=>by
 have:=List.find?_eq_none.1 hf ⟨j,hj⟩ (places_all h _)
 apply this
 rw[Bool.and_eq_true,decide_eq_true_iff];refine⟨e,?_⟩
 cases s with
 |nil=>exact absurd rfl hs
 |cons=>rfl
theorem find_some{T:Tab}{s:List UInt8}{h:Nat}{j:Fin 16}(hf:findT T s h=some j):(entAt T j.val).s=s∧s≠[]:=by
 have:=List.find?_some hf
 rw[Bool.and_eq_true,decide_eq_true_iff]at this;refine⟨this.1,fun e=> ?_⟩;rw[e]at this;exact absurd this.2 (by decide)
theorem find_at{T:Tab}(hu:Uniq T){j h:Nat}(hj:j<16){s:List UInt8}(hs:s≠[])(he:(entAt T j).s=s):findT T s h=some ⟨j,hj⟩:=by
 cases hf:findT T s h with
 |none=>exact absurd he (find_none hf hs j hj)
 |some q=>
  obtain⟨h1,_⟩:=find_some hf;have:=hu j q.val hj q.isLt (by rw[he];exact hs) (by rw[he,h1])
  congr 1
  exact Fin.ext this.symm
theorem dirE_at{T:Tab}(hu:Uniq T){j:Nat}(hj:j<16){s:List UInt8}(hs:s≠[])(he:(entAt T j).s=s):dirE T s=(entAt T j).i:=by
 unfold dirE;rw[find_at hu hj hs he]
theorem dirE_no{T:Tab}{s:List UInt8}(h:∀j,j<16→(entAt T j).s≠s):dirE T s=0:=by
 unfold dirE
 cases hf:findT T s (hN s)with
 |none=>rfl
 |some q=>exact absurd (find_some hf).1 (h q.val q.isLt)
theorem dirE_zero{T:Tab}(hT:TabOk T){s:List UInt8}(hs:s≠[]):dirE T s=0↔findT T s (hN s)=none:=by
 unfold dirE
 cases hf:findT T s (hN s)with
 |none=>simp
 |some q=>
  obtain⟨h1,h2⟩:=find_some hf;rcases entAt_may hT q.val with h|⟨_,h,_⟩
  ·rw[h]at h1;exact absurd h1.symm h2
  ·simp
   omega
theorem dirE_nil(T:Tab):dirE T []=0:=by
 unfold dirE
 cases hf:findT T [] (hN [])with
 |none=>rfl
 |some q=>exact absurd rfl (find_some hf).2
theorem ent_named{T:Tab}(hT:TabOk T)(j:Nat):(entAt T j).s≠[]↔entAt T j≠noEnt:=by
 rcases entAt_may hT j with h|⟨h,_,_⟩
 ·rw[h];exact⟨fun e=>absurd rfl e,fun e=>absurd rfl e⟩
 ·refine⟨fun _ e=> ?_,fun _ e=> ?_⟩
  ·rw[e]at h;exact absurd h (by decide)
  ·rw[e]at h;exact absurd h (by decide)
theorem place_some{T:Tab}{h:Nat}{j:Fin 16}(hp:placeT T h=some j):entAt T j.val=noEnt:=by
 have:=List.find?_some hp
 exact of_decide_eq_true this
theorem place_none{T:Tab}{h:Nat}(hp:placeT T h=none)(j:Nat)(hj:j<16):entAt T j≠noEnt:=fun e=>by
 have:=List.find?_eq_none.1 hp ⟨j,hj⟩ (places_all h _)
 exact this (decide_eq_true e)
theorem named_full{T:Tab}(hT:TabOk T){h:Nat}(hp:placeT T h=none):∀k,k≤16→namedT T k=k
 |0,_=>rfl
 |k+1,hk=>by
  rw[namedT_step hT.len (by omega),named_full hT hp k (by omega),if_pos ((ent_named hT k).2 (place_none hp k (by omega)))]
theorem Uniq.none:Uniq noTab:=fun j k _ _ h _=>by
 rw[noTab_at]at h;exact absurd rfl h
theorem Uniq.put{T:Tab}(hu:Uniq T)(hT:TabOk T){j i:Nat}{s:List UInt8}(hj:j<16)(hf:∀k,k<16→(entAt T k).s≠s):Uniq (setT T j ⟨s,i⟩):=fun a b ha hb h e=>by
 rw[setT_at hT.len hj]at h;rw[setT_at hT.len hj,setT_at hT.len hj]at e;by_cases h1:a=j<;>by_cases h2:b=j
 ·omega
 ·rw[if_pos h1,if_neg h2]at e;exact absurd e.symm (hf b hb)
 ·rw[if_neg h1,if_pos h2]at e;exact absurd e (hf a ha)
 ·rw[if_neg h1]at h;rw[if_neg h1,if_neg h2]at e;exact hu a b ha hb h e
theorem Uniq.take{T:Tab}(hu:Uniq T)(hT:TabOk T){j:Nat}(hj:j<16):Uniq (setT T j noEnt):=fun a b ha hb h e=>by
 rw[setT_at hT.len hj]at h;rw[setT_at hT.len hj,setT_at hT.len hj]at e;by_cases h1:a=j
 ·rw[if_pos h1]at h;exact absurd rfl h
 ·rw[if_neg h1]at h;by_cases h2:b=j
  ·rw[if_neg h1,if_pos h2]at e;exact absurd e h
  ·rw[if_neg h1,if_neg h2]at e;exact hu a b ha hb h e
theorem dirE_put{T:Tab}(hu:Uniq T)(hT:TabOk T){j i:Nat}{s:List UInt8}(hj:j<16)(he:entAt T j=noEnt)(hs:s≠[])(hf:∀k,k<16→(entAt T k).s≠s)(x:List UInt8):dirE (setT T j ⟨s,i⟩) x=if x=s then i else dirE T x:=by
 have hu2:=hu.put hT (i:=i) hj hf;by_cases hx:x=s
 ·subst hx;rw[if_pos rfl,dirE_at hu2 hj hs (by rw[setT_at hT.len hj,if_pos rfl]),setT_at hT.len hj,if_pos rfl]
 ·rw[if_neg hx];by_cases hx0:x=[]
  ·rw[hx0,dirE_nil,dirE_nil]
  ·by_cases hk:∃k,k<16∧(entAt T k).s=x
   ·obtain⟨k,hk,e⟩:=hk;have hne:k≠j:=fun e2=>by
     rw[e2,he]at e;exact hx0 e.symm
    have e3:entAt (setT T j ⟨s,i⟩) k=entAt T k:=by rw[setT_at hT.len hj,if_neg hne]
    rw[dirE_at hu hk hx0 e,dirE_at hu2 hk hx0 (by rw[e3];exact e),e3]
   ·have hno:∀k,k<16→(entAt T k).s≠x:=fun k h1 h2=>hk ⟨k,h1,h2⟩;rw[dirE_no hno,dirE_no fun k h1=>by
     rw[setT_at hT.len hj];split
     ·exact fun e=>hx e.symm
     ·exact hno k h1]
theorem dirE_take{T:Tab}(hu:Uniq T)(hT:TabOk T){j:Nat}{s:List UInt8}(hj:j<16)(he:(entAt T j).s=s)(hs:s≠[])(x:List UInt8):dirE (setT T j noEnt) x=if x=s then 0 else dirE T x:=by
 have hu2:=hu.take hT hj;by_cases hx0:x=[]
 ·rw[hx0,dirE_nil,dirE_nil];split<;>rfl
 ·by_cases hx:x=s
  ·subst hx;rw[if_pos rfl];refine dirE_no fun k hk=> ?_;rw[setT_at hT.len hj];split
   ·exact fun e=>hs e.symm
   ·rename_i hne
    exact fun e=>hne (hu k j hk hj (by rw[e];exact hs) (e.trans he.symm))
  ·rw[if_neg hx];by_cases hk:∃k,k<16∧(entAt T k).s=x
   ·obtain⟨k,hk,e⟩:=hk;have hne:k≠j:=fun e2=>by
     rw[e2,he]at e;exact hx e.symm
    have e3:entAt (setT T j noEnt) k=entAt T k:=by rw[setT_at hT.len hj,if_neg hne]
    rw[dirE_at hu hk hx0 e,dirE_at hu2 hk hx0 (by rw[e3];exact e),e3]
   ·have hno:∀k,k<16→(entAt T k).s≠x:=fun k h1 h2=>hk ⟨k,h1,h2⟩;rw[dirE_no hno,dirE_no fun k h1=>by
     rw[setT_at hT.len hj];split
     ·exact fun e=>hx0 e.symm
     ·exact hno k h1]
theorem filter_set{T:Tab}(p:Ent→Bool){j:Nat}(hj:j<T.length)(e:Ent):((T.set j e).filter p).length+(if p (entAt T j)then 1 else 0)=(T.filter p).length+(if p e then 1 else 0):=by
 induction T generalizing j with
 |nil=>simp at hj
 |cons a r ih=>
  cases j with
  |zero=>
   show((e::r).filter p).length+(if p a then 1 else 0)=_
   rw[List.filter_cons,List.filter_cons];split<;>split<;>simp
  |succ j=>
   have:=ih (j:=j) (by simpa using hj)
   have e2:entAt (a::r) (j+1)=entAt r j:=by
    unfold entAt;simp[List.getD_eq_getElem?_getD]
   rw[List.set_cons_succ,List.filter_cons,List.filter_cons,e2];split
   ·simp only[List.length_cons];omega
   ·exact this
theorem linkT_set{T:Tab}(hT:T.length=16){j:Nat}(hj:j<16)(e:Ent)(t:Nat):linkT (setT T j e) 16 t+(if(entAt T j).s≠[]∧(entAt T j).i=t then 1 else 0)=linkT T 16 t+(if e.s≠[]∧e.i=t then 1 else 0):=by
 have:=filter_set (T:=T) (fun e=>decide (e.s≠[])&&decide (e.i=t)) (j:=j) (by omega) e
 unfold linkT setT;rw[List.take_of_length_le (by rw[List.length_set];omega),List.take_of_length_le (by omega)];simpa using this
theorem namedT_set{T:Tab}(hT:T.length=16){j:Nat}(hj:j<16)(e:Ent):namedT (setT T j e) 16+(if(entAt T j).s≠[]then 1 else 0)=namedT T 16+(if e.s≠[]then 1 else 0):=by
 have:=filter_set (T:=T) (fun e=>decide (e.s≠[])) (j:=j) (by omega) e
 unfold namedT setT;rw[List.take_of_length_le (by rw[List.length_set];omega),List.take_of_length_le (by omega)];simpa using this
end Gd
namespace Gd
def upd(T:Nat→Tab)(d:Nat)(X:Tab):Nat→Tab:=fun q=>if q=d then X else T q
theorem upd_same(T:Nat→Tab)(d:Nat)(X:Tab):upd T d X d=X:=if_pos rfl
theorem upd_other{T:Nat→Tab}{d q:Nat}{X:Tab}(h:q≠d):upd T d X q=T q:=if_neg h
structure Hold(M:Vol)(T:Nat→Tab):Prop where
 may:∀i,1≤i→i≤32→(M.ino i).Shape∧mayI (M.ino i)=true
 dir:∀d,1≤d→d≤32→(M.ino d).k=2→DirOf M d (T d)
 uniq:∀d,1≤d→d≤32→(M.ino d).k=2→Uniq (T d)
 size:∀d,1≤d→d≤32→(M.ino d).k=2→(M.ino d).s=(namedT (T d) 16:Nat)
 empt:∀d,1≤d→d≤32→(M.ino d).k=2→∀(k:Nat) (n:Int),(M.ino d).B[k]? =some n→n≠0→usedT (T d) k=true
 file:∀i,1≤i→i≤32→(M.ino i).k=1→(M.ino i).B=[0,0,0,0]∧(M.ino i).s=0
 sound:Sound M
theorem blkB_dir{size:Int}{B:List Int}(hr:∀n∈B,0≤n∧n≤128)(hd:∀(k k':Nat) (n:Int),B[k]? =some n→B[k']? =some n→0<n→k=k'):∀(r pre:List Int),B=pre++r→blkB 2 size pre.length pre r=true
 |[],_,_=>rfl
 |b::r,pre,e=>by
  have hb:B[pre.length]? =some b:=by
   rw[e,List.getElem?_append_right (Nat.le_refl _),Nat.sub_self];rfl
  obtain⟨b1,b2⟩:=hr b (List.mem_of_getElem? hb);have ih:=blkB_dir (size:=size) hr hd r (pre++[b]) (by rw[e];simp);rw[List.length_append]at ih;simp only[blkB,Bool.and_eq_true];refine⟨⟨⟨⟨decide_eq_true b1,decide_eq_true b2⟩,?_⟩,by simp⟩,ih⟩;by_cases h0:0<b
  ·have:pre.contains b=false:=by
    rw[Bool.eq_false_iff];intro hc;obtain⟨j,hj⟩:=List.getElem?_of_mem (List.elem_iff.1 hc);have hjl:=(List.getElem?_eq_some_iff.1 hj).1;have:=hd j pre.length b (by rw[e,List.getElem?_append_left hjl];exact hj) hb h0
    omega
   rw[this];simp
  ·simp[h0]
theorem dir_facts{x:Ino}(hk:x.k=2)(h:mayI x=true):x.l=1∧(0≤x.s∧x.s≤16)∧opnB 0 x.O=true∧∀n∈x.B,0≤n∧n≤128:=by
 unfold mayI at h;rw[if_neg (by omega),if_neg (by omega),if_pos hk]at h;simp only[Bool.and_eq_true,decide_eq_true_eq]at h;exact⟨h.1.1.1.1,⟨h.1.1.1.2,h.1.1.2⟩,h.1.2,blkB_in h.2⟩
theorem dir_may{x:Ino}(hk:x.k=2)(hl:x.l=1)(hs:0≤x.s∧x.s≤16)(hO:opnB 0 x.O=true)(hr:∀n∈x.B,0≤n∧n≤128)(hd:∀(k k':Nat) (n:Int),x.B[k]? =some n→x.B[k']? =some n→0<n→k=k'):mayI x=true:=by
 unfold mayI;rw[if_neg (by omega),if_neg (by omega),if_pos hk];simp only[Bool.and_eq_true,decide_eq_true_eq];exact⟨⟨⟨⟨hl,hs.1⟩,hs.2⟩,hO⟩,blkB_dir hr hd x.B [] rfl⟩
theorem DirOf.keep{M N:Vol}{q:Nat}{X:Tab}(h:DirOf M q X)(hi:N.ino q=M.ino q)(hb:∀(k n:Nat),(M.ino q).B[k]? =some (n:Int)→n≠0→N.blk n=M.blk n):DirOf N q X:=
 ⟨h.lo,h.hi,by rw[hi];exact h.kind,h.ok,fun k hk=>by
  obtain⟨n,h1,h2⟩:=h.blk k hk;refine⟨n,by rw[hi];exact h1,?_⟩;rcases h2 with h2|⟨h2,h3,h4⟩
  ·exact Or.inl h2
  ·exact Or.inr ⟨h2,h3,by rw[hb k n h1 (by omega)];exact h4⟩⟩
theorem usedT_no{X:Tab}(hX:X.length=16){k:Nat}(h:usedT X k=false)(hk:k<4){i:Nat}(hi:i<4):entAt X (4*k+i)=noEnt:=by
 unfold usedT at h;have hm:entAt X (4*k+i)∈(X.drop (4*k)).take 4:=by
  refine List.mem_of_getElem? (i:=i) ?_;rw[List.getElem?_take,if_pos hi,List.getElem?_drop];exact entAt_get hX (by omega)
 have:=List.any_eq_false.1 h _ hm
 simpa using this
theorem usedT_other{T:Tab}{j k:Nat}{e:Ent}(hT:T.length=16)(hj:j<16)(hk4:k<4)(hk:k≠j/4):usedT (setT T j e) k=usedT T k:=by
 unfold usedT;rw[blk_ext (by unfold setT;rw[List.length_set];exact hT) hT hk4 fun i hi=>setT_other hT hj hk hi]
theorem B_lt{x:Ino}(h:x.Shape){k:Nat}{n:Int}(e:x.B[k]? =some n):k<4:=by
 have:=(List.getElem?_eq_some_iff.1 e).1
 have:=h.1
 omega
structure Chg(M:Vol)(T:Nat→Tab)(N:Vol)(d:Nat)(X:Tab):Prop where
 hold:Hold N (upd T d X)
 other:∀q,q≠d→N.ino q=M.ino q
 kind:(N.ino d).k=(M.ino d).k
 link:(N.ino d).l=(M.ino d).l
 opens:(N.ino d).O=(M.ino d).O
theorem Hold.chg{M N:Vol}{T:Nat→Tab}{d:Nat}{X:Tab}(h:Hold M T)(d1:1≤d)(d2:d≤32)(hk:(M.ino d).k=2)(ho:∀q,q≠d→N.ino q=M.ino q)(hkd:(N.ino d).k=(M.ino d).k)(hl:(N.ino d).l=(M.ino d).l)(hO:(N.ino d).O=(M.ino d).O)(hs:(N.ino d).s=(namedT X 16:Nat))(hX:DirOf N d X)(hu:Uniq X)
 (hBl:(N.ino d).B.length=4)(hBr:∀n∈(N.ino d).B,0≤n∧n≤128)(he:∀(k:Nat) (n:Int),(N.ino d).B[k]? =some n→n≠0→usedT X k=true)(hS:Sound N)(hblk:∀(q k n:Nat),1≤q→q≤32→q≠d→(M.ino q).B[k]? =some (n:Int)→n≠0→N.blk n=M.blk n):Chg M T N d X:=by
 obtain⟨hsh,hmy⟩:=h.may d d1 d2;obtain⟨f1,f2,f3,f4⟩:=dir_facts hk hmy;have hle:=namedT_le X 16;refine⟨⟨fun i i1 i2=> ?_,fun q q1 q2 hq=> ?_,fun q q1 q2 hq=> ?_,fun q q1 q2 hq=> ?_,fun q q1 q2 hq=> ?_,fun i i1 i2 hi=> ?_,hS⟩,ho,hkd,hl,hO⟩
 ·by_cases e:i=d
  ·subst e;refine⟨⟨hBl,by rw[hO];exact hsh.2⟩,dir_may (by rw[hkd];exact hk) (by rw[hl];exact f1) (by rw[hs];omega) (by rw[hO];exact f3) hBr fun k k' n a b h0=> ?_⟩;exact(hS.one i i k k' n d1 d2 d1 d2 a b (by omega)).2
  ·rw[ho i e];exact h.may i i1 i2
 ·by_cases e:q=d
  ·subst e;rw[upd_same];exact hX
  ·rw[upd_other e];rw[ho q e]at hq;exact(h.dir q q1 q2 hq).keep (ho q e) fun k n a b=>hblk q k n q1 q2 e a b
 ·by_cases e:q=d
  ·subst e;rw[upd_same];exact hu
  ·rw[upd_other e];rw[ho q e]at hq;exact h.uniq q q1 q2 hq
 ·by_cases e:q=d
  ·subst e;rw[upd_same];exact hs
  ·rw[upd_other e,ho q e];rw[ho q e]at hq;exact h.size q q1 q2 hq
 ·by_cases e:q=d
  ·subst e;rw[upd_same];exact he
  ·rw[upd_other e,ho q e];rw[ho q e]at hq;exact h.empt q q1 q2 hq
 ·have e:i≠d:=fun e=>by
   rw[e,hkd,hk]at hi;exact absurd hi (by decide)
  rw[ho i e]at hi⊢;exact h.file i i1 i2 hi
theorem take_blk(M:Vol)(q:Nat)(h:q≠firstB M.map):M.take.blk q=M.blk q:=if_neg h
theorem Hold.chg_new{M:Vol}{T:Nat→Tab}{d j:Nat}{e:Ent}{more:Int}(h:Hold M T)(d1:1≤d)(d2:d≤32)(hk:(M.ino d).k=2)(hj:j<16)(he:e.May)(hu:Uniq (setT (T d) j e))(hs:(M.ino d).s+more=(namedT (setT (T d) j e) 16:Nat))(hused:usedT (setT (T d) j e) (j/4)=true)(hB:(M.ino d).B[j/4]? =some 0)(hc:countB M.map<128):
 Chg M T ((M.take.setBlk (firstB M.map) (blkT (setT (T d) j e) (j/4))).setIno d (((M.ino d).setB (j/4) (firstB M.map)).setS ((M.ino d).s+more))) d (setT (T d) j e):=by
 have hD:=h.dir d d1 d2 hk;obtain⟨hsh,hmy⟩:=h.may d d1 d2;obtain⟨f1,f2,f3,f4⟩:=dir_facts hk hmy;obtain⟨n1,n2,hun⟩:=first_some h.sound.mapl hc;obtain⟨n,hn⟩:=nm (firstB M.map);rw[←hn]at n1 n2 hun⊢;have hno:∀q k:Nat,1≤q→q≤32→(M.ino q).B[k]? ≠some (n:Int):=fun q k q1 q2 a=>by
  have:=(h.sound.used n n1 n2).2 ⟨q,k,q1,q2,a⟩
  rw[hun]at this
  cases this
 have hid:∀q,q≠d→((M.take.setBlk n (blkT (setT (T d) j e) (j/4))).setIno d (((M.ino d).setB (j/4) n).setS ((M.ino d).s+more))).ino q=M.ino q:=fun q hq=>by
  show(if q=d then _ else M.ino q)=_
  rw[if_neg hq]
 have hidd:((M.take.setBlk n (blkT (setT (T d) j e) (j/4))).setIno d (((M.ino d).setB (j/4) n).setS ((M.ino d).s+more))).ino d=((M.ino d).setB (j/4) n).setS ((M.ino d).s+more):=if_pos rfl;have hbn:∀q,((M.take.setBlk n (blkT (setT (T d) j e) (j/4))).setIno d (((M.ino d).setB (j/4) n).setS ((M.ino d).s+more))).blk q=if q=n then blkT (setT (T d) j e) (j/4)else M.blk q:=fun q=>by
  show(if q=n then _ else M.take.blk q)=_
  by_cases e1:q=n
  ·rw[if_pos e1,if_pos e1]
  ·rw[if_neg e1,if_neg e1,take_blk M q (by rw[←hn];exact e1)]
 have hBset:((M.ino d).setB (j/4) n).B=(M.ino d).B.set (j/4) (n:Int):=rfl;refine h.chg d1 d2 hk hid (by rw[hidd];rfl) (by rw[hidd];rfl) (by rw[hidd];rfl) (by rw[hidd];exact hs) ?_ hu (by rw[hidd];exact((Ino.setB_shape hsh (j/4) n).1)) (fun m hm=> ?_) (fun k m hkm hm=> ?_) ?_ fun q k m q1 q2 hq a hm0=> ?_
 ·exact hD.put he hj (by rw[hidd];exact hk) (by rw[hidd];rfl) n1 n2 (by rw[hbn,if_pos rfl]) (fun q hq=>by rw[hbn,if_neg hq]) fun k q hkj hq hq0 hqn=>hno d k d1 d2 (by rw[hq,hqn])
 ·rw[hidd]at hm;rcases List.mem_or_eq_of_mem_set (show m∈(M.ino d).B.set (j/4) (n:Int) from hm)with hm|rfl
  ·exact f4 m hm
  ·omega
 ·rw[hidd]at hkm;have hkm:((M.ino d).B.set (j/4) (n:Int))[k]? =some m:=hkm;rcases set_get hkm with⟨e1,_⟩|⟨e1,e2⟩
  ·rw[e1];exact hused
  ·rw[usedT_other hD.ok.len hj (B_lt hsh e2) e1];exact h.empt d d1 d2 hk k m e2 hm
 ·exact h.sound.take d1 d2 hB n1 n2 hun (by show takeB M.map (firstB M.map)=_;rw[←hn]) (by rw[hidd];rfl) fun i i1 i2 hi=>by rw[hid i hi]
 ·rw[hbn,if_neg];intro e1;exact hno q k q1 q2 (by rw[a,e1])
theorem set_self{B:List Int}{k:Nat}{n:Int}(h:B[k]? =some n):B.set k n=B:=by
 obtain⟨h1,h2⟩:=List.getElem?_eq_some_iff.1 h;rw[←h2,List.set_getElem_self]
theorem Hold.chg_over{M:Vol}{T:Nat→Tab}{d j n:Nat}{e:Ent}{more:Int}(h:Hold M T)(d1:1≤d)(d2:d≤32)(hk:(M.ino d).k=2)(hj:j<16)(he:e.May)(hu:Uniq (setT (T d) j e))(hs:(M.ino d).s+more=(namedT (setT (T d) j e) 16:Nat))(hused:usedT (setT (T d) j e) (j/4)=true)(hB:(M.ino d).B[j/4]? =some (n:Int))(n1:1≤n)(n2:n≤128):
 Chg M T ((M.setBlk n (blkT (setT (T d) j e) (j/4))).setIno d ((M.ino d).setS ((M.ino d).s+more))) d (setT (T d) j e):=by
 have hD:=h.dir d d1 d2 hk;obtain⟨hsh,hmy⟩:=h.may d d1 d2;obtain⟨f1,f2,f3,f4⟩:=dir_facts hk hmy;have hid:∀q,q≠d→((M.setBlk n (blkT (setT (T d) j e) (j/4))).setIno d ((M.ino d).setS ((M.ino d).s+more))).ino q=M.ino q:=fun q hq=>by
  show(if q=d then _ else M.ino q)=_
  rw[if_neg hq]
 have hidd:((M.setBlk n (blkT (setT (T d) j e) (j/4))).setIno d ((M.ino d).setS ((M.ino d).s+more))).ino d=(M.ino d).setS ((M.ino d).s+more):=if_pos rfl;have hbn:∀q,((M.setBlk n (blkT (setT (T d) j e) (j/4))).setIno d ((M.ino d).setS ((M.ino d).s+more))).blk q=if q=n then blkT (setT (T d) j e) (j/4)else M.blk q:=fun q=>rfl
 refine h.chg d1 d2 hk hid (by rw[hidd];rfl) (by rw[hidd];rfl) (by rw[hidd];rfl) (by rw[hidd];exact hs) ?_ hu (by rw[hidd];exact hsh.1) (fun m hm=> ?_) (fun k m hkm hm=> ?_) ?_ fun q k m q1 q2 hq a hm0=> ?_
 ·exact hD.put he hj (by rw[hidd];exact hk) (by rw[hidd];show(M.ino d).B=_;rw[set_self hB]) n1 n2 (by rw[hbn,if_pos rfl]) (fun q hq=>by rw[hbn,if_neg hq]) fun k q hkj hq hq0 hqn=>hkj (h.sound.one d d k (j/4) (n:Int) d1 d2 d1 d2 (by rw[hq,hqn]) hB (by omega)).2
 ·rw[hidd]at hm;exact f4 m hm
 ·rw[hidd]at hkm;have hkm:(M.ino d).B[k]? =some m:=hkm;by_cases e1:k=j/4
  ·rw[e1];exact hused
  ·rw[usedT_other hD.ok.len hj (B_lt hsh hkm) e1];exact h.empt d d1 d2 hk k m hkm hm
 ·refine h.sound.same rfl fun i i1 i2=> ?_;by_cases e1:i=d
  ·subst e1;rw[hidd];rfl
  ·rw[hid i e1]
 ·rw[hbn,if_neg];intro e1;rw[e1]at a;exact hq (h.sound.one q d k (j/4) (n:Int) q1 q2 d1 d2 a hB (by omega)).1
theorem Hold.chg_give{M:Vol}{T:Nat→Tab}{d j:Nat}{n:Int}{e:Ent}{more:Int}(h:Hold M T)(d1:1≤d)(d2:d≤32)(hk:(M.ino d).k=2)(hj:j<16)(he:e.May)(hu:Uniq (setT (T d) j e))(hs:(M.ino d).s+more=(namedT (setT (T d) j e) 16:Nat))(hused:usedT (setT (T d) j e) (j/4)=false)(hB:(M.ino d).B[j/4]? =some n):
 Chg M T ((M.setMap (giveI M.map n)).setIno d (((M.ino d).setB (j/4) 0).setS ((M.ino d).s+more))) d (setT (T d) j e):=by
 have hD:=h.dir d d1 d2 hk;obtain⟨hsh,hmy⟩:=h.may d d1 d2;obtain⟨f1,f2,f3,f4⟩:=dir_facts hk hmy;have hid:∀q,q≠d→((M.setMap (giveI M.map n)).setIno d (((M.ino d).setB (j/4) 0).setS ((M.ino d).s+more))).ino q=M.ino q:=fun q hq=>by
  show(if q=d then _ else M.ino q)=_
  rw[if_neg hq]
 have hidd:((M.setMap (giveI M.map n)).setIno d (((M.ino d).setB (j/4) 0).setS ((M.ino d).s+more))).ino d=((M.ino d).setB (j/4) 0).setS ((M.ino d).s+more):=if_pos rfl;have hlt:j/4<(M.ino d).B.length:=(List.getElem?_eq_some_iff.1 hB).1;have hX:=hD.ok.set (j:=j) he;refine h.chg d1 d2 hk hid (by rw[hidd];rfl) (by rw[hidd];rfl) (by rw[hidd];rfl) (by rw[hidd];exact hs) ?_ hu (by rw[hidd];exact(Ino.setB_shape hsh (j/4) 0).1) (fun m hm=> ?_) (fun k m hkm hm=> ?_) ?_ fun q k m q1 q2 hq a hm0=>rfl
 ·refine⟨d1,d2,by rw[hidd];exact hk,hX,fun k hk4=> ?_⟩;by_cases e1:k=j/4
  ·refine⟨0,?_,Or.inl ⟨rfl,fun i hi=>usedT_no hX.len (by rw[e1];exact hused) hk4 hi⟩⟩;rw[hidd,e1];show((M.ino d).B.set (j/4) 0)[j/4]? =some 0
   rw[List.getElem?_set_self hlt]
  ·obtain⟨m,h1,h2⟩:=hD.blk k hk4;refine⟨m,?_,?_⟩
   ·rw[hidd];show((M.ino d).B.set (j/4) 0)[k]? =_
    rw[List.getElem?_set_ne (fun x=>e1 x.symm)];exact h1
   ·rcases h2 with⟨h2,h3⟩|⟨h2,h3,h4⟩
    ·exact Or.inl ⟨h2,fun i hi=>by rw[setT_other hD.ok.len hj e1 hi];exact h3 i hi⟩
    ·exact Or.inr ⟨h2,h3,by rw[blkT_other hD.ok.len hj hk4 e1];exact h4⟩
 ·rw[hidd]at hm;rcases List.mem_or_eq_of_mem_set (show m∈(M.ino d).B.set (j/4) 0 from hm)with hm|rfl
  ·exact f4 m hm
  ·omega
 ·rw[hidd]at hkm;have hkm:((M.ino d).B.set (j/4) 0)[k]? =some m:=hkm;rcases set_get hkm with⟨_,e1⟩|⟨e1,e2⟩
  ·exact absurd e1 hm
  ·rw[usedT_other hD.ok.len hj (B_lt hsh e2) e1];exact h.empt d d1 d2 hk k m e2 hm
 ·by_cases h0:n=0
  ·subst h0;refine h.sound.same rfl fun i i1 i2=> ?_;by_cases e1:i=d
   ·subst e1;rw[hidd];show(M.ino i).B.set (j/4) 0=_
    exact set_self hB
   ·rw[hid i e1]
  ·have hr:=f4 n (List.mem_of_getElem? hB);refine h.sound.give (n:=n.toNat) d1 d2 (by rw[hB];congr 1;omega) (by omega) (by omega) ?_ (by rw[hidd];rfl) fun i i1 i2 hi=>by rw[hid i hi]
   show giveI M.map n=_
   unfold giveI;rw[if_pos (by unfold isBlk;simp;omega)]
theorem Hold.setIno{M:Vol}{T:Nat→Tab}{i:Nat}{y:Ino}(h:Hold M T)(hy:y.Shape)(hm:mayI y=true)(hB:∀(k:Nat) (n:Int),(M.ino i).B[k]? =some n→n=0)(hyB:y.B=[0,0,0,0])(hys:y.s=0)(hyk:y.k=2→T i=noTab):Hold (M.setIno i y) T:=by
 have hid:∀q,q≠i→(M.setIno i y).ino q=M.ino q:=fun q hq=>if_neg hq;have hidd:(M.setIno i y).ino i=y:=if_pos rfl;refine⟨fun q q1 q2=> ?_,fun q q1 q2 hq=> ?_,fun q q1 q2 hq=> ?_,fun q q1 q2 hq=> ?_,fun q q1 q2 hq=> ?_,fun q q1 q2 hq=> ?_,?_⟩
 ·by_cases e:q=i
  ·subst e;rw[hidd];exact⟨hy,hm⟩
  ·rw[hid q e];exact h.may q q1 q2
 ·by_cases e:q=i
  ·subst e;rw[hidd]at hq;rw[hyk hq];exact dir_none q1 q2 (by rw[hidd];exact hq) (by rw[hidd];exact hyB)
  ·rw[hid q e]at hq;exact(h.dir q q1 q2 hq).keep (hid q e) fun k n _ _=>rfl
 ·by_cases e:q=i
  ·subst e;rw[hidd]at hq;rw[hyk hq];exact Uniq.none
  ·rw[hid q e]at hq;exact h.uniq q q1 q2 hq
 ·by_cases e:q=i
  ·subst e;rw[hidd]at hq⊢;rw[hyk hq,hys];rfl
  ·rw[hid q e]at hq⊢;exact h.size q q1 q2 hq
 ·intro k n hkn hn;by_cases e:q=i
  ·subst e;rw[hidd,hyB]at hkn;have:n∈[(0:Int),0,0,0]:=List.mem_of_getElem? hkn
   simp at this
   exact absurd this hn
  ·rw[hid q e]at hq hkn;exact h.empt q q1 q2 hq k n hkn hn
 ·by_cases e:q=i
  ·subst e;rw[hidd];exact⟨hyB,hys⟩
  ·rw[hid q e]at hq⊢;exact h.file q q1 q2 hq
 ·have hz:∀(k:Nat) (n:Int),((M.setIno i y).ino i).B[k]? =some n→n=0:=fun k n hkn=>by
   rw[hidd,hyB]at hkn;have:n∈[(0:Int),0,0,0]:=List.mem_of_getElem? hkn
   simpa using this
  refine⟨h.sound.mapl,fun a b k k' n a1 a2 b1 b2 ha hb hn=> ?_,fun n n1 n2=> ?_⟩
  ·by_cases e1:a=i
   ·subst e1;exact absurd (hz k n ha) hn
   ·by_cases e2:b=i
    ·subst e2;exact absurd (hz k' n hb) hn
    ·rw[hid a e1]at ha;rw[hid b e2]at hb;exact h.sound.one a b k k' n a1 a2 b1 b2 ha hb hn
  ·show usedB M.map n=true↔_
   rw[h.sound.used n n1 n2];constructor
   ·rintro⟨a,k,a1,a2,ha⟩;refine⟨a,k,a1,a2,?_⟩;rw[hid a fun e=>by
     subst e;have:=hB k _ ha
     omega]
    exact ha
   ·rintro⟨a,k,a1,a2,ha⟩;refine⟨a,k,a1,a2,?_⟩;rw[hid a fun e=>by
     subst e;have:=hz k _ ha
     omega]at ha
    exact ha
end Gd
theorem qy.upN{w w1:World}{r:Nat}{vN vE vO:Value}{S:Pz.Fil}{L:List Pz.Nd}(h:qy w 0 r vN vE vO S)(hg:w.grownBy w1 vN.ownBlock)(hown:w1.ownsRow 0 145 3 vN L.length (cN L)):
 qy w1 0 r vN vE vO {S with N:=L}:=by
 have hre:some r≠vN.ownBlock:=fun e=>h.aN e.symm;exact{h with
  lt:=Nat.lt_of_lt_of_le h.lt hg.size
  c0:=(qe (j:=0) hg h.lt hre).trans h.c0
  c1:=(qe (j:=1) hg h.lt hre).trans h.c1
  c2:=(qe (j:=2) hg h.lt hre).trans h.c2
  fr:=fun j=>(qj (j:=j) hg h.lt hre).trans (h.fr j)
  oN:=hown
  oE:=h.oE.kept hg (jl h.nE)
  oO:=h.oO.kept hg (jl h.nO)}
theorem zl.node{w:World}{r n:Nat}{S:Pz.Fil}{F:Nat→Prop}{x:Pz.Nd}(h:zl r S w F)(hn:S.N[n]? =some x):
 ∃b c,w.cell? ⟨r,0,none⟩=some (.slice (some ⟨b,0,none⟩) S.N.length c)∧r<w.heap.size∧F r∧F b∧b<w.heap.size∧w.cell? ⟨b,n*3,none⟩=some (.bool x.dir)∧w.cell? ⟨b,n*3+1,none⟩=some (.string ⟨x.data.toArray⟩)∧w.cell? ⟨b,n*3+2,none⟩=some (.int .i64 x.links)∧(∀j,w.frozen? ⟨b,j,none⟩=false)∧
  (∀d:List UInt8,zl r {S with N:=S.N.set n {x with data:=d}} (w.setCell ⟨b,n*3+1,none⟩ (.string ⟨d.toArray⟩)) F∧zu F w (w.setCell ⟨b,n*3+1,none⟩ (.string ⟨d.toArray⟩)))∧
  (∀l:Int,zl r {S with N:=S.N.set n {x with links:=l}} (w.setCell ⟨b,n*3+2,none⟩ (.int .i64 l)) F∧zu F w (w.setCell ⟨b,n*3+2,none⟩ (.int .i64 l))):=by
 obtain⟨vN,vE,vO,h,hr,hiN,hiE,hiO⟩:=h;obtain⟨A,c,hv,hc,hrow⟩:=qr h.oN;obtain⟨b,hb,h1,h2,h3,h4,h5,h6⟩:=hrow n x hn;subst hb;subst hv;have hFb:F b:=hiN b rfl;refine⟨b,c,h.c0,h.lt,hr,hFb,h2,h3,h4,h5,h6,fun d=> ?_,fun l=> ?_⟩
 ·obtain⟨ho,hg⟩:=h.oN.stored (n*3+1) (.string ⟨d.toArray⟩);have e:=Pz.three_set1 (fun x:Pz.Nd=>Value.bool x.dir) (fun x=>Value.string ⟨x.data.toArray⟩) (fun x=>Value.int .i64 x.links) S.N n x {x with data:=d} hn rfl rfl;have ho2:(w.setCell ⟨b,n*3+1,none⟩ (.string ⟨d.toArray⟩)).ownsRow 0 145 3 (.slice (some ⟨b,0,none⟩) S.N.length c) (S.N.set n {x with data:=d}).length (cN (S.N.set n {x with data:=d})):=by
   rw[List.length_set];unfold cN at ho⊢;rw[←e];exact ho
  exact⟨⟨_,_,_,h.upN hg ho2,hr,hiN,hiE,hiO⟩,zz _ _ _ hFb⟩
 ·obtain⟨ho,hg⟩:=h.oN.stored (n*3+2) (.int .i64 l);have e:=Pz.three_set2 (fun x:Pz.Nd=>Value.bool x.dir) (fun x=>Value.string ⟨x.data.toArray⟩) (fun x=>Value.int .i64 x.links) S.N n x {x with links:=l} hn rfl rfl;have ho2:(w.setCell ⟨b,n*3+2,none⟩ (.int .i64 l)).ownsRow 0 145 3 (.slice (some ⟨b,0,none⟩) S.N.length c) (S.N.set n {x with links:=l}).length (cN (S.N.set n {x with links:=l})):=by
   rw[List.length_set];unfold cN at ho⊢;rw[←e];exact ho
  exact⟨⟨_,_,_,h.upN hg ho2,hr,hiN,hiE,hiO⟩,zz _ _ _ hFb⟩
namespace Pz
structure Rep where
 errno:Int
 fd:Int
 data:List UInt8
 names:List (List UInt8)
 kind:Int
 links:Int
 size:Int
def er(e:Int):Rep:=⟨e,0,[],[],0,0,0⟩
def fdR(fd:Int):Rep:=⟨0,fd,[],[],0,0,0⟩
def dataR(x:List UInt8):Rep:=⟨0,0,x,[],0,0,0⟩
def namesR(l:List (List UInt8)):Rep:=⟨0,0,[],l,0,0,0⟩
def infoR(k l s:Int):Rep:=⟨0,0,[],[],k,l,s⟩
def freeN(O:List Op)(cl:Int):Nat→Nat→Nat
 |0,k=>k
 |m+1,k=>if 0≤ofd O cl k then freeN O cl m (k+1)else k
def free(O:List Op)(cl:Int):Nat:=freeN O cl 8 0
def nodeD(N:List Nd)(n:Nat):Nd:=match N[n]? with|some x=>x|none=>⟨false,[],0⟩
def rmdirR(S:Fil)(p:List UInt8):Fil×Rep:=
 if p=[47]then(S,er 15)else
 match find S p with
 | .error e=>(S,er e)
 | .ok n=>if isDir S.N n then(if 0<count S.E n then(S,er 14)else
   match place S p with
   | .error _=>(S,er 0)
   | .ok q=>({S with E:=take S.E q.1 q.2},er 0))else(S,er 12)
def mkdir(S:Fil)(p:List UInt8):Fil×Rep:=
 match find S p with
 | .ok _=>(S,er 11)
 | .error _=>match place S p with
  | .error g=>(S,er g)
  | .ok q=>({S with N:=S.N++[⟨true,[],1⟩],E:=S.E++[⟨q.1,q.2,S.N.length⟩]},er 0)
def opens(S:Fil)(cl flags:Int)(p:List UInt8):Fil×Rep:=
 if ¬(flags=0∨flags=1∨flags=3)then(S,er 15)else
 match find S p with
 | .ok n=>if flags=3 then(S,er 11)else if isDir S.N n then(S,er 13)else if free S.O cl=8 then(S,er 17)else
   ({S with O:=S.O++[⟨cl,free S.O cl,n⟩]},fdR (free S.O cl))
 | .error e=>if e=10∧flags≠0 then
   match place S p with
   | .error _=>(S,er e)
   | .ok q=>if free S.O cl=8 then(S,er 17)else
    ({N:=S.N++[⟨false,[],1⟩],E:=S.E++[⟨q.1,q.2,S.N.length⟩],O:=S.O++[⟨cl,free S.O cl,S.N.length⟩]},fdR (free S.O cl))
  else(S,er e)
def laid(s:List UInt8)(off:Nat)(d:List UInt8):List UInt8:=sized s off++d++s.drop (off+d.length)
def file(S:Fil)(cl:Int)(n:Nat)(kind fd off m:Int)(d:List UInt8):Fil×Rep:=
 if kind=2 then({S with O:=shut S.O cl fd},er 0)
 else if kind=3 then
  (S,if off<0∨m<0∨64<m then er 15 else if((nodeD S.N n).data.length:Int)≤off then er 0 else dataR (((nodeD S.N n).data.drop off.toNat).take m.toNat))
 else if kind=4 then
  if off<0∨64<d.length then(S,er 15)else if d.length=0 then(S,er 0)else if 256<off∨256<off+d.length then(S,er 19)
  else({S with N:=S.N.set n {nodeD S.N n with data:=laid (nodeD S.N n).data off.toNat d}},er 0)
 else if kind=5 then
  if m<0 then(S,er 15)else if 256<m then(S,er 19)else({S with N:=S.N.set n {nodeD S.N n with data:=sized (nodeD S.N n).data m.toNat}},er 0)
 else(S,er 0)
def link(S:Fil)(p p2:List UInt8):Fil×Rep:=
 if Np.pathL p=none∨Np.pathL p2=none then(S,er 15)else
 match find S p with
 | .error e=>(S,er e)
 | .ok n=>if isDir S.N n then(S,er 13)else if p2=[47]then(S,er 11)else
  match place S p2 with
  | .error g=>(S,er g)
  | .ok q=>if 0≤look S.E q.1 q.2 then(S,er 11)else if(nodeD S.N n).links=20 then(S,er 20)else
   ({S with E:=S.E++[⟨q.1,q.2,n⟩],N:=S.N.set n {nodeD S.N n with links:=(nodeD S.N n).links+1}},er 0)
def unlink(S:Fil)(p:List UInt8):Fil×Rep:=
 match find S p with
 | .error e=>(S,er e)
 | .ok n=>if isDir S.N n then(S,er 13)else
  match place S p with
  | .error _=>(S,er 0)
  | .ok q=>({S with E:=take S.E q.1 q.2,N:=S.N.set n {nodeD S.N n with links:=(nodeD S.N n).links-1}},er 0)
def over(S:Fil)(was:Int)(q:Nat×List UInt8):Fil:=
 if 0≤was then
  {S with E:=take S.E q.1 q.2,N:=if isDir S.N was.toNat then S.N else S.N.set was.toNat {nodeD S.N was.toNat with links:=(nodeD S.N was.toNat).links-1}}
 else S
def overErr(S:Fil)(n:Nat)(was:Int):Int:=
 if 0≤was then
  if isDir S.N n then(if isDir S.N was.toNat then(if 0<count S.E was.toNat then 14 else 0)else 12)
  else(if isDir S.N was.toNat then 13 else 0)
 else 0
def rename(S:Fil)(p p2:List UInt8):Fil×Rep:=
 if Np.pathL p=none∨Np.pathL p2=none∨p=[47]∨p2=[47]then(S,er 15)else
 match find S p with
 | .error e=>(S,er e)
 | .ok n=>if isDir S.N n∧p≠p2∧jS (Np.pathL p2) (Np.pathL p)=true then(S,er 15)else
  match place S p2 with
  | .error g=>(S,er g)
  | .ok q=>if look S.E q.1 q.2=n then(S,er 0)else if overErr S n (look S.E q.1 q.2)≠0 then(S,er (overErr S n (look S.E q.1 q.2)))else
   match place S p with
   | .error _=>(S,er 0)
   | .ok o=>({over S (look S.E q.1 q.2) q with E:=take (over S (look S.E q.1 q.2) q).E o.1 o.2++[⟨q.1,q.2,n⟩]},er 0)
def ins(x:List UInt8):List (List UInt8)→List (List UInt8)
 |[]=>[x]
 |y::r=>if x<y then x::y::r else y::ins x r
def namesOf(E:List En)(i:Nat):List (List UInt8):=((E.filter fun e=>e.dir==i).map (·.name)).foldl (fun l x=>ins x l) []
def tells(S:Fil)(kind:Int)(p:List UInt8):Fil×Rep:=
 (S,match find S p with
 | .error e=>er e
 | .ok n=>if kind=13 then(if isDir S.N n then infoR 2 1 (count S.E n)else infoR 1 (nodeD S.N n).links (nodeD S.N n).data.length)
  else if isDir S.N n then namesR (namesOf S.E n)else er 12)
def doA(S:Fil)(cl kind:Int)(p p2:List UInt8)(flags fd off m:Int)(d:List UInt8):Fil×Rep:=
 if cl<1∨8<cl then(S,er 1)
 else if kind=1 then opens S cl flags p
 else if 2≤kind∧kind≤6 then(if ofd S.O cl fd<0 then(S,er 16)else file S cl (ofd S.O cl fd).toNat kind fd off m d)
 else if kind=7 then mkdir S p
 else if kind=8 then rmdirR S p
 else if kind=9 then link S p p2
 else if kind=10 then unlink S p
 else if kind=11 then rename S p p2
 else if kind=12∨kind=13 then tells S kind p
 else(S,er 15)
structure Good(K:Nat)(S:Fil):Prop where
 ok:Ok S
 n:S.N.length≤K
 e:S.E.length≤K
 o:S.O.length≤K
 data:∀x∈S.N,x.data.length≤256
 links:∀x∈S.N,x.links≤20∧ -(K:Int)≤x.links
 name:∀e∈S.E,Np.nameB e.name=true
 once:S.E.Pairwise fun a b=>¬(a.dir=b.dir∧a.name=b.name)
 one:S.O.Pairwise fun a b=>¬(a.client=b.client∧a.fd=b.fd)
 root:isDir S.N 0=true
 dirs:∀e∈S.E,isDir S.N e.dir=true
 fds:∀o∈S.O,isDir S.N o.node=false
theorem nodeD_links{K:Nat}{S:Fil}(h:Good K S){n:Nat}(hn:n<S.N.length):(nodeD S.N n).links≤20∧ -(K:Int)≤(nodeD S.N n).links:=by
 have e:S.N[n]? =some S.N[n]:=List.getElem?_eq_getElem hn;unfold nodeD;rw[e];exact h.links _ (List.getElem_mem hn)
theorem nodeD_data{K:Nat}{S:Fil}(h:Good K S){n:Nat}(hn:n<S.N.length):(nodeD S.N n).data.length≤256:=by
 have e:S.N[n]? =some S.N[n]:=List.getElem?_eq_getElem hn;unfold nodeD;rw[e];exact h.data _ (List.getElem_mem hn)
theorem look_place{S:Fil}{x:List UInt8}{n:Nat}:∀{L:List (List UInt8)} {i:Nat},walk S i (L++[x])= .ok n→∃d,walk S i L= .ok d∧isDir S.N d=true∧look S.E d x=n
 |[],i,h=>by
  rw[List.nil_append,walk]at h;split at h
  ·rename_i hd
   split at h
   ·cases h
   ·rename_i hl
    refine⟨i,rfl,hd,?_⟩;rw[walk]at h
    cases h
    omega
  ·cases h
 |y::L,i,h=>by
  rw[List.cons_append,walk]at h;split at h
  ·rename_i hd
   split at h
   ·cases h
   ·rename_i hl
    obtain⟨d,h1,h2,h3⟩:=look_place h;refine⟨d,?_,h2,h3⟩;rw[walk,if_pos hd,if_neg hl];exact h1
  ·cases h
theorem pathL_nil{p:List UInt8}(h:Np.pathL p=some []):p=[47]:=by
 have:=(Np.pathL_some h).2
 rw[←this];rfl
theorem place_of_find{S:Fil}{p:List UInt8}{n:Nat}(h:find S p= .ok n)(hp:p≠[47]):∃d x,place S p= .ok (d,x)∧look S.E d x=n∧isDir S.N d=true:=by
 unfold find at h
 cases hL:Np.pathL p with
 |none=>rw[hL]at h;cases h
 |some L=>
  rw[hL]at h;have hne:L≠[]:=fun e=>hp (pathL_nil (by rw[hL,e]));have e:=List.dropLast_concat_getLast hne;rw[←e]at h;obtain⟨d,h1,h2,h3⟩:=look_place h;refine⟨d,L.getLast hne,?_,h3,h2⟩;unfold place;rw[hL];simp only[List.getLast?_eq_some_getLast hne,h1,placeOn,if_pos h2]
theorem find_root{S:Fil}:find S [47]= .ok 0:=by
 unfold find;have:Np.pathL [47]=some []:=by decide
 rw[this];rfl
theorem place_lt{S:Fil}(h:Ok S){p:List UInt8}{d:Nat}{x:List UInt8}(hp:place S p= .ok (d,x)):d<S.N.length∧isDir S.N d=true:=by
 unfold place at hp;split at hp
 ·cases hp
 ·rename_i L _
  split at hp
  ·cases hp
  ·rename_i y _
   cases hw:walk S 0 L.dropLast with
   |error e=>rw[hw]at hp;cases hp
   |ok n=>
    rw[hw]at hp;unfold placeOn at hp;simp only at hp
    split at hp
    ·rename_i hd
     cases hp
     exact⟨walk_lt h h.root hw,hd⟩
    ·cases hp
theorem place_err{S:Fil}{p:List UInt8}{e:Int}(hp:place S p= .error e):e=10∨e=12∨e=15:=by
 unfold place at hp;split at hp
 ·cases hp;exact Or.inr (Or.inr rfl)
 ·rename_i L _
  split at hp
  ·cases hp;exact Or.inr (Or.inr rfl)
  ·rename_i y _
   cases hw:walk S 0 L.dropLast with
   |error g=>
    rw[hw]at hp
    cases hp
    rcases walk_err hw with h|h
    ·exact Or.inl h
    ·exact Or.inr (Or.inl h)
   |ok n=>
    rw[hw]at hp;unfold placeOn at hp;simp only at hp
    split at hp
    ·cases hp
    ·cases hp;exact Or.inr (Or.inl rfl)
theorem place_name{S:Fil}{p:List UInt8}{d:Nat}{x:List UInt8}(hp:place S p= .ok (d,x)):Np.nameB x=true:=by
 unfold place at hp;split at hp
 ·cases hp
 ·rename_i L hL
  split at hp
  ·cases hp
  ·rename_i y hy
   cases hw:walk S 0 L.dropLast with
   |error e=>rw[hw]at hp;cases hp
   |ok n=>
    rw[hw]at hp;unfold placeOn at hp;simp only at hp
    split at hp
    ·cases hp
     exact(jD hL).2 _ (List.mem_of_getLast? hy)
    ·cases hp
end Pz
section
def zN(kind:Int)(p p2:ByteArray)(flags fd off n:Int)(data:ByteArray):Value:= .agg #[.int .i64 kind,.string p,.string p2,.int .i64 flags,.int .i64 fd,.int .i64 off,.int .i64 n,.string data]
def xf(q:Pz.Rep)(A:Option Addr)(c:Nat):Value:= .agg #[.int .i64 q.errno,.int .i64 q.fd,.string ⟨q.data.toArray⟩,.slice A q.names.length c,.int .i64 q.kind,.int .i64 q.links,.int .i64 q.size]
theorem Ur{w:World}{g t:Nat}{a0 a1 a2 a3 a4 a5 a6:Value}(v:Value)(h:w.heap[g]? =some (.cells #[a0,a1,a2,a3,a4,a5,a6] t (0,0))):(w.setCell ⟨g,0,none⟩ v).heap[g]? =some (.cells #[v,a1,a2,a3,a4,a5,a6] t (0,0)):=heap_setCell_same w g 0 _ t v h
theorem Uq{w:World}{g t:Nat}{a0 a1 a2 a3 a4 a5 a6:Value}(v:Value)(h:w.heap[g]? =some (.cells #[a0,a1,a2,a3,a4,a5,a6] t (0,0))):(w.setCell ⟨g,1,none⟩ v).heap[g]? =some (.cells #[a0,v,a2,a3,a4,a5,a6] t (0,0)):=heap_setCell_same w g 1 _ t v h
theorem Uo{w:World}{g t:Nat}{a0 a1 a2 a3 a4 a5 a6:Value}(v:Value)(h:w.heap[g]? =some (.cells #[a0,a1,a2,a3,a4,a5,a6] t (0,0))):(w.setCell ⟨g,2,none⟩ v).heap[g]? =some (.cells #[a0,a1,v,a3,a4,a5,a6] t (0,0)):=heap_setCell_same w g 2 _ t v h
theorem Un{w:World}{g t:Nat}{a0 a1 a2 a3 a4 a5 a6:Value}(v:Value)(h:w.heap[g]? =some (.cells #[a0,a1,a2,a3,a4,a5,a6] t (0,0))):(w.setCell ⟨g,3,none⟩ v).heap[g]? =some (.cells #[a0,a1,a2,v,a4,a5,a6] t (0,0)):=heap_setCell_same w g 3 _ t v h
theorem Um{w:World}{g t:Nat}{a0 a1 a2 a3 a4 a5 a6:Value}(v:Value)(h:w.heap[g]? =some (.cells #[a0,a1,a2,a3,a4,a5,a6] t (0,0))):(w.setCell ⟨g,4,none⟩ v).heap[g]? =some (.cells #[a0,a1,a2,a3,v,a5,a6] t (0,0)):=heap_setCell_same w g 4 _ t v h
theorem Ul{w:World}{g t:Nat}{a0 a1 a2 a3 a4 a5 a6:Value}(v:Value)(h:w.heap[g]? =some (.cells #[a0,a1,a2,a3,a4,a5,a6] t (0,0))):(w.setCell ⟨g,5,none⟩ v).heap[g]? =some (.cells #[a0,a1,a2,a3,a4,v,a6] t (0,0)):=heap_setCell_same w g 5 _ t v h
theorem Uk{w:World}{g t:Nat}{a0 a1 a2 a3 a4 a5 a6:Value}(v:Value)(h:w.heap[g]? =some (.cells #[a0,a1,a2,a3,a4,a5,a6] t (0,0))):(w.setCell ⟨g,6,none⟩ v).heap[g]? =some (.cells #[a0,a1,a2,a3,a4,a5,v] t (0,0)):=heap_setCell_same w g 6 _ t v h
theorem UW{w:World}{g t:Nat}{a0 a1 a2 a3 a4 a5 a6:Value}(h:w.heap[g]? =some (.cells #[a0,a1,a2,a3,a4,a5,a6] t (0,0)))(v0 v1 v2 v3 v4 v5 v6:Value):
 (((((((w.setCell ⟨g,0,none⟩ v0).setCell ⟨g,1,none⟩ v1).setCell ⟨g,2,none⟩ v2).setCell ⟨g,3,none⟩ v3).setCell ⟨g,4,none⟩ v4).setCell ⟨g,5,none⟩ v5).setCell ⟨g,6,none⟩ v6).heap[g]? =some (.cells #[v0,v1,v2,v3,v4,v5,v6] t (0,0)):=(Uk v6 (Ul v5 (Um v4 (Un v3 (Uo v2 (Uq v1 (Ur v0 h)))))))
theorem UA{w:World}{g t:Nat}{a0 a1 a2 a3 a4 a5 a6:Value}(h:w.heap[g]? =some (.cells #[a0,a1,a2,a3,a4,a5,a6] t (0,0))):w.cell? ⟨g,0,none⟩=some a0∧w.cell? ⟨g,1,none⟩=some a1∧w.cell? ⟨g,2,none⟩=some a2∧w.cell? ⟨g,3,none⟩=some a3∧w.cell? ⟨g,4,none⟩=some a4∧w.cell? ⟨g,5,none⟩=some a5∧w.cell? ⟨g,6,none⟩=some a6∧∀j,w.frozen? ⟨g,j,none⟩=false:=
 ⟨cell_of_row w g 0 _ t _ h,cell_of_row w g 1 _ t _ h,cell_of_row w g 2 _ t _ h,cell_of_row w g 3 _ t _ h,cell_of_row w g 4 _ t _ h,cell_of_row w g 5 _ t _ h,cell_of_row w g 6 _ t _ h,fun j=>frozen_of_row w g j _ t h⟩
theorem UO(w:World)(g:Nat)(v0 v1 v2 v3 v4 v5 v6:Value):zu (fun k=>k=g) w (((((((w.setCell ⟨g,0,none⟩ v0).setCell ⟨g,1,none⟩ v1).setCell ⟨g,2,none⟩ v2).setCell ⟨g,3,none⟩ v3).setCell ⟨g,4,none⟩ v4).setCell ⟨g,5,none⟩ v5).setCell ⟨g,6,none⟩ v6):=by
 have s:=fun(W:World) (j:Nat) (v:Value)=>zz W ⟨g,j,none⟩ v (F:=fun k=>k=g) rfl;exact((((((s w 0 v0).trans (s _ 1 v1) fun _ _ e=>e).trans (s _ 2 v2) fun _ _ e=>e).trans (s _ 3 v3) fun _ _ e=>e).trans (s _ 4 v4) fun _ _ e=>e).trans (s _ 5 v5) fun _ _ e=>e).trans (s _ 6 v6) fun _ _ e=>e
theorem jb.only{w w':World}{B:Nat}{A:Option Addr}{L:List (List UInt8)}{G:Nat→Prop}(h:jb w B A L)(ho:zu G w w')(hG:∀k,B≤k→k<w.heap.size→¬G k):jb w' B A L:=by
 rcases h with h|⟨b,o,h1,h2,h3,h4,h5⟩
 ·exact Or.inl h
 ·refine Or.inr ⟨b,o,h1,h2,Nat.lt_of_lt_of_le h3 ho.size,fun j x hx=> ?_,fun j=> ?_⟩
  ·exact(ho.cell (p:=⟨b,o+j,none⟩) h3 (hG b h2 h3)).trans (h4 j x hx)
  ·exact(ho.frozen (p:=⟨b,j,none⟩) h3 (hG b h2 h3)).trans (h5 j)
def jU(I:Pz.Fil→World→(Nat→Prop)→Prop)(out:Pz.Fil×Pz.Rep)(w:World)(F:Nat→Prop)(e:Ending)(w':World):Prop:=
 ∃A c,e= .returned (xf out.2 A c)∧jb w' w.heap.size A out.2.names∧I out.1 w' (Gr F w)∧zu F w w'
structure pFx(I:World→(Nat→Prop)→Prop)(F:Nat→Prop)(w0:World)(C:Array Value)(w:World):Prop where
 st:St I F w0 2 w
 box:w.heap[w0.heap.size]? =some (.cells C 27 (0,0))
 res:w.heap[w0.heap.size+1]? =some (.cells #[.int .i64 0,.int .i64 0,.string ⟨#[]⟩,.slice none 0 0,.int .i64 0,.int .i64 0,.int .i64 0] 56 (0,0))
theorem pFx.start{I:World→(Nat→Prop)→Prop}(hH:xh I){F:Nat→Prop}{w:World}(h:I w F)(C:Array Value):
 pFx I F w C ((w.alloc (.cells C 27)).alloc (.cells #[.int .i64 0,.int .i64 0,.string ⟨#[]⟩,.slice none 0 0,.int .i64 0,.int .i64 0,.int .i64 0] 56)) where
 st:=St.start hH h (((Below.refl w.heap.size w).alloc (Nat.le_refl _) _).alloc (by simp) _) (by simp)
 box:=by
  rw[Below.heap_alloc _ _ _ (by simp)];exact heap_alloc_new _ _
 res:=heap_alloc2_new _ _ _
theorem pFx.read{I:World→(Nat→Prop)→Prop}(hH:xh I){F:Nat→Prop}{w0 w w':World}{C:Array Value}(h:pFx I F w0 C w)(hb:Below w.heap.size w w'):pFx I F w0 C w' where
 st:=h.st.read hH hb
 box:=(hb.block _ (by have:=h.st.size;omega)).trans h.box
 res:=(hb.block _ (by have:=h.st.size;omega)).trans h.res
theorem pFx.write{I J:World→(Nat→Prop)→Prop}(hJ:xh J){F:Nat→Prop}{w0 w w':World}{C:Array Value}(h:pFx I F w0 C w)(hi:J w' (Gr (Ft F w0 2) w))(ho:zu (Ft F w0 2) w w'):pFx J F w0 C w' where
 st:=h.st.write hJ hi ho
 box:=(h.st.own ho (Nat.le_refl _) (by omega)).trans h.box
 res:=(h.st.own ho (by omega) (by omega)).trans h.res
theorem pFx.put{I J:World→(Nat→Prop)→Prop}(hJ:xh J){F:Nat→Prop}{w0 w w':World}{C:Array Value}(h:pFx I F w0 C w)(hi:J w' (Ft F w0 2))(ho:zu (Ft F w0 2) w w'):pFx J F w0 C w':=
 h.write hJ (hJ.mono hi fun _ _ e=>Or.inl e) ho
theorem pFx.inv{I:World→(Nat→Prop)→Prop}{F:Nat→Prop}{w0 w:World}{C:Array Value}(h:pFx I F w0 C w):I w (Ft F w0 2):=h.st.inv
theorem pFx.c8{I:World→(Nat→Prop)→Prop}{F:Nat→Prop}{w0 w:World}{a0 a1 a2 a3 a4 a5 a6 a7:Value}(h:pFx I F w0 #[a0,a1,a2,a3,a4,a5,a6,a7] w):
 w.cell? ⟨w0.heap.size,0,none⟩=some a0∧w.cell? ⟨w0.heap.size,1,none⟩=some a1∧w.cell? ⟨w0.heap.size,2,none⟩=some a2∧w.cell? ⟨w0.heap.size,3,none⟩=some a3∧w.cell? ⟨w0.heap.size,4,none⟩=some a4∧w.cell? ⟨w0.heap.size,5,none⟩=some a5∧w.cell? ⟨w0.heap.size,6,none⟩=some a6∧w.cell? ⟨w0.heap.size,7,none⟩=some a7:=
 ⟨cell_of_row w _ 0 _ _ _ h.box,cell_of_row w _ 1 _ _ _ h.box,cell_of_row w _ 2 _ _ _ h.box,cell_of_row w _ 3 _ _ _ h.box,cell_of_row w _ 4 _ _ _ h.box,cell_of_row w _ 5 _ _ _ h.box,cell_of_row w _ 6 _ _ _ h.box,cell_of_row w _ 7 _ _ _ h.box⟩
theorem pFx.done{I:Pz.Fil→World→(Nat→Prop)→Prop}(hH:∀S,xh (I S)){S:Pz.Fil}{F:Nat→Prop}{w0 w:World}{C:Array Value}(h:pFx (I S) F w0 C w)(q:Pz.Rep)(A:Option Addr)(c:Nat)(hS:jb w (w0.heap.size+2) A q.names)(v0 v1 v2 v3 v4 v5 v6:Value):
 jU I (S,q) w0 F (.returned (xf q A c)) (((((((w.setCell ⟨w0.heap.size+1,0,none⟩ v0).setCell ⟨w0.heap.size+1,1,none⟩ v1).setCell ⟨w0.heap.size+1,2,none⟩ v2).setCell ⟨w0.heap.size+1,3,none⟩ v3).setCell ⟨w0.heap.size+1,4,none⟩ v4).setCell ⟨w0.heap.size+1,5,none⟩ v5).setCell ⟨w0.heap.size+1,6,none⟩ v6):=by
 have ho:=UO w (w0.heap.size+1) v0 v1 v2 v3 v4 v5 v6;obtain⟨h1,h2⟩:=h.st.fin (hH S) (ho.mono fun k _ e=>by omega);exact⟨A,c,rfl,(hS.only ho fun k hk _=>by omega).low (by omega),h1,h2⟩
section
variable {r:Nat} {S S':Pz.Fil} {F:Nat→Prop} {w0 w:World} {C:Array Value} {P:Program} {f:FuncId} {a:Array Value} {E:Ending} {Q:Ending→World→Prop}
theorem pst(hR:zl r S w0 F)(kind:Int)(p p2:ByteArray)(flags fd off n:Int)(data:ByteArray):
 Hid (pFx (zl r S) F w0 #[.int .i64 kind,.string p,.string p2,.int .i64 flags,.int .i64 fd,.int .i64 off,.int .i64 n,.string data] ((w0.alloc (.cells #[.int .i64 kind,.string p,.string p2,.int .i64 flags,.int .i64 fd,.int .i64 off,.int .i64 n,.string data] 27)).alloc (.cells #[.int .i64 0,.int .i64 0,.string ⟨#[]⟩,.slice none 0 0,.int .i64 0,.int .i64 0,.int .i64 0] 56))):=
 hid (pFx.start (zl.held r S) hR _)
theorem zD{w:World}{g t:Nat}{a0 a1 a2 a3 a4 a5 a6:Value}(h:w.heap[g]? =some (.cells #[a0,a1,a2,a3,a4,a5,a6] t (0,0))):w.cell? ⟨g,0,none⟩=some a0∧w.cell? ⟨g,1,none⟩=some a1∧w.cell? ⟨g,2,none⟩=some a2∧w.cell? ⟨g,3,none⟩=some a3∧w.cell? ⟨g,4,none⟩=some a4∧w.cell? ⟨g,5,none⟩=some a5∧w.cell? ⟨g,6,none⟩=some a6∧w.frozen? ⟨g,0,none⟩=false∧w.frozen? ⟨g,1,none⟩=false∧w.frozen? ⟨g,2,none⟩=false∧w.frozen? ⟨g,3,none⟩=false∧w.frozen? ⟨g,4,none⟩=false∧w.frozen? ⟨g,5,none⟩=false∧w.frozen? ⟨g,6,none⟩=false:=by
 obtain⟨c0,c1,c2,c3,c4,c5,c6,f⟩:=UA h;exact⟨c0,c1,c2,c3,c4,c5,c6,f 0,f 1,f 2,f 3,f 4,f 5,f 6⟩
theorem prd(h:Hid (pFx (zl r S) F w0 C w))(H:Hid (∀W G,zl r S W G→Calls P f a W fun e w'=>e=E∧Below W.heap.size W w'))(k:∀w',Hid (pFx (zl r S) F w0 C w')→Q E w'):Calls P f a w Q:=
 (H.o _ _ h.o.inv).mono (by rintro e w' ⟨rfl,hb⟩;exact k _ (hid (h.o.read (zl.held r S) hb)))
theorem ppl(h:Hid (pFx (zl r S) F w0 C w))(H:Hid (∀W,Calls P f a W fun e w'=>e=E∧Below W.heap.size W w'))(k:∀w',Hid (pFx (zl r S) F w0 C w')→Q E w'):Calls P f a w Q:=
 (H.o _).mono (by rintro e w' ⟨rfl,hb⟩;exact k _ (hid (h.o.read (zl.held r S) hb)))
theorem pwr(h:Hid (pFx (zl r S) F w0 C w))(H:Hid (∀W G,zl r S W G→Calls P f a W fun e w'=>e=E∧zl r S' w' (Gr G W)∧zu G W w'))(k:∀w',Hid (pFx (zl r S') F w0 C w')→Q E w'):Calls P f a w Q:=
 (H.o _ _ h.o.inv).mono (by rintro e w' ⟨rfl,hi,ho⟩;exact k _ (hid (h.o.write (zl.held r S') hi ho)))
theorem z5(h:pFx (zl r S) F w0 C w)(v:Int)(k:∀w',Hid (pFx (zl r S) F w0 C w')→Q (.returned (.agg #[.int .i64 v,.int .i64 0,.string ⟨#[]⟩,.slice none 0 0,.int .i64 0,.int .i64 0,.int .i64 0])) w'):Calls prog 75 #[.int .i64 v] w Q:=
 (JO v w).mono (by rintro e w' ⟨rfl,hb⟩;exact k _ (hid (h.read (zl.held r S) hb)))
theorem z7{fn:Func}{p:Tmp}{a:Act}{R:Pz.Fil×Pz.Rep}{q:Pz.Rep}{v0 v1 v2 v3 v4 v5 v6:Value}(hR:R=(S,q))(h:pFx (zl r S) F w0 C w)(A:Option Addr)(c:Nat)(hS:jb w (w0.heap.size+2) A q.names)
 (hv:Value.agg #[v0,v1,v2,v3,v4,v5,v6]=xf q A c:=by rfl)(hf:fn.results=#[.cell p 56]:=by rfl)(hp:a.tmps.getD p undef= .pointer (some ⟨w0.heap.size+1,0,none⟩):=by rfl)(hd:a.defers=[]:=by rfl):
 bodyPost prog fn (jU (zl r) R w0 F) .ret a (((((((w.setCell ⟨w0.heap.size+1,0,none⟩ v0).setCell ⟨w0.heap.size+1,1,none⟩ v1).setCell ⟨w0.heap.size+1,2,none⟩ v2).setCell ⟨w0.heap.size+1,3,none⟩ v3).setCell ⟨w0.heap.size+1,4,none⟩ v4).setCell ⟨w0.heap.size+1,5,none⟩ v5).setCell ⟨w0.heap.size+1,6,none⟩ v6):=by
 subst hR;refine bodyPost_ret (results_cell_row hf _ _ (w0.heap.size+1) _ _ _ _ hp (UW h.res _ _ _ _ _ _ _) underlying56 rfl infoR) hd ?_;rw[hv];exact h.done (zl.held r) q A c hS _ _ _ _ _ _ _
end
end
theorem jq{v:Int}(h:v=10∨v=12∨v=15):(v !=0)=true∧(v==0)=false∧¬v=0:=by
 rcases h with rfl|rfl|rfl<;>decide
theorem qi{p:ByteArray}(h:¬p.data.toList=[47]):(p.toList==[47])=false:=by rw[beq_eq_false_iff_ne,Lib.toList_data];exact h
theorem zl.dirAt{w:World}{r n:Nat}{S:Pz.Fil}{F:Nat→Prop}(h:zl r S w F)(hn:n<S.N.length):
 ∃b c,w.cell? ⟨r,0,none⟩=some (.slice (some ⟨b,0,none⟩) S.N.length c)∧w.cell? ⟨b,n*3,none⟩=some (.bool (Pz.isDir S.N n))∧w.cell? ⟨b,n*3+1,none⟩=some (.string ⟨(Pz.nodeD S.N n).data.toArray⟩)∧w.cell? ⟨b,n*3+2,none⟩=some (.int .i64 (Pz.nodeD S.N n).links):=by
 obtain⟨x,hx⟩:∃x,S.N[n]? =some x:=⟨_,List.getElem?_eq_getElem hn⟩;obtain⟨b,c,h1,_,_,_,_,h2,h3,h4,_⟩:=h.node hx;refine⟨b,c,h1,?_,?_,?_⟩
 ·unfold Pz.isDir;rw[hx];exact h2
 ·unfold Pz.nodeD;rw[hx];exact h3
 ·unfold Pz.nodeD;rw[hx];exact h4
theorem zl.nodeAt{w:World}{r n:Nat}{S:Pz.Fil}{F:Nat→Prop}(h:zl r S w F)(hn:n<S.N.length):
 ∃b c,w.cell? ⟨r,0,none⟩=some (.slice (some ⟨b,0,none⟩) S.N.length c)∧w.cell? ⟨b,n*3,none⟩=some (.bool (Pz.isDir S.N n))∧w.cell? ⟨b,n*3+1,none⟩=some (.string ⟨(Pz.nodeD S.N n).data.toArray⟩)∧w.cell? ⟨b,n*3+2,none⟩=some (.int .i64 (Pz.nodeD S.N n).links)∧
  w.frozen? ⟨b,n*3+1,none⟩=false∧w.frozen? ⟨b,n*3+2,none⟩=false∧
  (∀d:List UInt8,zl r {S with N:=S.N.set n {Pz.nodeD S.N n with data:=d}} (w.setCell ⟨b,n*3+1,none⟩ (.string ⟨d.toArray⟩)) F∧zu F w (w.setCell ⟨b,n*3+1,none⟩ (.string ⟨d.toArray⟩)))∧
  (∀l:Int,zl r {S with N:=S.N.set n {Pz.nodeD S.N n with links:=l}} (w.setCell ⟨b,n*3+2,none⟩ (.int .i64 l)) F∧zu F w (w.setCell ⟨b,n*3+2,none⟩ (.int .i64 l))):=by
 obtain⟨x,hx⟩:∃x,S.N[n]? =some x:=⟨_,List.getElem?_eq_getElem hn⟩;obtain⟨b,c,h1,_,_,_,_,h2,h3,h4,h5,h6,h7⟩:=h.node hx;have e:Pz.nodeD S.N n=x:=by unfold Pz.nodeD;rw[hx]
 rw[e];refine⟨b,c,h1,?_,h3,h4,h5 _,h5 _,h6,h7⟩;unfold Pz.isDir;rw[hx];exact h2
theorem JJ(r:Nat)(S:Pz.Fil)(kind flags fd off n:Int)(p p2 data:ByteArray)(w:World)(F:Nat→Prop)(hp:p.size≤100000)(hG:Pz.Good 1000 S)(hR:zl r S w F):
 Calls prog 83 #[.pointer (some ⟨r,0,none⟩),zN kind p p2 flags fd off n data] w (jU (zl r) (Pz.rmdirR S p.data.toList) w F):=by
 have hE:=hG.e;have hN:=hG.n;have h1:=fun W G (hR:zl r S W G)=>jp 0 r S p W hp (by omega) (by omega) hG.ok hR.is;have FX:=pst hR kind p p2 flags fd off n data;unfold zN;by_cases h47:p.data.toList=[47]
 ·rw[Pz.rmdirR,if_pos h47];obtain rfl:p=⟨#[47]⟩:=Zo h47
  clear h1 hR hG h47 hp hE hN;go_enter func83,ntmps83;go_wp2_with fail
  refine z5 FX.o 15 fun wf FXF=> ?_;obtain⟨c0,c1,c2,c3,c4,c5,c6,f0,f1,f2,f3,f4,f5,f6⟩:=zD FXF.o.res;go_wp2;try simp only[Exit.inBlock,Exit.then]
  exact z7 rfl FXF.o none 0 (Or.inl rfl)
 ·rw[Pz.rmdirR,if_neg h47];have hp47:=qi h47
  cases hf:Pz.find S p.data.toList with
  |error v=>
   obtain⟨hv1,hv2,hv3⟩:=jq (Pz.find_err hf);rw[hf]at h1;simp only[toT]at h1;have HF:=hid h1;clear h1 hR hG h47 hf hE hN;show Calls _ _ _ _ (jU (zl r) (S,Pz.er v) w F)
   go_enter func83,ntmps83;go_wp2_with fail
   refine(HF.o _ _ FX.o.inv).mono ?_
   rintro e w1 ⟨rfl,hb1⟩;have FX1:=hid (FX.o.read (zl.held _ _) hb1);go_wp2_with fail
   refine z5 FX1.o v fun wf FXF=> ?_;obtain⟨c0,c1,c2,c3,c4,c5,c6,f0,f1,f2,f3,f4,f5,f6⟩:=zD FXF.o.res;go_wp2;try simp only[Exit.inBlock,Exit.then]
   exact z7 rfl FXF.o none 0 (Or.inl rfl)
  |ok m=>
   obtain⟨d,x,hpl,hlk,hdd⟩:=Pz.place_of_find hf h47;have hm:=Pz.find_lt hG.ok hf;rw[hf]at h1;simp only[toT]at h1;have HF:=hid h1;have HD:=hid fun W G (h:zl r S W G)=>h.dirAt hm;have HC:=hid fun W G (h:zl r S W G)=>qW 0 r S m W (by omega) h.is;have h2:=fun W G (h:zl r S W G)=>jn 0 r S p W hp (by omega) (by omega) hG.ok h.is;rw[hpl]at h2;simp only[toP]at h2;have HP:=hid h2;have HT:=hid fun W G (h:zl r S W G)=>jV r S d ⟨x.toArray⟩ W G (by omega) h;simp only[hpl];obtain⟨q,hq⟩:=nm S.N.length;obtain⟨D,hD⟩:=nm (Pz.isDir S.N m);obtain⟨C,hC⟩:=nm (Pz.count S.E m);rw[←hq,←hD]at HD;rw[←hC]at HC;rw[←hq]at hm;rw[←hD,←hC];have hm1:(0:Int)≤m:=by omega
   have hm2:(m:Int)<q:=by omega
   clear h1 h2 hR hG h47 hf hE hN hpl hlk hdd hq hD hC
   cases D with
   |false=>
    show Calls _ _ _ _ (jU (zl r) (S,Pz.er 12) w F)
    go_enter func83,ntmps83;go_wp2_with fail
    refine(HF.o _ _ FX.o.inv).mono ?_
    rintro e w1 ⟨rfl,hb1⟩;have FX1:=hid (FX.o.read (zl.held _ _) hb1);obtain⟨b,c,g,g0,_,_⟩:=HD.o _ _ FX1.o.inv;go_wp2_with fail
    refine z5 FX1.o 12 fun wf FXF=> ?_;obtain⟨c0,c1,c2,c3,c4,c5,c6,f0,f1,f2,f3,f4,f5,f6⟩:=zD FXF.o.res;go_wp2;try simp only[Exit.inBlock,Exit.then]
    exact z7 rfl FXF.o none 0 (Or.inl rfl)
   |true=>
    by_cases hC:0<C
    ·rw[if_pos rfl,if_pos hC];have hC2:(0:Int)<C:=by omega
     go_enter func83,ntmps83;go_wp2_with fail
     refine(HF.o _ _ FX.o.inv).mono ?_
     rintro e w1 ⟨rfl,hb1⟩;have FX1:=hid (FX.o.read (zl.held _ _) hb1);obtain⟨b,c,g,g0,_,_⟩:=HD.o _ _ FX1.o.inv;go_wp2_with fail
     refine(HC.o _ _ FX1.o.inv).mono ?_
     rintro e w2 ⟨rfl,hb2⟩;have FX2:=hid (FX1.o.read (zl.held _ _) hb2);clear g g0;go_wp2_with fail
     refine z5 FX2.o 14 fun wf FXF=> ?_;obtain⟨c0,c1,c2,c3,c4,c5,c6,f0,f1,f2,f3,f4,f5,f6⟩:=zD FXF.o.res;go_wp2;try simp only[Exit.inBlock,Exit.then]
     exact z7 rfl FXF.o none 0 (Or.inl rfl)
    ·rw[if_pos rfl,if_neg hC];have hC2:(C:Int)≤0:=by omega
     have hC3:¬(0:Int)<C:=by omega
     go_enter func83,ntmps83;go_wp2_with fail
     refine(HF.o _ _ FX.o.inv).mono ?_
     rintro e w1 ⟨rfl,hb1⟩;have FX1:=hid (FX.o.read (zl.held _ _) hb1);obtain⟨b,c,g,g0,_,_⟩:=HD.o _ _ FX1.o.inv;go_wp2_with fail
     refine(HC.o _ _ FX1.o.inv).mono ?_
     rintro e w2 ⟨rfl,hb2⟩;have FX2:=hid (FX1.o.read (zl.held _ _) hb2);clear g g0;obtain⟨b0,b1,b2,b3,b4,b5,b6,b7⟩:=FX2.o.c8;go_wp2_with fail
     refine(HP.o _ _ FX2.o.inv).mono ?_
     rintro e w3 ⟨rfl,hb3⟩;have FX3:=hid (FX2.o.read (zl.held _ _) hb3);clear b0 b1 b2 b3 b4 b5 b6 b7;go_wp2_with fail
     refine(HT.o _ _ FX3.o.inv).mono ?_
     rintro e w4 ⟨rfl,hi4,ho4⟩;have FX4:=hid (FX3.o.write (zl.held _ _) hi4 ho4);clear hi4 ho4;obtain⟨c0,c1,c2,c3,c4,c5,c6,f0,f1,f2,f3,f4,f5,f6⟩:=zD FX4.o.res;go_wp2;try simp only[Exit.inBlock,Exit.then]
     exact z7 rfl FX4.o none 0 (Or.inl rfl)
end Go.Proofs.YtjlpkbhgphjpeaaGreatDoor
