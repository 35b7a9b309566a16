/- Walks: commonslaw14: begin, with the document beside it. -/
import Derived.Test.YtckoobkjpndgnaaGreatDoorW17
import Derived.Shelf.Slices.In.SortNone
import Derived.Sort.KeysCollected
import Derived.Sort.OwnSorted
set_option linter.unusedVariables false
set_option linter.unusedSimpArgs false
set_option linter.unusedSectionVars false
set_option maxHeartbeats 8000000
set_option maxRecDepth 100000
namespace Go.Proofs.YtckoobkjpndgnaaGreatDoor
open Go.RowKit
open Lib(hid)
open Go.Proofs.Tryz
section
open Go.Shelf
attribute [local go_sem] Oper.semAt_some
section
theorem Tl.of_step0[MemNo]{x t c K:Nat}{S:List UInt8}{M:Gd.Vol}{F4 F6:Nat→Prop}{w a b:World}(hb:Below w.heap.size w a)(hF:∀k,F4 k→w.heap.size≤k)(h:Step (MetaV x t S M c K) F4 a F6 b):Tl x t S M c K Nof w b []:=by
 refine⟨F6,⟨h.inv,fun k hk h6=> ?_,(below_only hb Nof).trans h.only fun j hj hj2=> ?_⟩,fun p hp=>by cases hp⟩
 ·have:=hF k (h.old k (Nat.lt_of_lt_of_le hk hb.size) h6)
  omega
 ·have:=hF j hj2
  omega
theorem pair_zero:zeroCells39=#[.pointer none,.pointer none,.pointer none,.pointer none]++((List.range 64).map fun _=>Value.int .i64 0).toArray:=by kernel_rfl
theorem pair_new[MemNo](t x r:Nat):(((zeroCells39.setIfInBounds 0 (.pointer (some ⟨MemNo.no,0,none⟩))).setIfInBounds 1 (.pointer (some ⟨t,0,none⟩))).setIfInBounds 2 (.pointer (some ⟨x,0,none⟩))).setIfInBounds 3 (.pointer (some ⟨r,0,none⟩))=pairC t x r fun _ _=>0:=by
 apply Array.ext_getElem?
 intro j;rw[pair_zero];unfold pairC;by_cases hj:j<4
 ·rw[Array.getElem?_append_left (show j<4 from hj),Array.getElem?_setIfInBounds];by_cases h3:3=j
  ·subst h3;rw[if_pos rfl,if_pos (by simp)];rfl
  rw[if_neg h3,Array.getElem?_setIfInBounds];by_cases h2:2=j
  ·subst h2;rw[if_pos rfl,if_pos (by simp)];rfl
  rw[if_neg h2,Array.getElem?_setIfInBounds];by_cases h1:1=j
  ·subst h1;rw[if_pos rfl,if_pos (by simp)];rfl
  rw[if_neg h1,Array.getElem?_setIfInBounds];have h0:0=j:=by omega
  subst h0;rw[if_pos rfl,if_pos (by simp)];rfl
 ·rw[Array.getElem?_setIfInBounds_ne (by omega),Array.getElem?_setIfInBounds_ne (by omega),Array.getElem?_setIfInBounds_ne (by omega),Array.getElem?_setIfInBounds_ne (by omega),Array.getElem?_append_right (by show 4≤j;omega),Array.getElem?_append_right (by show 4≤j;omega)];rfl
end
theorem pbegin_any(w:World):Calls prog 4 #[] w fun e w'=>∃(mn:MemNo) (p x t r:Nat) (S V:List UInt8),e= .returned (.pointer (some ⟨p,0,none⟩))∧PSt x t r S (Gd.freshV V) newFS 0 2000000 w w' [(p,oPair t x r fun _ _=>0)]:=by
 have HP:Hid (Calls prog 12 #[.int .i64 23168] w (NewMem w 2896 23168)):=hid (pnew_any 2896 (by omega) (by omega) (by omega) w);go_enter func4,ntmps4;go_wp2_with fail
 refine HP.o.mono ?_;rintro e w1 ⟨m,sb,lb,ab,rfl,hM1,hb1,hlow1,hge1⟩;obtain⟨mn,hmn⟩:∃mn:MemNo,m=mn.no:=⟨⟨m⟩,rfl⟩;have Hmn:=hid hmn;clear hmn;obtain⟨S,hS⟩:∃S:List UInt8,S=List.replicate 23168 0:=⟨_,rfl⟩;have hSl:S.length=23168:=by rw[hS,List.length_replicate]
 have hSe:Gd.part S 2688 8=Gd.le 0 8:=by rw[hS];exact zeros_log
 rw[←hS]at hM1;have HM1:=hid hM1;have HS:=hid (And.intro hSl hSe);have HB1:=hid hb1;have HGe:=hid hge1;clear HP hM1 hb1 hlow1 hge1 hS hSl hSe;go_wp2_with fail
 refine(lnew_any w1 HM1.o HS.o.1).mono ?_
 rintro e w2 ⟨rfl,hw2⟩;have hb2:Below w1.heap.size w1 w2:=by rw[hw2];exact(Below.refl _ _).alloc (Nat.le_refl _) _
 have HL2:Hid (LogAt w2 w1.heap.size m 2688 4096):=hid (by rw[hw2];exact heap_alloc_new _ _);have HM2:=hid (HM1.o.below hb2);have HB2:=HB1.t hb2;obtain⟨g,hg⟩:=nm w1.heap.size;have Hg:Hid (w.heap.size≤g):=hid (by rw[hg];exact HB1.o.size);rw[←hg]at HL2⊢;clear hw2 hb2 hg;go_wp2_with fail
 refine(tnew_any m g w2).mono ?_
 rintro e w3 ⟨rfl,hw3⟩;have hb3:Below w2.heap.size w2 w3:=by rw[hw3];exact(Below.refl _ _).alloc (Nat.le_refl _) _
 have hT3:w3.heap[w2.heap.size]? =some (.cells #[.pointer (some ⟨m,0,none⟩),.pointer (some ⟨g,0,none⟩),.slice none 0 0] 89 (0,0)):=by rw[hw3];exact heap_alloc_new _ _
 obtain⟨t,ht⟩:=nm w2.heap.size;have Ht:Hid (w.heap.size≤t):=hid (by rw[ht];exact HB2.o.size);rw[←ht]at hT3⊢;have HT3:=hid (txn_start (w:=w) (HM2.o.below hb3) HGe.o Hg.o ((hb3.block g (lt_get HL2.o)).trans HL2.o) Ht.o hT3 Hmn.o);have HB3:=HB2.t hb3;clear hw3 hb3 hT3 ht HM1 HM2 HL2;go_wp2_with fail
 refine(xnew_any w3 HT3.o HS.o.1).mono ?_
 rintro e w4 ⟨x,rfl,hx,hx4,hb4⟩;have HT4:Hid (TxnF t S [] 0 w4 fun k=>w.heap.size≤k∧k<x):=hid ((TxnF.held t S [] 0).below ((TxnF.held t S [] 0).mono HT3.o fun k hk e=>⟨e,Nat.lt_of_lt_of_le hk hx⟩) hb4);have HM4:=hid (meta_start HT4.o (Nat.le_trans HB3.o.size hx) hx4 HS.o.1 HS.o.2);have HB4:=HB3.t hb4;clear hx hx4 hb4 HT3 HT4;have HFm:Hid (Calls prog 16 #[.pointer (some ⟨x,0,none⟩)] w4 fun e b=>e= .returned (.int .i64 0)∧Tl x t S (Gd.freshV S) 50 0 Nof w b []):=hid ((format_any w4 HM4.o (by omega)).mono (by
  rintro e b ⟨rfl,F6,hs⟩;exact⟨rfl,Tl.of_step0 HB4.o (fun k hk=>hk.1) (hs.mono fun hi=>⟨_,hi,Gd.fresh_good HS.o.1⟩)⟩))
 clear HM4;go_wp2_with fail
 refine HFm.o.mono ?_;rintro e w6 ⟨rfl,hT6⟩;have HCm:=hid (hT6.commit (by omega) (by omega));clear hT6 HFm;go_wp2_with fail
 refine HCm.o.mono ?_;rintro e w7 ⟨rfl,S7,hT7⟩;have HT7:=hid hT7;clear hT7 HCm;go_wp2_with fail
 refine(rnew_any w7).mono ?_
 rintro e w8 ⟨rfl,hR8,hb8⟩;have HP8:Hid (PSt x t w7.heap.size S7 (Gd.freshV S) newFS 0 2000000 w w8 []):=hid (by
  obtain⟨F',h1,-⟩:=HT7.o;have hw:=HT7.o.size;exact⟨F',fun k=>w7.heap.size≤k∧k<w8.heap.size,⟨h1.inv.below hb8,h1.old,h1.only.trans (below_only hb8 Nof) fun _ _ e=>e⟩,(RefF.held _ _).mono hR8 fun k hk e=>⟨e,hk⟩,fun k hk=>⟨Nat.le_trans hw hk.1,hk.2,fun hf=>absurd (h1.inv.tight k hf) (Nat.not_lt.2 hk.1)⟩,fun p hp=>by cases hp⟩)
 clear hR8 hb8;go_wp2;go_ret
 exact⟨mn,_,x,t,w7.heap.size,S7,S,rfl,HP8.o.new ((Below.refl _ _).alloc (Nat.le_refl _) _) (Nat.le_refl _) ((heap_alloc_new _ _).trans (congrArg (fun C=>some (Obj.cells C 39 (0,0))) (by rw[Hmn.o];exact pair_new t x _)))⟩
end
section
open Go.Shelf
section
def Par[MemNo](p x t:Nat)(S Z:List UInt8)(w a:World):Prop:=∃C:Array Value,C[2]? =some (.pointer (some ⟨x,0,none⟩))∧Tl x t S (Gd.freshV Z) 0 2000000 Nof w a [(p,.cells C 39 (0,0))]
end
theorem begin14_any(w:World):Calls prog 4 #[] w fun e w'=>∃(mn:MemNo) (p x t:Nat) (S Z:List UInt8),e= .returned (.pointer (some ⟨p,0,none⟩))∧Par p x t S Z w w':=by
 refine(pbegin_any w).mono ?_
 rintro e w' ⟨mn,p,x,t,r,S,V,rfl,h⟩;exact⟨mn,p,x,t,S,V,rfl,pairC t x r fun _ _=>0,pairC_ptr.2.2.1,h.tl⟩
end
section
open Go.Shelf
attribute [local go_sem] Oper.semAt_some
def oInf:Obj:= .cells #[.int .i64 2,.int .i64 1,.int .i64 1] 45 (0,0)
def oIno(y:Gd.Ino):Obj:= .cells (inoC y) 72 (0,0)
theorem lives14_any(w:World)(hM:Mx w):Calls prog 11 #[] w fun e w'=>e= .returned (.bool true)∧Below w.heap.size w w':=by
 obtain⟨mx,hmx⟩:=hM;have HMx:=hid (And.intro hmx (mx_lt hmx));have HBg:=hid (begin14_any w);obtain⟨y,hy⟩:=nm ((newF.setO 0 1).setL 0);have HS:=hid (inoC_size (x:=y) (by rw[hy];exact⟨rfl,rfl⟩));have HSh:Hid (y.Shape):=hid (by rw[hy];exact⟨rfl,rfl⟩);have HK:Hid (y.k=1):=hid (by rw[hy];rfl);have Hy:=hid hy;obtain⟨z,hz⟩:=nm Gd.noIno;have HSz:=hid (inoC_size (x:=z) (by rw[hz];exact⟨rfl,rfl⟩));have HShz:Hid (z.Shape):=hid (by rw[hz];exact⟨rfl,rfl⟩);have HKz:Hid (z.k=0):=hid (by rw[hz];rfl);have Hz:=hid hz;clear hmx hy hz;go_enter func11,ntmps11;go_wp2_with fail
 refine HBg.o.mono ?_;rintro e w1 ⟨mn,p,x,t,S,Z,rfl,C,hC,hT1⟩;have HT1:=hid hT1;have HCx:Hid (∀{W:World},W.heap[p]? =some (.cells C 39 (0,0))→W.cell? ⟨p,2,none⟩=some (.pointer (some ⟨x,0,none⟩))):=hid fun h=>(cell_of_row _ p 2 _ _ _ h).trans hC;have HMw:Hid (∀{a:World} {c K:Nat} {N:Gd.Vol} {Ls:List (Nat×Obj)},Tl x t S N c K Nof w a Ls→a.cell? ⟨0,0,none⟩=some (.int .i64 mx)∧0<a.heap.size):=hid fun h=>⟨(h.belowW.cell (p:=⟨0,0,none⟩) HMx.o.2).trans HMx.o.1,Nat.lt_of_lt_of_le HMx.o.2 h.size⟩;have HMk:=hid (lv_mkdir mx hT1 (HMw.o hT1).1 (HMw.o hT1).2);have c2:=HCx.o (hT1.get (k:=p) (o:= .cells C 39 (0,0)) (by simp));clear hT1 hC HBg;go_wp2_with fail
 refine HMk.o.mono ?_;rintro e w2 ⟨rfl,N1,hL1,hT2⟩;have HL1:=hid hL1;have HT2:=hid hT2;have HOp:=hid (lv_open mx hT2 hL1 (HMw.o hT2).1 (HMw.o hT2).2);have c3:=HCx.o (hT2.get (k:=p) (o:= .cells C 39 (0,0)) (by simp));clear hT2 hL1 HMk c2 HT1;go_wp2_with fail
 refine HOp.o.mono ?_;rintro e w3 ⟨rfl,N2,hL2,hT3⟩;have HL2:=hid hL2;have HT3:=hid hT3;have HSt:=hid (lv_stat mx hT3 hL2 (HMw.o hT3).1 (HMw.o hT3).2);have c2:=HCx.o (hT3.get (k:=p) (o:= .cells C 39 (0,0)) (by simp));clear hT3 hL2 HOp c3 HT2 HL1;go_wp2_with fail
 refine HSt.o.mono ?_;rintro e w4 ⟨rfl,hb4⟩;have HT4:=hid (HT3.o.below hb4);clear hb4 HSt c2 HT3;obtain⟨w5,hw5⟩:=nm (w4.alloc oInf);obtain⟨sb,hsb⟩:=nm w4.heap.size;have hT5:Tl x t S N2 10 2000000 Nof w w5 [(sb,oInf),(p,.cells C 39 (0,0))]:=by
  rw[hw5,hsb];exact HT4.o.new ((Below.refl _ _).alloc (Nat.le_refl _) _) (Nat.le_refl _) (heap_alloc_new _ _)
 have HT5:=hid hT5;have HUn:=hid (lv_unlink mx hT5 HL2.o (HMw.o hT5).1 (HMw.o hT5).2);have c3:=HCx.o (hT5.get (k:=p) (o:= .cells C 39 (0,0)) (by simp));have HW5:=hid hw5.symm;have Hsb:=hid hsb.symm;unfold oInf at HW5;clear hT5 hw5 hsb;go_upto_region 7 with fail
 rw[HW5.o,Hsb.o];go_wp2_with fail
 refine HUn.o.mono ?_;rintro e w6 ⟨rfl,N3,hN3,hT6⟩;have HT6:=hid hT6;have HN3:=hid hN3;have HI6:=hid (hT6.fino 3 (by omega) (by omega));rw[show((3:Int)).toNat=3 from rfl,hN3,←Hy.o]at HI6;unfold inoV at HI6;have c2:=HCx.o (hT6.get (k:=p) (o:= .cells C 39 (0,0)) (by simp));clear hT6 hN3 HUn c3 HT4 HT5 HL2
 go_upto_region 9 with(first|(go_at_call 24;refine HI6.o.mono ?_;rintro e w7 ⟨rfl,hb7⟩;have HT7:=hid (HT6.o.below hb7);clear hb7)|(rw[←zIno_lit];refine wpList_store_mid rfl 72 _ _ rfl w7.heap.size 0 (inoC y) rfl rfl (there_at (heap_alloc_new _ _) (by rw[zIno_size,HS.o])) (by rw[HS.o];exact sizeIno) (inoC_one _) ?_;obtain⟨hbw,hbg⟩:=new_whole2 w7 zIno 72 (inoC y).toList (by rw[zIno_size,Array.length_toList,HS.o]);generalize (World.setCells _ _ _ _)=w8 at hbw hbg⊢;have HT8:=hid (HT7.o.new hbw (Nat.le_refl _) (o:=oIno y) hbg);clear hbw hbg))
 obtain⟨ib,hib⟩:=nm w7.heap.size;rw[←hib]at HT8⊢;have HCl:=hid (lv_close HT8.o HN3.o);have c3:=HCx.o (HT8.o.get (k:=p) (o:= .cells C 39 (0,0)) (by simp));clear hib c2 HI6 HT7 HT6;go_wp2_with fail
 refine HCl.o.mono ?_;rintro e w9 ⟨rfl,N4,hN4,hT9⟩;have HT9:=hid hT9;have HI9:=hid (hT9.fino 3 (by omega) (by omega));rw[show((3:Int)).toNat=3 from rfl,hN4,←Hz.o]at HI9;unfold inoV at HI9;have c2:=HCx.o (hT9.get (k:=p) (o:= .cells C 39 (0,0)) (by simp));clear hT9 hN4 HCl c3 HT8 HN3
 go_upto_region 11 with(first|(go_at_call 24;refine HI9.o.mono ?_;rintro e w10 ⟨rfl,hb10⟩;have HT10:=hid (HT9.o.below hb10);clear hb10)|(rw[←zIno_lit];refine wpList_store_mid rfl 72 _ _ rfl w10.heap.size 0 (inoC z) rfl rfl (there_at (heap_alloc_new _ _) (by rw[zIno_size,HSz.o])) (by rw[HSz.o];exact sizeIno) (inoC_one _) ?_;obtain⟨hbw,hbg⟩:=new_whole2 w10 zIno 72 (inoC z).toList (by rw[zIno_size,Array.length_toList,HSz.o]);generalize (World.setCells _ _ _ _)=w11 at hbw hbg⊢;have HT11:=hid (HT10.o.new hbw (Nat.le_refl _) (o:=oIno z) hbg);clear hbw hbg))
 obtain⟨iz,hiz⟩:=nm w10.heap.size;rw[←hiz]at HT11⊢;have hsr:=HT11.o.get (k:=sb) (o:=oInf) (by simp);have s0:w11.cell? ⟨sb,0,none⟩=some (.int .i64 2):=cell_of_row w11 sb 0 _ _ _ hsr;have s1:w11.cell? ⟨sb,1,none⟩=some (.int .i64 1):=cell_of_row w11 sb 1 _ _ _ hsr;have s2:w11.cell? ⟨sb,2,none⟩=some (.int .i64 1):=cell_of_row w11 sb 2 _ _ _ hsr;have hiy:InoAt w11 ib y:=⟨HT11.o.get (k:=ib) (by simp[oIno]),HSh.o⟩;have i0:=hiy.c0;rw[HK.o]at i0;have hiz0:InoAt w11 iz z:=⟨HT11.o.get (k:=iz) (by simp[oIno]),HShz.o⟩;have z0:=hiz0.c0;rw[HKz.o]at z0;have HB11:=hid HT11.o.belowW;clear hiz hsr hiy hiz0 c2 HI9 HT10 HT9 HT11;go_wp2_with fail
 go_ret
 exact⟨rfl,HB11.o⟩
end
section
open Go.Shelf Go.Sort
attribute [local go_sem] Oper.semAt_some
namespace Gd
def rawN(T:Tab)(k:Nat):List (List UInt8):=((T.take k).map (·.s)).filter fun s=>decide (s≠[])
def namesT(T:Tab):List (List UInt8):=(rawN T 16).mergeSort leB
theorem rawN_step{T:Tab}(hT:T.length=16){k:Nat}(hk:k<16):rawN T (k+1)=rawN T k++if(entAt T k).s=[]then[]else[(entAt T k).s]:=by
 unfold rawN;rw[List.take_add_one,entAt_get hT hk,List.map_append,List.filter_append];congr 1
 by_cases h:(entAt T k).s=[]
 ·rw[if_pos h];simp[h]
 ·rw[if_neg h];simp[h]
theorem rawN_le(T:Tab)(k:Nat):(rawN T k).length≤k:=by
 unfold rawN;have h1:=List.length_filter_le (fun s:List UInt8=>decide (s≠[])) ((T.take k).map (·.s));have h2:=List.length_take_le k T;rw[List.length_map]at h1;omega
theorem namesT_len(T:Tab):(namesT T).length=(rawN T 16).length:=List.length_mergeSort _
end Gd
theorem tabC_part{T:Gd.Tab}{k:Nat}{e:Gd.Ent}(he:T[k]? =some e):(tabC T).extract (k*2) (k*2+2)=#[.string ⟨e.s.toArray⟩,.int .i64 e.i]:=by
 have h0:=ents_get (T:=T) 0 he (by omega);have h1:=ents_get (T:=T) 1 he (by omega);have hl:k<T.length:=(List.getElem?_eq_some_iff.1 he).1;have hs:(tabC T).size=T.length*2:=by
  unfold tabC;rw[List.size_toArray,ents_len]
 apply Array.ext
 ·simp[hs];omega
 ·intro i i1 i2;have i3:i<2:=by simpa using i2
  rw[Array.getElem_extract];have hg:∀j (hj:k*2+j<(tabC T).size) (v:Value),(T.flatMap entC)[k*2+j]? =some v→(tabC T)[k*2+j]=v:=fun j hj v hv=>by
   have:(tabC T)[k*2+j]? =some v:=by
    unfold tabC;rw[List.getElem?_toArray];exact hv
   exact(Array.getElem?_eq_some_iff.1 this).2
  match i,i3 with
  |0,_=>exact hg 0 _ _ h0
  |1,_=>exact hg 1 _ _ h1
theorem run_index_ent{T:Gd.Tab}{k:Nat}{e:Gd.Ent}(hT:T.length=16)(he:T[k]? =some e)(W:World):(Instr.index 141 (.agg (tabC T)) (.int .i64 (k:Int))).run prog W= .ok (.agg #[.string ⟨e.s.toArray⟩,.int .i64 e.i]) W:=by
 have hl:k<T.length:=(List.getElem?_eq_some_iff.1 he).1;have hn:(0:Int)≤k∧(k:Int)<((16:Nat):Int):=by omega
 have hp:=tabC_part he;obtain⟨j,hj,hs⟩:∃j,prog.info? 139=some j∧j.size=2:=by
  have:=sizeEnt
  cases hq:prog.info? 139 with
  |none=>rw[hq]at this;cases this
  |some j=>exact⟨j,rfl,by rw[hq]at this;simpa using this⟩
 simp[Instr.index,run_underlying underlying141,asIntOf,hn,part,isAgg,run_underlying underlying139,sizeOf,typeInfo,hj,hs,hp,go_sem];try omega
def NamesPost(T:Gd.Tab)(w:World)(e:Ending)(w':World):Prop:=∃A c,e= .returned (.slice A (Gd.namesT T).length c)∧Strs w' w.heap.size A (Gd.namesT T)∧Below w.heap.size w w'
theorem dsort_none(W:World):Calls prog 119 #[.slice none 0 0] W fun e w'=>e= .returned (.tuple #[])∧Below W.heap.size W w':=
 (slices_Sort_string_none none 0 W).mono fun e w' h=>⟨h.1,h.2▸Below.refl _ _⟩
theorem own_strsN{w:World}{B:Nat}{v:Value}{O:List (List UInt8)}(h:w.ownsRow B 9 1 v O.length (cellsL O)):∃A c,v= .slice A O.length c∧Strs w B A O:=by
 obtain⟨A,c,hv,_,_,hS⟩:=owns_strs h;exact⟨A,c,hv,hS⟩
theorem names_any(T:Gd.Tab)(hT:Gd.TabOk T)(w:World):Calls prog 71 #[tabV T] w (NamesPost T w):=by
 obtain⟨i0,hi,hz0,hz1,hz2⟩:=info_parts infoS;have hn:=heap_alloc_new w (.cells (tabC T) 141);have hba:=(Below.refl w.heap.size w).alloc (Nat.le_refl _) (.cells (tabC T) 141);obtain⟨w2,hw2⟩:=nm (w.alloc (.cells (tabC T) 141));obtain⟨tb,htb⟩:=nm w.heap.size;rw[←hw2]at hn hba;rw[←htb]at hn;have HN:=hid hn;have HB2:=hid hba;have HT:=hid hT;have HS:=hid (tabC_size hT.len);have Htb:=hid htb.symm;have Hw2:=hid hw2.symm;have HIx:=hid fun(k:Nat) (hk:k<16) (W:World)=>run_index_ent hT.len (Gd.entAt_get hT.len hk) W;clear hn hba hw2 hT htb;unfold tabV;go_enter func71,ntmps71;go_upto_region 2 with fail
 rw[Hw2.o,Htb.o];go_upto_region 3 with(refine wpList_load_row rfl 141 _ rfl tb rfl 141 (tabC T) (0,0) _ HN.o underlying141 rfl (by rw[HS.o];exact sizeTab) ?_)
 go_loopw[3,7] (fun v z wr=>∃i:Nat,z= .int .i64 i∧i≤16∧Hid (wr.ownsRow w.heap.size 9 1 v (Gd.rawN T i).length (cellsL (Gd.rawN T i)))∧Hid (Below w.heap.size w wr)) (fun _ z _=>16-(intOf z).toNat)
 case atStart=>exact⟨0,rfl,by omega,hid (World.ownsRow_nil _ _ _ _),HB2⟩
 case round=>
  obtain⟨i,rfl,hi16,HO,HB⟩:=hrel;by_cases hlt:i<16
  ·have hc:=HIx.o i hlt wr;have h1:(i:Int)<16:=by omega
   have hst:=Gd.rawN_step HT.o.len hlt;obtain⟨en,hen⟩:=nm (Gd.entAt T i);rw[←hen]at hc hst;have hle:=Gd.rawN_le T i;obtain⟨u,hu⟩:∃u:ByteArray,u=⟨en.s.toArray⟩:=⟨_,rfl⟩;have hul:u.data.toList=en.s:=by rw[hu]
   rw[←hu]at hc;by_cases hs:en.s=[]
   ·rw[if_pos hs,List.append_nil]at hst;have hu0:u=⟨#[]⟩:=by rw[hu,hs]
    rw[hu0]at hc;have HO2:Hid (wr.ownsRow w.heap.size 9 1 u3 (Gd.rawN T (i+1)).length (cellsL (Gd.rawN T (i+1)))):=hid (by rw[hst];exact HO.o);clear hen hu hul hu0 hst hs hlt hle;go_wp2;go_roundw
    case rel=>exact⟨i+1,by go_num,by omega,hid (HO2.o.alloc _),hid (HB.o.alloc HB.o.size _)⟩
    case measure=>simp[intOf];omega
   ·rw[if_neg hs]at hst;have hue:u.toList.isEmpty=false:=by rw[hu];exact isEmpty_ne hs
    have HSt:=hid hst;have HUl:=hid hul;have HLe:=hid hle;clear hen hu hul hst hs hlt hle;go_upto_region 6 with fail
    have HE:Hid (wr.alloc (.cells #[.string u,.int .i64 en.i] 139)=wr.alloc (.cells #[.string u,.int .i64 en.i] 139)):=hid rfl;have hb1:Below wr.heap.size wr (wr.alloc (.cells #[.string u,.int .i64 en.i] 139)):=(Below.refl _ _).alloc (Nat.le_refl _) _;have hr1:=cell_of_row _ wr.heap.size 0 _ _ _ (heap_alloc_new wr (.cells #[.string u,.int .i64 en.i] 139));have ho1:=HO.o.alloc (.cells #[.string u,.int .i64 en.i] 139);obtain⟨eb,heb⟩:=nm wr.heap.size;rw[←heb]at hr1⊢;generalize (wr.alloc (.cells #[.string u,.int .i64 en.i] 139))=w1 at hb1 hr1 ho1⊢;have HB1:=HB.t hb1;have HO1:=hid ho1;clear hb1 ho1 HE heb hc
    go_wp2_with(at_builtin;refine wpList_append_own _ rfl _ _ 43 rfl w.heap.size 9 i0 (.string ByteArray.empty) 1 16 underlying43 hi hz0 hz1 hz2 rfl (by decide) _ _ _ rfl (HO1.o.alloc _) ⟨w1.heap.size,0,none⟩ 1 1 [.string u] rfl rfl (cell_one_new _ _ _) (by intro u hu;simp only[List.mem_singleton]at hu;subst hu;rfl) (by have:=HLe.o;unfold maxLen;omega) (by have:=HLe.o;omega) (by have:=HB1.o.size;simp;omega) ?_;intro v' w3 hown' hg3 hnil3)
    have HO3:Hid (w3.ownsRow w.heap.size 9 1 v' (Gd.rawN T (i+1)).length (cellsL (Gd.rawN T (i+1)))):=hid (by
     have e1:cellsL (Gd.rawN T i)++[.string u]=cellsL (Gd.rawN T (i+1)):=by
      rw[HSt.o,cellsL_snoc _ u _ HUl.o]
     rw[e1]at hown';rw[show(Gd.rawN T (i+1)).length=(Gd.rawN T i).length+1 by rw[HSt.o,List.length_append];rfl];exact hown')
    have HB3:Hid (Below w.heap.size w w3):=hid ((HB1.o.alloc HB1.o.size _).grown hg3 (by have:=HB1.o.size;simp;omega) (fun j hj=>(HO1.o.lt j hj).1));clear hown' hg3 hnil3;go_wp2;go_roundw
    case rel=>exact⟨i+1,by go_num,by omega,HO3,HB3⟩
    case measure=>simp[intOf];omega
  ·obtain rfl:i=16:=by omega
   obtain⟨wy,rfl⟩:=nm wr;have hrow:=HO.o;have hrl:=Gd.rawN_le T 16;clear hlt hi16;rcases hrow.2 with⟨rfl,hn0⟩|⟨g,cap',cur,rfl,hbase,hb,h1,h2,h3,h4⟩
   ·have HE:Hid (Gd.namesT T=[]):=hid (by
     unfold Gd.namesT;rw[List.eq_nil_of_length_eq_zero hn0,List.mergeSort_nil])
    clear hrow hn0 HO hrl;go_wp2_with fail
    refine(dsort_none _).mono ?_
    rintro e w3 ⟨rfl,hb3⟩;have HB3:=HB.t hb3;go_wp2;go_ret
    refine⟨none,0,by rw[HE.o];rfl,?_,HB3.o⟩;rw[HE.o];exact Or.inl rfl
   ·obtain⟨ss,hss⟩:=nm (Gd.rawN T 16)
    (try rw[←hss]at h1)
    (try rw[←hss]at h2)
    (try rw[←hss]at h3)
    (try rw[←hss]at h4)
    (try rw[←hss]at hrl)
    rw[←hss];clear hrow;have h5:cur.toList.take ss.length=cellsL ss:=by simpa using h4
    have hH:Holds encStr wy g 0 ss.toArray:=holds_of_block hb h5;have hgl:g<wy.heap.size:=(Array.getElem?_eq_some_iff.1 hb).1;have hsort:=hid (slices_Sort_string g 0 cap' ss wy hH hgl (by omega));have hfin:∀w3,(∃nn os,w3=Sort.grow (Sort.putRow encStr (Sort.ahead wy nn) g 0 (ss.mergeSort fun x y=>decide (x≤y)).toArray) os)→Strs w3 w.heap.size (some ⟨g,0,none⟩) (Gd.namesT T)∧Below w.heap.size w w3:=by
     rintro w3 ⟨nn,os,rfl⟩;refine⟨?_,HB.o.grown (grownBy_sorted _) HB.o.size (fun j hj=>by cases hj;exact hbase)⟩;have ho:=ownsRow_sorted (ts:=ss.mergeSort fun x y=>decide (x≤y)) (n:=nn) (os:=os) (by simp) hbase hb h1 h2 h3;have hl:(ss.mergeSort leB).length=ss.length:=List.length_mergeSort _;obtain⟨A,c,hv,hS⟩:=own_strsN (O:=ss.mergeSort leB) (v:= .slice (some ⟨g,0,none⟩) ss.length cap') (by rw[hl];exact ho);injection hv with hv1 _ _
     unfold Gd.namesT;rw[←hss,hv1];exact hS
    have HFin:=hid hfin;have HLen:Hid ((Gd.namesT T).length=ss.length):=hid (by rw[Gd.namesT_len,hss]);clear hfin hH hb h1 h2 h3 h4 h5 HO hss hgl hrl;go_wp2_with fail
    refine hsort.o.mono ?_;rintro e w3 ⟨rfl,hw3⟩;have HF3:=hid (HFin.o w3 hw3);clear hw3;go_wp2;go_ret
    exact⟨some ⟨g,0,none⟩,cap',by rw[HLen.o];rfl,HF3.o.1,HF3.o.2⟩
end
theorem RefAt.upN{w w1:World}{r:Nat}{vN vE vO:Value}{S:Pz.Fil}{L:List Pz.Nd}(h:RefAt w 0 r vN vE vO S)(hg:w.grownBy w1 vN.ownBlock)(hown:w1.ownsRow 0 115 3 vN L.length (cN L)):
 RefAt w1 0 r vN vE vO {S with N:=L}:=by
 have hre:some r≠vN.ownBlock:=fun e=>h.aN e.symm;exact{h with
  lt:=Nat.lt_of_lt_of_le h.lt hg.size
  c0:=(gcell (j:=0) hg h.lt hre).trans h.c0
  c1:=(gcell (j:=1) hg h.lt hre).trans h.c1
  c2:=(gcell (j:=2) hg h.lt hre).trans h.c2
  fr:=fun j=>(gfrozen (j:=j) hg h.lt hre).trans (h.fr j)
  oN:=hown
  oE:=h.oE.kept hg (apart_swap h.nE)
  oO:=h.oO.kept hg (apart_swap h.nO)}
theorem RefF.node{w:World}{r n:Nat}{S:Pz.Fil}{F:Nat→Prop}{x:Pz.Nd}(h:RefF r S w F)(hn:S.N[n]? =some x):
 ∃b c,w.cell? ⟨r,0,none⟩=some (.slice (some ⟨b,0,none⟩) S.N.length c)∧r<w.heap.size∧F r∧F b∧b<w.heap.size∧w.cell? ⟨b,n*3,none⟩=some (.bool x.dir)∧w.cell? ⟨b,n*3+1,none⟩=some (.string ⟨x.data.toArray⟩)∧w.cell? ⟨b,n*3+2,none⟩=some (.int .i64 x.links)∧(∀j,w.frozen? ⟨b,j,none⟩=false)∧
  (∀d:List UInt8,RefF r {S with N:=S.N.set n {x with data:=d}} (w.setCell ⟨b,n*3+1,none⟩ (.string ⟨d.toArray⟩)) F∧Only F w (w.setCell ⟨b,n*3+1,none⟩ (.string ⟨d.toArray⟩)))∧
  (∀l:Int,RefF r {S with N:=S.N.set n {x with links:=l}} (w.setCell ⟨b,n*3+2,none⟩ (.int .i64 l)) F∧Only F w (w.setCell ⟨b,n*3+2,none⟩ (.int .i64 l))):=by
 obtain⟨vN,vE,vO,h,hr,hiN,hiE,hiO⟩:=h;obtain⟨A,c,hv,hc,hrow⟩:=row3 h.oN;obtain⟨b,hb,h1,h2,h3,h4,h5,h6⟩:=hrow n x hn;subst hb;subst hv;have hFb:F b:=hiN b rfl;refine⟨b,c,h.c0,h.lt,hr,hFb,h2,h3,h4,h5,h6,fun d=> ?_,fun l=> ?_⟩
 ·obtain⟨ho,hg⟩:=h.oN.stored (n*3+1) (.string ⟨d.toArray⟩);have e:=Pz.three_set1 (fun x:Pz.Nd=>Value.bool x.dir) (fun x=>Value.string ⟨x.data.toArray⟩) (fun x=>Value.int .i64 x.links) S.N n x {x with data:=d} hn rfl rfl;have ho2:(w.setCell ⟨b,n*3+1,none⟩ (.string ⟨d.toArray⟩)).ownsRow 0 115 3 (.slice (some ⟨b,0,none⟩) S.N.length c) (S.N.set n {x with data:=d}).length (cN (S.N.set n {x with data:=d})):=by
   rw[List.length_set];unfold cN at ho⊢;rw[←e];exact ho
  exact⟨⟨_,_,_,h.upN hg ho2,hr,hiN,hiE,hiO⟩,only_setCell _ _ _ hFb⟩
 ·obtain⟨ho,hg⟩:=h.oN.stored (n*3+2) (.int .i64 l);have e:=Pz.three_set2 (fun x:Pz.Nd=>Value.bool x.dir) (fun x=>Value.string ⟨x.data.toArray⟩) (fun x=>Value.int .i64 x.links) S.N n x {x with links:=l} hn rfl rfl;have ho2:(w.setCell ⟨b,n*3+2,none⟩ (.int .i64 l)).ownsRow 0 115 3 (.slice (some ⟨b,0,none⟩) S.N.length c) (S.N.set n {x with links:=l}).length (cN (S.N.set n {x with links:=l})):=by
   rw[List.length_set];unfold cN at ho⊢;rw[←e];exact ho
  exact⟨⟨_,_,_,h.upN hg ho2,hr,hiN,hiE,hiO⟩,only_setCell _ _ _ hFb⟩
namespace Pz
structure Rep where
 errno:Int
 fd:Int
 data:List UInt8
 names:List (List UInt8)
 kind:Int
 links:Int
 size:Int
def er(e:Int):Rep:=⟨e,0,[],[],0,0,0⟩
def fdR(fd:Int):Rep:=⟨0,fd,[],[],0,0,0⟩
def dataR(x:List UInt8):Rep:=⟨0,0,x,[],0,0,0⟩
def namesR(l:List (List UInt8)):Rep:=⟨0,0,[],l,0,0,0⟩
def infoR(k l s:Int):Rep:=⟨0,0,[],[],k,l,s⟩
def freeN(O:List Op)(cl:Int):Nat→Nat→Nat
 |0,k=>k
 |m+1,k=>if 0≤ofd O cl k then freeN O cl m (k+1)else k
def free(O:List Op)(cl:Int):Nat:=freeN O cl 8 0
def nodeD(N:List Nd)(n:Nat):Nd:=match N[n]? with|some x=>x|none=>⟨false,[],0⟩
def rmdirR(S:Fil)(p:List UInt8):Fil×Rep:=
 if p=[47]then(S,er 15)else
 match find S p with
 | .error e=>(S,er e)
 | .ok n=>if isDir S.N n then(if 0<count S.E n then(S,er 14)else
   match place S p with
   | .error _=>(S,er 0)
   | .ok q=>({S with E:=take S.E q.1 q.2},er 0))else(S,er 12)
def mkdir(S:Fil)(p:List UInt8):Fil×Rep:=
 match find S p with
 | .ok _=>(S,er 11)
 | .error _=>match place S p with
  | .error g=>(S,er g)
  | .ok q=>({S with N:=S.N++[⟨true,[],1⟩],E:=S.E++[⟨q.1,q.2,S.N.length⟩]},er 0)
def opens(S:Fil)(cl flags:Int)(p:List UInt8):Fil×Rep:=
 if ¬(flags=0∨flags=1∨flags=3)then(S,er 15)else
 match find S p with
 | .ok n=>if flags=3 then(S,er 11)else if isDir S.N n then(S,er 13)else if free S.O cl=8 then(S,er 17)else
   ({S with O:=S.O++[⟨cl,free S.O cl,n⟩]},fdR (free S.O cl))
 | .error e=>if e=10∧flags≠0 then
   match place S p with
   | .error _=>(S,er e)
   | .ok q=>if free S.O cl=8 then(S,er 17)else
    ({N:=S.N++[⟨false,[],1⟩],E:=S.E++[⟨q.1,q.2,S.N.length⟩],O:=S.O++[⟨cl,free S.O cl,S.N.length⟩]},fdR (free S.O cl))
  else(S,er e)
def laid(s:List UInt8)(off:Nat)(d:List UInt8):List UInt8:=sized s off++d++s.drop (off+d.length)
def file(S:Fil)(cl:Int)(n:Nat)(kind fd off m:Int)(d:List UInt8):Fil×Rep:=
 if kind=2 then({S with O:=shut S.O cl fd},er 0)
 else if kind=3 then
  (S,if off<0∨m<0∨64<m then er 15 else if((nodeD S.N n).data.length:Int)≤off then er 0 else dataR (((nodeD S.N n).data.drop off.toNat).take m.toNat))
 else if kind=4 then
  if off<0∨64<d.length then(S,er 15)else if d.length=0 then(S,er 0)else if 256<off∨256<off+d.length then(S,er 19)
  else({S with N:=S.N.set n {nodeD S.N n with data:=laid (nodeD S.N n).data off.toNat d}},er 0)
 else if kind=5 then
  if m<0 then(S,er 15)else if 256<m then(S,er 19)else({S with N:=S.N.set n {nodeD S.N n with data:=sized (nodeD S.N n).data m.toNat}},er 0)
 else(S,er 0)
def link(S:Fil)(p p2:List UInt8):Fil×Rep:=
 if Np.pathL p=none∨Np.pathL p2=none then(S,er 15)else
 match find S p with
 | .error e=>(S,er e)
 | .ok n=>if isDir S.N n then(S,er 13)else if p2=[47]then(S,er 11)else
  match place S p2 with
  | .error g=>(S,er g)
  | .ok q=>if 0≤look S.E q.1 q.2 then(S,er 11)else if(nodeD S.N n).links=20 then(S,er 20)else
   ({S with E:=S.E++[⟨q.1,q.2,n⟩],N:=S.N.set n {nodeD S.N n with links:=(nodeD S.N n).links+1}},er 0)
def unlink(S:Fil)(p:List UInt8):Fil×Rep:=
 match find S p with
 | .error e=>(S,er e)
 | .ok n=>if isDir S.N n then(S,er 13)else
  match place S p with
  | .error _=>(S,er 0)
  | .ok q=>({S with E:=take S.E q.1 q.2,N:=S.N.set n {nodeD S.N n with links:=(nodeD S.N n).links-1}},er 0)
def over(S:Fil)(was:Int)(q:Nat×List UInt8):Fil:=
 if 0≤was then
  {S with E:=take S.E q.1 q.2,N:=if isDir S.N was.toNat then S.N else S.N.set was.toNat {nodeD S.N was.toNat with links:=(nodeD S.N was.toNat).links-1}}
 else S
def overErr(S:Fil)(n:Nat)(was:Int):Int:=
 if 0≤was then
  if isDir S.N n then(if isDir S.N was.toNat then(if 0<count S.E was.toNat then 14 else 0)else 12)
  else(if isDir S.N was.toNat then 13 else 0)
 else 0
def rename(S:Fil)(p p2:List UInt8):Fil×Rep:=
 if Np.pathL p=none∨Np.pathL p2=none∨p=[47]∨p2=[47]then(S,er 15)else
 match find S p with
 | .error e=>(S,er e)
 | .ok n=>if isDir S.N n∧p≠p2∧insideB (Np.pathL p2) (Np.pathL p)=true then(S,er 15)else
  match place S p2 with
  | .error g=>(S,er g)
  | .ok q=>if look S.E q.1 q.2=n then(S,er 0)else if overErr S n (look S.E q.1 q.2)≠0 then(S,er (overErr S n (look S.E q.1 q.2)))else
   match place S p with
   | .error _=>(S,er 0)
   | .ok o=>({over S (look S.E q.1 q.2) q with E:=take (over S (look S.E q.1 q.2) q).E o.1 o.2++[⟨q.1,q.2,n⟩]},er 0)
def ins(x:List UInt8):List (List UInt8)→List (List UInt8)
 |[]=>[x]
 |y::r=>if x<y then x::y::r else y::ins x r
def namesOf(E:List En)(i:Nat):List (List UInt8):=((E.filter fun e=>e.dir==i).map (·.name)).foldl (fun l x=>ins x l) []
def tells(S:Fil)(kind:Int)(p:List UInt8):Fil×Rep:=
 (S,match find S p with
 | .error e=>er e
 | .ok n=>if kind=13 then(if isDir S.N n then infoR 2 1 (count S.E n)else infoR 1 (nodeD S.N n).links (nodeD S.N n).data.length)
  else if isDir S.N n then namesR (namesOf S.E n)else er 12)
def doA(S:Fil)(cl kind:Int)(p p2:List UInt8)(flags fd off m:Int)(d:List UInt8):Fil×Rep:=
 if cl<1∨8<cl then(S,er 1)
 else if kind=1 then opens S cl flags p
 else if 2≤kind∧kind≤6 then(if ofd S.O cl fd<0 then(S,er 16)else file S cl (ofd S.O cl fd).toNat kind fd off m d)
 else if kind=7 then mkdir S p
 else if kind=8 then rmdirR S p
 else if kind=9 then link S p p2
 else if kind=10 then unlink S p
 else if kind=11 then rename S p p2
 else if kind=12∨kind=13 then tells S kind p
 else(S,er 15)
structure Good(K:Nat)(S:Fil):Prop where
 ok:Ok S
 n:S.N.length≤K
 e:S.E.length≤K
 o:S.O.length≤K
 data:∀x∈S.N,x.data.length≤256
 links:∀x∈S.N,x.links≤20∧ -(K:Int)≤x.links
 name:∀e∈S.E,Np.nameB e.name=true
 once:S.E.Pairwise fun a b=>¬(a.dir=b.dir∧a.name=b.name)
 one:S.O.Pairwise fun a b=>¬(a.client=b.client∧a.fd=b.fd)
 root:isDir S.N 0=true
 dirs:∀e∈S.E,isDir S.N e.dir=true
 fds:∀o∈S.O,isDir S.N o.node=false
theorem nodeD_links{K:Nat}{S:Fil}(h:Good K S){n:Nat}(hn:n<S.N.length):(nodeD S.N n).links≤20∧ -(K:Int)≤(nodeD S.N n).links:=by
 have e:S.N[n]? =some S.N[n]:=List.getElem?_eq_getElem hn;unfold nodeD;rw[e];exact h.links _ (List.getElem_mem hn)
theorem nodeD_data{K:Nat}{S:Fil}(h:Good K S){n:Nat}(hn:n<S.N.length):(nodeD S.N n).data.length≤256:=by
 have e:S.N[n]? =some S.N[n]:=List.getElem?_eq_getElem hn;unfold nodeD;rw[e];exact h.data _ (List.getElem_mem hn)
theorem look_place{S:Fil}{x:List UInt8}{n:Nat}:∀{L:List (List UInt8)} {i:Nat},walk S i (L++[x])= .ok n→∃d,walk S i L= .ok d∧isDir S.N d=true∧look S.E d x=n
 |[],i,h=>by
  rw[List.nil_append,walk]at h;split at h
  ·rename_i hd
   split at h
   ·cases h
   ·rename_i hl
    refine⟨i,rfl,hd,?_⟩;rw[walk]at h
    cases h
    omega
  ·cases h
 |y::L,i,h=>by
  rw[List.cons_append,walk]at h;split at h
  ·rename_i hd
   split at h
   ·cases h
   ·rename_i hl
    obtain⟨d,h1,h2,h3⟩:=look_place h;refine⟨d,?_,h2,h3⟩;rw[walk,if_pos hd,if_neg hl];exact h1
  ·cases h
theorem pathL_nil{p:List UInt8}(h:Np.pathL p=some []):p=[47]:=by
 have:=(Np.pathL_some h).2
 rw[←this];rfl
theorem place_of_find{S:Fil}{p:List UInt8}{n:Nat}(h:find S p= .ok n)(hp:p≠[47]):∃d x,place S p= .ok (d,x)∧look S.E d x=n∧isDir S.N d=true:=by
 unfold find at h
 cases hL:Np.pathL p with
 |none=>rw[hL]at h;cases h
 |some L=>
  rw[hL]at h;have hne:L≠[]:=fun e=>hp (pathL_nil (by rw[hL,e]));have e:=List.dropLast_concat_getLast hne;rw[←e]at h;obtain⟨d,h1,h2,h3⟩:=look_place h;refine⟨d,L.getLast hne,?_,h3,h2⟩;unfold place;rw[hL];simp only[List.getLast?_eq_some_getLast hne,h1,placeOn,if_pos h2]
theorem find_root{S:Fil}:find S [47]= .ok 0:=by
 unfold find;have:Np.pathL [47]=some []:=by decide
 rw[this];rfl
theorem place_lt{S:Fil}(h:Ok S){p:List UInt8}{d:Nat}{x:List UInt8}(hp:place S p= .ok (d,x)):d<S.N.length∧isDir S.N d=true:=by
 unfold place at hp;split at hp
 ·cases hp
 ·rename_i L _
  split at hp
  ·cases hp
  ·rename_i y _
   cases hw:walk S 0 L.dropLast with
   |error e=>rw[hw]at hp;cases hp
   |ok n=>
    rw[hw]at hp;unfold placeOn at hp;simp only at hp
    split at hp
    ·rename_i hd
     cases hp
     exact⟨walk_lt h h.root hw,hd⟩
    ·cases hp
theorem place_err{S:Fil}{p:List UInt8}{e:Int}(hp:place S p= .error e):e=10∨e=12∨e=15:=by
 unfold place at hp;split at hp
 ·cases hp;exact Or.inr (Or.inr rfl)
 ·rename_i L _
  split at hp
  ·cases hp;exact Or.inr (Or.inr rfl)
  ·rename_i y _
   cases hw:walk S 0 L.dropLast with
   |error g=>
    rw[hw]at hp
    cases hp
    rcases walk_err hw with h|h
    ·exact Or.inl h
    ·exact Or.inr (Or.inl h)
   |ok n=>
    rw[hw]at hp;unfold placeOn at hp;simp only at hp
    split at hp
    ·cases hp
    ·cases hp;exact Or.inr (Or.inl rfl)
theorem place_name{S:Fil}{p:List UInt8}{d:Nat}{x:List UInt8}(hp:place S p= .ok (d,x)):Np.nameB x=true:=by
 unfold place at hp;split at hp
 ·cases hp
 ·rename_i L hL
  split at hp
  ·cases hp
  ·rename_i y hy
   cases hw:walk S 0 L.dropLast with
   |error e=>rw[hw]at hp;cases hp
   |ok n=>
    rw[hw]at hp;unfold placeOn at hp;simp only at hp
    split at hp
    ·cases hp
     exact(pathL_names hL).2 _ (List.mem_of_getLast? hy)
    ·cases hp
end Pz
section
def callV(kind:Int)(p p2:ByteArray)(flags fd off n:Int)(data:ByteArray):Value:= .agg #[.int .i64 kind,.string p,.string p2,.int .i64 flags,.int .i64 fd,.int .i64 off,.int .i64 n,.string data]
def repV(q:Pz.Rep)(A:Option Addr)(c:Nat):Value:= .agg #[.int .i64 q.errno,.int .i64 q.fd,.string ⟨q.data.toArray⟩,.slice A q.names.length c,.int .i64 q.kind,.int .i64 q.links,.int .i64 q.size]
theorem set7_0{w:World}{g t:Nat}{a0 a1 a2 a3 a4 a5 a6:Value}(v:Value)(h:w.heap[g]? =some (.cells #[a0,a1,a2,a3,a4,a5,a6] t (0,0))):(w.setCell ⟨g,0,none⟩ v).heap[g]? =some (.cells #[v,a1,a2,a3,a4,a5,a6] t (0,0)):=heap_setCell_same w g 0 _ t v h
theorem set7_1{w:World}{g t:Nat}{a0 a1 a2 a3 a4 a5 a6:Value}(v:Value)(h:w.heap[g]? =some (.cells #[a0,a1,a2,a3,a4,a5,a6] t (0,0))):(w.setCell ⟨g,1,none⟩ v).heap[g]? =some (.cells #[a0,v,a2,a3,a4,a5,a6] t (0,0)):=heap_setCell_same w g 1 _ t v h
theorem set7_2{w:World}{g t:Nat}{a0 a1 a2 a3 a4 a5 a6:Value}(v:Value)(h:w.heap[g]? =some (.cells #[a0,a1,a2,a3,a4,a5,a6] t (0,0))):(w.setCell ⟨g,2,none⟩ v).heap[g]? =some (.cells #[a0,a1,v,a3,a4,a5,a6] t (0,0)):=heap_setCell_same w g 2 _ t v h
theorem set7_3{w:World}{g t:Nat}{a0 a1 a2 a3 a4 a5 a6:Value}(v:Value)(h:w.heap[g]? =some (.cells #[a0,a1,a2,a3,a4,a5,a6] t (0,0))):(w.setCell ⟨g,3,none⟩ v).heap[g]? =some (.cells #[a0,a1,a2,v,a4,a5,a6] t (0,0)):=heap_setCell_same w g 3 _ t v h
theorem set7_4{w:World}{g t:Nat}{a0 a1 a2 a3 a4 a5 a6:Value}(v:Value)(h:w.heap[g]? =some (.cells #[a0,a1,a2,a3,a4,a5,a6] t (0,0))):(w.setCell ⟨g,4,none⟩ v).heap[g]? =some (.cells #[a0,a1,a2,a3,v,a5,a6] t (0,0)):=heap_setCell_same w g 4 _ t v h
theorem set7_5{w:World}{g t:Nat}{a0 a1 a2 a3 a4 a5 a6:Value}(v:Value)(h:w.heap[g]? =some (.cells #[a0,a1,a2,a3,a4,a5,a6] t (0,0))):(w.setCell ⟨g,5,none⟩ v).heap[g]? =some (.cells #[a0,a1,a2,a3,a4,v,a6] t (0,0)):=heap_setCell_same w g 5 _ t v h
theorem set7_6{w:World}{g t:Nat}{a0 a1 a2 a3 a4 a5 a6:Value}(v:Value)(h:w.heap[g]? =some (.cells #[a0,a1,a2,a3,a4,a5,a6] t (0,0))):(w.setCell ⟨g,6,none⟩ v).heap[g]? =some (.cells #[a0,a1,a2,a3,a4,a5,v] t (0,0)):=heap_setCell_same w g 6 _ t v h
theorem row7{w:World}{g t:Nat}{a0 a1 a2 a3 a4 a5 a6:Value}(h:w.heap[g]? =some (.cells #[a0,a1,a2,a3,a4,a5,a6] t (0,0)))(v0 v1 v2 v3 v4 v5 v6:Value):
 (((((((w.setCell ⟨g,0,none⟩ v0).setCell ⟨g,1,none⟩ v1).setCell ⟨g,2,none⟩ v2).setCell ⟨g,3,none⟩ v3).setCell ⟨g,4,none⟩ v4).setCell ⟨g,5,none⟩ v5).setCell ⟨g,6,none⟩ v6).heap[g]? =some (.cells #[v0,v1,v2,v3,v4,v5,v6] t (0,0)):=(set7_6 v6 (set7_5 v5 (set7_4 v4 (set7_3 v3 (set7_2 v2 (set7_1 v1 (set7_0 v0 h)))))))
theorem cells7{w:World}{g t:Nat}{a0 a1 a2 a3 a4 a5 a6:Value}(h:w.heap[g]? =some (.cells #[a0,a1,a2,a3,a4,a5,a6] t (0,0))):w.cell? ⟨g,0,none⟩=some a0∧w.cell? ⟨g,1,none⟩=some a1∧w.cell? ⟨g,2,none⟩=some a2∧w.cell? ⟨g,3,none⟩=some a3∧w.cell? ⟨g,4,none⟩=some a4∧w.cell? ⟨g,5,none⟩=some a5∧w.cell? ⟨g,6,none⟩=some a6∧∀j,w.frozen? ⟨g,j,none⟩=false:=
 ⟨cell_of_row w g 0 _ t _ h,cell_of_row w g 1 _ t _ h,cell_of_row w g 2 _ t _ h,cell_of_row w g 3 _ t _ h,cell_of_row w g 4 _ t _ h,cell_of_row w g 5 _ t _ h,cell_of_row w g 6 _ t _ h,fun j=>frozen_of_row w g j _ t h⟩
theorem only7(w:World)(g:Nat)(v0 v1 v2 v3 v4 v5 v6:Value):Only (fun k=>k=g) w (((((((w.setCell ⟨g,0,none⟩ v0).setCell ⟨g,1,none⟩ v1).setCell ⟨g,2,none⟩ v2).setCell ⟨g,3,none⟩ v3).setCell ⟨g,4,none⟩ v4).setCell ⟨g,5,none⟩ v5).setCell ⟨g,6,none⟩ v6):=by
 have s:=fun(W:World) (j:Nat) (v:Value)=>only_setCell W ⟨g,j,none⟩ v (F:=fun k=>k=g) rfl;exact((((((s w 0 v0).trans (s _ 1 v1) fun _ _ e=>e).trans (s _ 2 v2) fun _ _ e=>e).trans (s _ 3 v3) fun _ _ e=>e).trans (s _ 4 v4) fun _ _ e=>e).trans (s _ 5 v5) fun _ _ e=>e).trans (s _ 6 v6) fun _ _ e=>e
theorem Strs.only{w w':World}{B:Nat}{A:Option Addr}{L:List (List UInt8)}{G:Nat→Prop}(h:Strs w B A L)(ho:Only G w w')(hG:∀k,B≤k→k<w.heap.size→¬G k):Strs w' B A L:=by
 rcases h with h|⟨b,o,h1,h2,h3,h4,h5⟩
 ·exact Or.inl h
 ·refine Or.inr ⟨b,o,h1,h2,Nat.lt_of_lt_of_le h3 ho.size,fun j x hx=> ?_,fun j=> ?_⟩
  ·exact(ho.cell (p:=⟨b,o+j,none⟩) h3 (hG b h2 h3)).trans (h4 j x hx)
  ·exact(ho.frozen (p:=⟨b,j,none⟩) h3 (hG b h2 h3)).trans (h5 j)
def Does(I:Pz.Fil→World→(Nat→Prop)→Prop)(out:Pz.Fil×Pz.Rep)(w:World)(F:Nat→Prop)(e:Ending)(w':World):Prop:=
 ∃A c,e= .returned (repV out.2 A c)∧Strs w' w.heap.size A out.2.names∧I out.1 w' (Gr F w)∧Only F w w'
structure pFx(I:World→(Nat→Prop)→Prop)(F:Nat→Prop)(w0:World)(C:Array Value)(w:World):Prop where
 st:St I F w0 2 w
 box:w.heap[w0.heap.size]? =some (.cells C 28 (0,0))
 res:w.heap[w0.heap.size+1]? =some (.cells #[.int .i64 0,.int .i64 0,.string ⟨#[]⟩,.slice none 0 0,.int .i64 0,.int .i64 0,.int .i64 0] 47 (0,0))
theorem pFx.start{I:World→(Nat→Prop)→Prop}(hH:Held I){F:Nat→Prop}{w:World}(h:I w F)(C:Array Value):
 pFx I F w C ((w.alloc (.cells C 28)).alloc (.cells #[.int .i64 0,.int .i64 0,.string ⟨#[]⟩,.slice none 0 0,.int .i64 0,.int .i64 0,.int .i64 0] 47)) where
 st:=St.start hH h (((Below.refl w.heap.size w).alloc (Nat.le_refl _) _).alloc (by simp) _) (by simp)
 box:=by
  rw[Below.heap_alloc _ _ _ (by simp)];exact heap_alloc_new _ _
 res:=heap_alloc2_new _ _ _
theorem pFx.read{I:World→(Nat→Prop)→Prop}(hH:Held I){F:Nat→Prop}{w0 w w':World}{C:Array Value}(h:pFx I F w0 C w)(hb:Below w.heap.size w w'):pFx I F w0 C w' where
 st:=h.st.read hH hb
 box:=(hb.block _ (by have:=h.st.size;omega)).trans h.box
 res:=(hb.block _ (by have:=h.st.size;omega)).trans h.res
theorem pFx.write{I J:World→(Nat→Prop)→Prop}(hJ:Held J){F:Nat→Prop}{w0 w w':World}{C:Array Value}(h:pFx I F w0 C w)(hi:J w' (Gr (Ft F w0 2) w))(ho:Only (Ft F w0 2) w w'):pFx J F w0 C w' where
 st:=h.st.write hJ hi ho
 box:=(h.st.own ho (Nat.le_refl _) (by omega)).trans h.box
 res:=(h.st.own ho (by omega) (by omega)).trans h.res
theorem pFx.put{I J:World→(Nat→Prop)→Prop}(hJ:Held J){F:Nat→Prop}{w0 w w':World}{C:Array Value}(h:pFx I F w0 C w)(hi:J w' (Ft F w0 2))(ho:Only (Ft F w0 2) w w'):pFx J F w0 C w':=
 h.write hJ (hJ.mono hi fun _ _ e=>Or.inl e) ho
theorem pFx.inv{I:World→(Nat→Prop)→Prop}{F:Nat→Prop}{w0 w:World}{C:Array Value}(h:pFx I F w0 C w):I w (Ft F w0 2):=h.st.inv
theorem pFx.c8{I:World→(Nat→Prop)→Prop}{F:Nat→Prop}{w0 w:World}{a0 a1 a2 a3 a4 a5 a6 a7:Value}(h:pFx I F w0 #[a0,a1,a2,a3,a4,a5,a6,a7] w):
 w.cell? ⟨w0.heap.size,0,none⟩=some a0∧w.cell? ⟨w0.heap.size,1,none⟩=some a1∧w.cell? ⟨w0.heap.size,2,none⟩=some a2∧w.cell? ⟨w0.heap.size,3,none⟩=some a3∧w.cell? ⟨w0.heap.size,4,none⟩=some a4∧w.cell? ⟨w0.heap.size,5,none⟩=some a5∧w.cell? ⟨w0.heap.size,6,none⟩=some a6∧w.cell? ⟨w0.heap.size,7,none⟩=some a7:=
 ⟨cell_of_row w _ 0 _ _ _ h.box,cell_of_row w _ 1 _ _ _ h.box,cell_of_row w _ 2 _ _ _ h.box,cell_of_row w _ 3 _ _ _ h.box,cell_of_row w _ 4 _ _ _ h.box,cell_of_row w _ 5 _ _ _ h.box,cell_of_row w _ 6 _ _ _ h.box,cell_of_row w _ 7 _ _ _ h.box⟩
theorem pFx.done{I:Pz.Fil→World→(Nat→Prop)→Prop}(hH:∀S,Held (I S)){S:Pz.Fil}{F:Nat→Prop}{w0 w:World}{C:Array Value}(h:pFx (I S) F w0 C w)(q:Pz.Rep)(A:Option Addr)(c:Nat)(hS:Strs w (w0.heap.size+2) A q.names)(v0 v1 v2 v3 v4 v5 v6:Value):
 Does I (S,q) w0 F (.returned (repV q A c)) (((((((w.setCell ⟨w0.heap.size+1,0,none⟩ v0).setCell ⟨w0.heap.size+1,1,none⟩ v1).setCell ⟨w0.heap.size+1,2,none⟩ v2).setCell ⟨w0.heap.size+1,3,none⟩ v3).setCell ⟨w0.heap.size+1,4,none⟩ v4).setCell ⟨w0.heap.size+1,5,none⟩ v5).setCell ⟨w0.heap.size+1,6,none⟩ v6):=by
 have ho:=only7 w (w0.heap.size+1) v0 v1 v2 v3 v4 v5 v6;obtain⟨h1,h2⟩:=h.st.fin (hH S) (ho.mono fun k _ e=>by omega);exact⟨A,c,rfl,(hS.only ho fun k hk _=>by omega).low (by omega),h1,h2⟩
section
variable {r:Nat} {S S':Pz.Fil} {F:Nat→Prop} {w0 w:World} {C:Array Value} {P:Program} {f:FuncId} {a:Array Value} {E:Ending} {Q:Ending→World→Prop}
theorem pst(hR:RefF r S w0 F)(kind:Int)(p p2:ByteArray)(flags fd off n:Int)(data:ByteArray):
 Hid (pFx (RefF r S) F w0 #[.int .i64 kind,.string p,.string p2,.int .i64 flags,.int .i64 fd,.int .i64 off,.int .i64 n,.string data] ((w0.alloc (.cells #[.int .i64 kind,.string p,.string p2,.int .i64 flags,.int .i64 fd,.int .i64 off,.int .i64 n,.string data] 28)).alloc (.cells #[.int .i64 0,.int .i64 0,.string ⟨#[]⟩,.slice none 0 0,.int .i64 0,.int .i64 0,.int .i64 0] 47))):=
 hid (pFx.start (RefF.held r S) hR _)
theorem pcells{w:World}{g t:Nat}{a0 a1 a2 a3 a4 a5 a6:Value}(h:w.heap[g]? =some (.cells #[a0,a1,a2,a3,a4,a5,a6] t (0,0))):w.cell? ⟨g,0,none⟩=some a0∧w.cell? ⟨g,1,none⟩=some a1∧w.cell? ⟨g,2,none⟩=some a2∧w.cell? ⟨g,3,none⟩=some a3∧w.cell? ⟨g,4,none⟩=some a4∧w.cell? ⟨g,5,none⟩=some a5∧w.cell? ⟨g,6,none⟩=some a6∧w.frozen? ⟨g,0,none⟩=false∧w.frozen? ⟨g,1,none⟩=false∧w.frozen? ⟨g,2,none⟩=false∧w.frozen? ⟨g,3,none⟩=false∧w.frozen? ⟨g,4,none⟩=false∧w.frozen? ⟨g,5,none⟩=false∧w.frozen? ⟨g,6,none⟩=false:=by
 obtain⟨c0,c1,c2,c3,c4,c5,c6,f⟩:=cells7 h;exact⟨c0,c1,c2,c3,c4,c5,c6,f 0,f 1,f 2,f 3,f 4,f 5,f 6⟩
theorem prd(h:Hid (pFx (RefF r S) F w0 C w))(H:Hid (∀W G,RefF r S W G→Calls P f a W fun e w'=>e=E∧Below W.heap.size W w'))(k:∀w',Hid (pFx (RefF r S) F w0 C w')→Q E w'):Calls P f a w Q:=
 (H.o _ _ h.o.inv).mono (by rintro e w' ⟨rfl,hb⟩;exact k _ (hid (h.o.read (RefF.held r S) hb)))
theorem ppl(h:Hid (pFx (RefF r S) F w0 C w))(H:Hid (∀W,Calls P f a W fun e w'=>e=E∧Below W.heap.size W w'))(k:∀w',Hid (pFx (RefF r S) F w0 C w')→Q E w'):Calls P f a w Q:=
 (H.o _).mono (by rintro e w' ⟨rfl,hb⟩;exact k _ (hid (h.o.read (RefF.held r S) hb)))
theorem pwr(h:Hid (pFx (RefF r S) F w0 C w))(H:Hid (∀W G,RefF r S W G→Calls P f a W fun e w'=>e=E∧RefF r S' w' (Gr G W)∧Only G W w'))(k:∀w',Hid (pFx (RefF r S') F w0 C w')→Q E w'):Calls P f a w Q:=
 (H.o _ _ h.o.inv).mono (by rintro e w' ⟨rfl,hi,ho⟩;exact k _ (hid (h.o.write (RefF.held r S') hi ho)))
theorem pfail(h:pFx (RefF r S) F w0 C w)(v:Int)(k:∀w',Hid (pFx (RefF r S) F w0 C w')→Q (.returned (.agg #[.int .i64 v,.int .i64 0,.string ⟨#[]⟩,.slice none 0 0,.int .i64 0,.int .i64 0,.int .i64 0])) w'):Calls prog 47 #[.int .i64 v] w Q:=
 (rfails_any v w).mono (by rintro e w' ⟨rfl,hb⟩;exact k _ (hid (h.read (RefF.held r S) hb)))
theorem pret{fn:Func}{p:Tmp}{a:Act}{R:Pz.Fil×Pz.Rep}{q:Pz.Rep}{v0 v1 v2 v3 v4 v5 v6:Value}(hR:R=(S,q))(h:pFx (RefF r S) F w0 C w)(A:Option Addr)(c:Nat)(hS:Strs w (w0.heap.size+2) A q.names)
 (hv:Value.agg #[v0,v1,v2,v3,v4,v5,v6]=repV q A c:=by rfl)(hf:fn.results=#[.cell p 47]:=by rfl)(hp:a.tmps.getD p undef= .pointer (some ⟨w0.heap.size+1,0,none⟩):=by rfl)(hd:a.defers=[]:=by rfl):
 bodyPost prog fn (Does (RefF r) R w0 F) .ret a (((((((w.setCell ⟨w0.heap.size+1,0,none⟩ v0).setCell ⟨w0.heap.size+1,1,none⟩ v1).setCell ⟨w0.heap.size+1,2,none⟩ v2).setCell ⟨w0.heap.size+1,3,none⟩ v3).setCell ⟨w0.heap.size+1,4,none⟩ v4).setCell ⟨w0.heap.size+1,5,none⟩ v5).setCell ⟨w0.heap.size+1,6,none⟩ v6):=by
 subst hR;refine bodyPost_ret (results_cell_row hf _ _ (w0.heap.size+1) _ _ _ _ hp (row7 h.res _ _ _ _ _ _ _) underlying47 rfl infoR) hd ?_;rw[hv];exact h.done (RefF.held r) q A c hS _ _ _ _ _ _ _
end
end
theorem ne_of_err{v:Int}(h:v=10∨v=12∨v=15):(v !=0)=true∧(v==0)=false∧¬v=0:=by
 rcases h with rfl|rfl|rfl<;>decide
theorem path_ne{p:ByteArray}(h:¬p.data.toList=[47]):(p.toList==[47])=false:=by rw[beq_eq_false_iff_ne,Lib.toList_data];exact h
theorem RefF.dirAt{w:World}{r n:Nat}{S:Pz.Fil}{F:Nat→Prop}(h:RefF r S w F)(hn:n<S.N.length):
 ∃b c,w.cell? ⟨r,0,none⟩=some (.slice (some ⟨b,0,none⟩) S.N.length c)∧w.cell? ⟨b,n*3,none⟩=some (.bool (Pz.isDir S.N n))∧w.cell? ⟨b,n*3+1,none⟩=some (.string ⟨(Pz.nodeD S.N n).data.toArray⟩)∧w.cell? ⟨b,n*3+2,none⟩=some (.int .i64 (Pz.nodeD S.N n).links):=by
 obtain⟨x,hx⟩:∃x,S.N[n]? =some x:=⟨_,List.getElem?_eq_getElem hn⟩;obtain⟨b,c,h1,_,_,_,_,h2,h3,h4,_⟩:=h.node hx;refine⟨b,c,h1,?_,?_,?_⟩
 ·unfold Pz.isDir;rw[hx];exact h2
 ·unfold Pz.nodeD;rw[hx];exact h3
 ·unfold Pz.nodeD;rw[hx];exact h4
theorem RefF.nodeAt{w:World}{r n:Nat}{S:Pz.Fil}{F:Nat→Prop}(h:RefF r S w F)(hn:n<S.N.length):
 ∃b c,w.cell? ⟨r,0,none⟩=some (.slice (some ⟨b,0,none⟩) S.N.length c)∧w.cell? ⟨b,n*3,none⟩=some (.bool (Pz.isDir S.N n))∧w.cell? ⟨b,n*3+1,none⟩=some (.string ⟨(Pz.nodeD S.N n).data.toArray⟩)∧w.cell? ⟨b,n*3+2,none⟩=some (.int .i64 (Pz.nodeD S.N n).links)∧
  w.frozen? ⟨b,n*3+1,none⟩=false∧w.frozen? ⟨b,n*3+2,none⟩=false∧
  (∀d:List UInt8,RefF r {S with N:=S.N.set n {Pz.nodeD S.N n with data:=d}} (w.setCell ⟨b,n*3+1,none⟩ (.string ⟨d.toArray⟩)) F∧Only F w (w.setCell ⟨b,n*3+1,none⟩ (.string ⟨d.toArray⟩)))∧
  (∀l:Int,RefF r {S with N:=S.N.set n {Pz.nodeD S.N n with links:=l}} (w.setCell ⟨b,n*3+2,none⟩ (.int .i64 l)) F∧Only F w (w.setCell ⟨b,n*3+2,none⟩ (.int .i64 l))):=by
 obtain⟨x,hx⟩:∃x,S.N[n]? =some x:=⟨_,List.getElem?_eq_getElem hn⟩;obtain⟨b,c,h1,_,_,_,_,h2,h3,h4,h5,h6,h7⟩:=h.node hx;have e:Pz.nodeD S.N n=x:=by unfold Pz.nodeD;rw[hx]
 rw[e];refine⟨b,c,h1,?_,h3,h4,h5 _,h5 _,h6,h7⟩;unfold Pz.isDir;rw[hx];exact h2
theorem rrmdir_any(r:Nat)(S:Pz.Fil)(kind flags fd off n:Int)(p p2 data:ByteArray)(w:World)(F:Nat→Prop)(hp:p.size≤100000)(hG:Pz.Good 1000 S)(hR:RefF r S w F):
 Calls prog 55 #[.pointer (some ⟨r,0,none⟩),callV kind p p2 flags fd off n data] w (Does (RefF r) (Pz.rmdirR S p.data.toList) w F):=by
 have hE:=hG.e;have hN:=hG.n;have h1:=fun W G (hR:RefF r S W G)=>pfind_any 0 r S p W hp (by omega) (by omega) hG.ok hR.is;have FX:=pst hR kind p p2 flags fd off n data;unfold callV;by_cases h47:p.data.toList=[47]
 ·rw[Pz.rmdirR,if_pos h47];obtain rfl:p=⟨#[47]⟩:=ba_ext h47
  clear h1 hR hG h47 hp hE hN;go_enter func55,ntmps55;go_wp2_with fail
  refine pfail FX.o 15 fun wf FXF=> ?_;obtain⟨c0,c1,c2,c3,c4,c5,c6,f0,f1,f2,f3,f4,f5,f6⟩:=pcells FXF.o.res;go_wp2;try simp only[Exit.inBlock,Exit.then]
  exact pret rfl FXF.o none 0 (Or.inl rfl)
 ·rw[Pz.rmdirR,if_neg h47];have hp47:=path_ne h47
  cases hf:Pz.find S p.data.toList with
  |error v=>
   obtain⟨hv1,hv2,hv3⟩:=ne_of_err (Pz.find_err hf);rw[hf]at h1;simp only[toT]at h1;have HF:=hid h1;clear h1 hR hG h47 hf hE hN;show Calls _ _ _ _ (Does (RefF r) (S,Pz.er v) w F)
   go_enter func55,ntmps55;go_wp2_with fail
   refine(HF.o _ _ FX.o.inv).mono ?_
   rintro e w1 ⟨rfl,hb1⟩;have FX1:=hid (FX.o.read (RefF.held _ _) hb1);go_wp2_with fail
   refine pfail FX1.o v fun wf FXF=> ?_;obtain⟨c0,c1,c2,c3,c4,c5,c6,f0,f1,f2,f3,f4,f5,f6⟩:=pcells FXF.o.res;go_wp2;try simp only[Exit.inBlock,Exit.then]
   exact pret rfl FXF.o none 0 (Or.inl rfl)
  |ok m=>
   obtain⟨d,x,hpl,hlk,hdd⟩:=Pz.place_of_find hf h47;have hm:=Pz.find_lt hG.ok hf;rw[hf]at h1;simp only[toT]at h1;have HF:=hid h1;have HD:=hid fun W G (h:RefF r S W G)=>h.dirAt hm;have HC:=hid fun W G (h:RefF r S W G)=>pcount_any 0 r S m W (by omega) h.is;have h2:=fun W G (h:RefF r S W G)=>place_any 0 r S p W hp (by omega) (by omega) hG.ok h.is;rw[hpl]at h2;simp only[toP]at h2;have HP:=hid h2;have HT:=hid fun W G (h:RefF r S W G)=>ptake_any r S d ⟨x.toArray⟩ W G (by omega) h;simp only[hpl];obtain⟨q,hq⟩:=nm S.N.length;obtain⟨D,hD⟩:=nm (Pz.isDir S.N m);obtain⟨C,hC⟩:=nm (Pz.count S.E m);rw[←hq,←hD]at HD;rw[←hC]at HC;rw[←hq]at hm;rw[←hD,←hC];have hm1:(0:Int)≤m:=by omega
   have hm2:(m:Int)<q:=by omega
   clear h1 h2 hR hG h47 hf hE hN hpl hlk hdd hq hD hC
   cases D with
   |false=>
    show Calls _ _ _ _ (Does (RefF r) (S,Pz.er 12) w F)
    go_enter func55,ntmps55;go_wp2_with fail
    refine(HF.o _ _ FX.o.inv).mono ?_
    rintro e w1 ⟨rfl,hb1⟩;have FX1:=hid (FX.o.read (RefF.held _ _) hb1);obtain⟨b,c,g,g0,_,_⟩:=HD.o _ _ FX1.o.inv;go_wp2_with fail
    refine pfail FX1.o 12 fun wf FXF=> ?_;obtain⟨c0,c1,c2,c3,c4,c5,c6,f0,f1,f2,f3,f4,f5,f6⟩:=pcells FXF.o.res;go_wp2;try simp only[Exit.inBlock,Exit.then]
    exact pret rfl FXF.o none 0 (Or.inl rfl)
   |true=>
    by_cases hC:0<C
    ·rw[if_pos rfl,if_pos hC];have hC2:(0:Int)<C:=by omega
     go_enter func55,ntmps55;go_wp2_with fail
     refine(HF.o _ _ FX.o.inv).mono ?_
     rintro e w1 ⟨rfl,hb1⟩;have FX1:=hid (FX.o.read (RefF.held _ _) hb1);obtain⟨b,c,g,g0,_,_⟩:=HD.o _ _ FX1.o.inv;go_wp2_with fail
     refine(HC.o _ _ FX1.o.inv).mono ?_
     rintro e w2 ⟨rfl,hb2⟩;have FX2:=hid (FX1.o.read (RefF.held _ _) hb2);clear g g0;go_wp2_with fail
     refine pfail FX2.o 14 fun wf FXF=> ?_;obtain⟨c0,c1,c2,c3,c4,c5,c6,f0,f1,f2,f3,f4,f5,f6⟩:=pcells FXF.o.res;go_wp2;try simp only[Exit.inBlock,Exit.then]
     exact pret rfl FXF.o none 0 (Or.inl rfl)
    ·rw[if_pos rfl,if_neg hC];have hC2:(C:Int)≤0:=by omega
     have hC3:¬(0:Int)<C:=by omega
     go_enter func55,ntmps55;go_wp2_with fail
     refine(HF.o _ _ FX.o.inv).mono ?_
     rintro e w1 ⟨rfl,hb1⟩;have FX1:=hid (FX.o.read (RefF.held _ _) hb1);obtain⟨b,c,g,g0,_,_⟩:=HD.o _ _ FX1.o.inv;go_wp2_with fail
     refine(HC.o _ _ FX1.o.inv).mono ?_
     rintro e w2 ⟨rfl,hb2⟩;have FX2:=hid (FX1.o.read (RefF.held _ _) hb2);clear g g0;obtain⟨b0,b1,b2,b3,b4,b5,b6,b7⟩:=FX2.o.c8;go_wp2_with fail
     refine(HP.o _ _ FX2.o.inv).mono ?_
     rintro e w3 ⟨rfl,hb3⟩;have FX3:=hid (FX2.o.read (RefF.held _ _) hb3);clear b0 b1 b2 b3 b4 b5 b6 b7;go_wp2_with fail
     refine(HT.o _ _ FX3.o.inv).mono ?_
     rintro e w4 ⟨rfl,hi4,ho4⟩;have FX4:=hid (FX3.o.write (RefF.held _ _) hi4 ho4);clear hi4 ho4;obtain⟨c0,c1,c2,c3,c4,c5,c6,f0,f1,f2,f3,f4,f5,f6⟩:=pcells FX4.o.res;go_wp2;try simp only[Exit.inBlock,Exit.then]
     exact pret rfl FX4.o none 0 (Or.inl rfl)
end Go.Proofs.YtckoobkjpndgnaaGreatDoor
