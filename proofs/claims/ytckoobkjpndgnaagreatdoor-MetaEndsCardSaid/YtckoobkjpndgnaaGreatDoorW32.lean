/- Metadata over any bytes: Mkdir, Unlink, Rmdir, Stat, List, both. -/
import Derived.Test.YtckoobkjpndgnaaGreatDoorW31
set_option linter.unusedVariables false
set_option linter.unusedSimpArgs false
set_option linter.unusedSectionVars false
set_option maxHeartbeats 8000000
set_option maxRecDepth 100000
namespace Go.Proofs.YtckoobkjpndgnaaGreatDoor
open Go.RowKit
open Lib(hid)
open Go.Proofs.Tryz
section
open Go.Shelf
attribute [local go_sem] Oper.semAt_some
theorem mpath_neE{p:ByteArray}(h:¬p.data.toList=[47]):(p.toList==[47])=false:=by rw[beq_eq_false_iff_ne,Lib.toList_data];exact h
theorem mpath_isE{p:ByteArray}(h:p.data.toList=[47]):(p.toList==[47])=true:=by rw[beq_iff_eq,Lib.toList_data];exact h
theorem infoSzE:(prog.info? 45).map (fun i=>i.size)=some 3:=by kernel_rfl
def StatR(w:World)(e:Ending)(w':World):Prop:=∃a b c E:Int,e= .returned (.tuple #[.agg #[.int .i64 a,.int .i64 b,.int .i64 c],.int .i64 E])∧Below w.heap.size w w'
def ListR(w:World)(e:Ending)(w':World):Prop:=∃(L:List (List UInt8)) (A:Option Addr) (c:Nat) (E:Int),L.length≤16∧(∀s∈L,s.length≤1000)∧e= .returned (.tuple #[.slice A L.length c,.int .i64 E])∧Strs w' w.heap.size A L∧Below w.heap.size w w'
def BoolR(w:World)(e:Ending)(w':World):Prop:=∃b:Bool,e= .returned (.bool b)∧Below w.heap.size w w'
def PathR(w:World)(e:Ending)(w':World):Prop:=∃(v:Value) (E:Int),e= .returned (.tuple #[v,.int .i64 E])∧Below w.heap.size w w'
theorem names_le(T:Gd.Tab):(Gd.namesT T).length≤16:=by
 rw[Gd.namesT_len];unfold Gd.rawN;have h1:=List.length_filter_le (fun s:List UInt8=>decide (s≠[])) ((T.take 16).map (·.s));rw[List.length_map,List.length_take]at h1;omega
theorem names_len{T:Gd.Tab}(h:Gd.TabOk T):∀s∈Gd.namesT T,s.length≤1000:=fun s hs=>by
 unfold Gd.namesT at hs;rw[List.mem_mergeSort]at hs;unfold Gd.rawN at hs;obtain⟨e,he,rfl⟩:=List.mem_map.1 (List.mem_filter.1 hs).1;rcases h.may e (List.mem_of_mem_take he)with e2|⟨e2,-⟩
 ·rw[e2];exact Nat.zero_le _
 ·have:=nameB_len e2
  omega
theorem mkdir_t[MemNo]{x t K:Nat}{S:List UInt8}{F:Nat→Prop}(s:ByteArray)(hs:s.size≤100000)(spare:Int)(w:World)(h:MT x t S K w F)(hC:Cx F w):
 Calls prog 29 #[.pointer (some ⟨x,0,none⟩),.string s,.int .i64 spare] w (ErR x t S K F w):=by
 have HQ0:=hid (Tq.start h);have HC:=hid hC;have Hs:=hid hs;have HMk:=hid fun(a:World) (Ls:List (Nat×Obj)) (h:Tq x t S K F w a Ls) d n hn=>h.make d n hn Gd.rootI ⟨rfl,rfl⟩ (ino_all (by kernel_rfl)) spare;rw[rootV_lit]at HMk;clear h hC hs;go_enter func29,ntmps29;go_upto_region 2 with(go_at_call 65;refine(HQ0.o.walk HC.o s Hs.o).mono ?_;rintro e w2 ⟨i,E,hin,rfl,hb⟩;have Hini:=hid hin;clear hin;have HQ2:=hid (HQ0.o.below hb);clear hb)
 by_cases hE:E=0
 ·subst hE;go_wp2_with fail
  go_ret
  exact⟨_,rfl,HQ2.o.turns⟩
 have hE3:(E==0)=false:=by rw[beq_eq_false_iff_ne];exact hE
 clear hE;go_upto_region 5 with(go_at_call 66;refine(HQ2.o.place HC.o s Hs.o).mono ?_;rintro e w3 ⟨d,n,E2,hin,rfl,hb⟩;have Hind:=hid hin;clear hin;have HQ3:=hid (HQ2.o.below hb);clear hb)
 by_cases hE:E2=0
 rotate_left
 ·have hE2:(E2 !=0)=true:=by rw[bne_iff_ne];exact hE
  have hE3:(E2==0)=false:=by rw[beq_eq_false_iff_ne];exact hE
  have HE:=hid hE;clear hE;go_wp2_with fail
  go_ret
  exact⟨_,rfl,HQ3.o.turns⟩
 subst hE;have HN:=hid (Hind.o rfl).2;go_upto_region 8 with(go_at_call 69;refine(HQ3.o.find d n HN.o).mono ?_;rintro e w4 ⟨v,E4,hin,rfl,hb⟩;have Hinv:=hid hin;clear hin;have HQ4:=hid (HQ3.o.below hb);clear hb)
 by_cases hE:E4=0
 rotate_left
 ·have hE2:(E4 !=0)=true:=by rw[bne_iff_ne];exact hE
  have hE3:(E4==0)=false:=by rw[beq_eq_false_iff_ne];exact hE
  have HE:=hid hE;clear hE;go_wp2_with fail
  go_ret
  exact⟨_,rfl,HQ4.o.turns⟩
 subst hE;by_cases hv:v=0
 rotate_left
 ·go_wp2_with fail
  go_ret
  exact⟨_,rfl,HQ4.o.turns⟩
 subst hv;have HMc:=hid (HMk.o _ _ HQ4.o d n HN.o);go_wp2_with(go_at_call 67;refine HMc.o.mono ?_;rintro e w6 ⟨f,er,-,rfl,ht⟩;have HQ6:=hid ht;clear ht)
 go_ret
 exact⟨_,rfl,HQ6.o.turns⟩
theorem Tq.openC[MemNo]{x t K:Nat}{S:List UInt8}{F:Nat→Prop}{w a:World}{Ls:List (Nat×Obj)}(h:Tq x t S K F w a Ls)(hC:Cx F w):∃F1,MT x t S K a F1∧Cx F1 a∧∀b,Tu x t S K F1 a b→Tq x t S K F w b Ls:=by
 have hm:=h.mx hC;obtain⟨F1,h1,h2⟩:=h;obtain⟨m,hmx⟩:=hC.1;exact⟨F1,h1.inv,⟨hm,fun e=>hC.2 (h1.old _ (mx_lt hmx) e)⟩,fun b hb=>Tq.next h1 h2 hb⟩
theorem Tq.removeL[MemNo]{x t K:Nat}{S:List UInt8}{F:Nat→Prop}{w a:World}{Ls:List (Nat×Obj)}(h:Tq x t S K F w a Ls)(hC:Cx F w)(s:ByteArray)(hs:s.size≤100000)(i:Int):Calls prog 72 #[.pointer (some ⟨x,0,none⟩),.string s,.int .i64 i,.func (.func 76) #[.pointer (some ⟨x,0,none⟩)] #[]] a (ErQ x t S K F w Ls):=by
 obtain⟨F1,h1,h4,h3⟩:=h.openC hC;exact(removeL_t s hs i a h1 h4).mono fun e w' ⟨er,he,ht⟩=>⟨er,he,h3 w' ht⟩
theorem Tq.removeE[MemNo]{x t K:Nat}{S:List UInt8}{F:Nat→Prop}{w a:World}{Ls:List (Nat×Obj)}(h:Tq x t S K F w a Ls)(hC:Cx F w)(s:ByteArray)(hs:s.size≤100000)(i:Int):Calls prog 72 #[.pointer (some ⟨x,0,none⟩),.string s,.int .i64 i,.func (.func 73) #[.pointer (some ⟨x,0,none⟩)] #[]] a (ErQ x t S K F w Ls):=by
 obtain⟨F1,h1,h4,h3⟩:=h.openC hC;exact(removeE_t s hs i a h1 h4).mono fun e w' ⟨er,he,ht⟩=>⟨er,he,h3 w' ht⟩
theorem unlink_t[MemNo]{x t K:Nat}{S:List UInt8}{F:Nat→Prop}(s:ByteArray)(hs:s.size≤100000)(w:World)(h:MT x t S K w F)(hC:Cx F w):
 Calls prog 32 #[.pointer (some ⟨x,0,none⟩),.string s] w (ErR x t S K F w):=by
 have HQ0:=hid (Tq.start h);have HC:=hid hC;have Hs:=hid hs;clear h hC hs;go_enter func32,ntmps32;go_upto_region 2 with(go_at_call 65;refine(HQ0.o.walk HC.o s Hs.o).mono ?_;rintro e w2 ⟨i,E,hin,rfl,hb⟩;have Hini:=hid hin;clear hin;have HQ2:=hid (HQ0.o.below hb);clear hb)
 by_cases hE:E=0
 rotate_left
 ·have hE2:(E !=0)=true:=by rw[bne_iff_ne];exact hE
  have hE3:(E==0)=false:=by rw[beq_eq_false_iff_ne];exact hE
  have HE:=hid hE;clear hE;go_wp2_with fail
  go_ret
  exact⟨_,rfl,HQ2.o.turns⟩
 subst hE;go_upto_region 5 with(first|(go_at_call 24;refine(HQ2.o.inode i).mono ?_;rintro e w3 ⟨y,E2,hy,rfl,hb⟩;have HY:=hid hy;have HS:Hid ((inoC y).size=15):=hid (inoC_size hy.1);clear hy;unfold inoV;have HQ3:=hid (HQ2.o.below hb);clear hb)|(rw[←zIno_lit];refine wpList_store_mid rfl 72 _ _ rfl w3.heap.size 0 (inoC y) rfl rfl (there_at (heap_alloc_new _ _) (by rw[zIno_size,HS.o])) (by rw[HS.o];exact sizeIno) (inoC_one _) ?_;obtain⟨hbw,hbg⟩:=new_whole2 w3 zIno 72 (inoC y).toList (by rw[zIno_size,Array.length_toList,HS.o]);generalize (World.setCells _ _ _ _)=w4 at hbw hbg⊢;have HQ4:=hid (HQ3.o.new hbw (Nat.le_refl _) (o:= .cells (inoC y) 72 (0,0)) hbg);clear hbw hbg))
 obtain⟨ib,hib⟩:=nm w3.heap.size;rw[←hib]at HQ4⊢;clear hib;by_cases hE:E2=0
 rotate_left
 ·have hE2:(E2 !=0)=true:=by rw[bne_iff_ne];exact hE
  have hE3:(E2==0)=false:=by rw[beq_eq_false_iff_ne];exact hE
  have HE:=hid hE;clear hE;go_wp2_with fail
  go_ret
  exact⟨_,rfl,HQ4.o.turns⟩
 subst hE;have b0:=(show InoAt w4 ib y from⟨HQ4.o.get (k:=ib) (by simp),HY.o.1⟩).c0;obtain⟨q,hq⟩:=nm y.k;rw[←hq]at b0;clear hq;by_cases hk:q=2
 ·subst hk;go_wp2_with fail
  go_ret
  exact⟨_,rfl,HQ4.o.turns⟩
 have hkb:(q==2)=false:=by rw[beq_eq_false_iff_ne];exact hk
 clear hk;go_wp2_with(go_at_call 72;refine(HQ4.o.removeL HC.o s Hs.o i).mono ?_;rintro e w5 ⟨er,rfl,ht⟩;have HQ5:=hid ht;clear ht)
 go_ret
 exact⟨_,rfl,HQ5.o.turns⟩
theorem rmdir_t[MemNo]{x t K:Nat}{S:List UInt8}{F:Nat→Prop}(s:ByteArray)(hs:s.size≤100000)(w:World)(h:MT x t S K w F)(hC:Cx F w):
 Calls prog 30 #[.pointer (some ⟨x,0,none⟩),.string s] w (ErR x t S K F w):=by
 have HQ0:=hid (Tq.start h);have HC:=hid hC;have Hs:=hid hs;by_cases h47:s.data.toList=[47]
 ·have h48:=mpath_isE h47;clear h hC hs h47;go_enter func30,ntmps30;go_wp2_with fail
  go_ret
  exact⟨_,rfl,HQ0.o.turns⟩
 have h48:=mpath_neE h47;clear h hC hs h47;go_enter func30,ntmps30;go_upto_region 4 with(go_at_call 65;refine(HQ0.o.walk HC.o s Hs.o).mono ?_;rintro e w2 ⟨i,E,hin,rfl,hb⟩;have Hini:=hid hin;clear hin;have HQ2:=hid (HQ0.o.below hb);clear hb)
 by_cases hE:E=0
 rotate_left
 ·have hE2:(E !=0)=true:=by rw[bne_iff_ne];exact hE
  have hE3:(E==0)=false:=by rw[beq_eq_false_iff_ne];exact hE
  have HE:=hid hE;clear hE;go_wp2_with fail
  go_ret
  exact⟨_,rfl,HQ2.o.turns⟩
 subst hE;go_upto_region 7 with(first|(go_at_call 70;refine(HQ2.o.tableI i).mono ?_;rintro e w3 ⟨T,E2,hok,rfl,hb⟩;have HOk:=hid hok;have HTs:=hid (tabC_size hok.len);clear hok;unfold tabV;have HQ3:=hid (HQ2.o.below hb);clear hb)|(rw[←zTab];refine wpList_store_mid rfl 141 _ _ rfl w3.heap.size 0 (tabC T) rfl rfl (there_at (heap_alloc_new _ _) (by rw[noTab_size,HTs.o])) (by rw[HTs.o];exact sizeTab) (tabC_one _) ?_;obtain⟨hbw,hbg⟩:=new_whole2 w3 (tabC Gd.noTab) 141 (tabC T).toList (by rw[noTab_size,Array.length_toList,HTs.o]);generalize (World.setCells _ _ _ _)=w4 at hbw hbg⊢;have HQ4:=hid (HQ3.o.new hbw (Nat.le_refl _) (o:= .cells (tabC T) 141 (0,0)) hbg);clear hbw hbg))
 obtain⟨tb,htb⟩:=nm w3.heap.size;rw[←htb]at HQ4⊢;clear htb;by_cases hE:E2=0
 rotate_left
 ·have hE2:(E2 !=0)=true:=by rw[bne_iff_ne];exact hE
  have hE3:(E2==0)=false:=by rw[beq_eq_false_iff_ne];exact hE
  have HE:=hid hE;clear hE;go_wp2_with fail
  go_ret
  exact⟨_,rfl,HQ4.o.turns⟩
 subst hE;have HTr:=hid (HQ4.o.get (k:=tb) (o:= .cells (tabC T) 141 (0,0)) (by simp));have HNm:=hid (names_any T HOk.o);unfold NamesPost at HNm;unfold tabV at HNm;obtain⟨nl,hnl⟩:=nm ((Gd.namesT T).length);rw[←hnl]at HNm;clear hnl;go_upto_region 9 with fail
 by_cases hn:nl=0
 ·subst hn;go_wp2_with(first|(refine wpList_load_row rfl 141 _ rfl tb rfl 141 (tabC T) (0,0) _ HTr.o underlying141 rfl (by rw[HTs.o];exact sizeTab) ?_)|(go_at_call 71;refine(HNm.o w4).mono ?_;rintro e w5 ⟨A,c,rfl,-,hb5⟩;have HQ5:=hid (HQ4.o.below hb5);clear hb5)|(go_at_call 72;refine(HQ5.o.removeE HC.o s Hs.o i).mono ?_;rintro e w6 ⟨er,rfl,ht⟩;have HQ6:=hid ht;clear ht))
  go_ret
  exact⟨_,rfl,HQ6.o.turns⟩
 ·have hn0:(0:Int)<nl:=by omega
  clear hn;go_wp2_with(first|(refine wpList_load_row rfl 141 _ rfl tb rfl 141 (tabC T) (0,0) _ HTr.o underlying141 rfl (by rw[HTs.o];exact sizeTab) ?_)|(go_at_call 71;refine(HNm.o w4).mono ?_;rintro e w5 ⟨A,c,rfl,-,hb5⟩;have HQ5:=hid (HQ4.o.below hb5);clear hb5))
  go_ret
  exact⟨_,rfl,HQ5.o.turns⟩
theorem mlist_t[MemNo]{x t K:Nat}{S:List UInt8}{F:Nat→Prop}(s:ByteArray)(hs:s.size≤100000)(w:World)(h:MT x t S K w F)(hC:Cx F w):
 Calls prog 34 #[.pointer (some ⟨x,0,none⟩),.string s] w (ListR w):=by
 have Hh:=hid h;have HQ0:=hid (Tq.start h);have HC:=hid hC;have Hs:=hid hs;have HWk:=hid (HQ0.o.walk HC.o s hs);have HTb:=hid fun d W (hW:Below w.heap.size w W)=>tableI_t d W (h.below hW);clear h hC hs;go_enter func34,ntmps34;go_upto_region 2 with(go_at_call 65;refine HWk.o.mono ?_;rintro e w2 ⟨i,E,hin,rfl,hb2⟩;have HB2:=hid hb2;have HTc:=hid (HTb.o i w2 hb2);clear hb2 hin)
 by_cases hE:E=0
 rotate_left
 ·have hE2:(E !=0)=true:=by rw[bne_iff_ne];exact hE
  have hE3:(E==0)=false:=by rw[beq_eq_false_iff_ne];exact hE
  have HE:=hid hE;clear hE;go_wp2_with fail
  go_ret2
  exact⟨[],none,0,E,by simp,by simp,rfl,Or.inl rfl,HB2.o⟩
 subst hE;go_upto_region 5 with(first|(go_at_call 70;refine HTc.o.mono ?_;rintro e w3 ⟨T,E2,hok,rfl,hb3⟩;have HOk:=hid hok;have HTs:=hid (tabC_size hok.len);clear hok;unfold tabV;have HB3:=HB2.t hb3;clear hb3)|(rw[←zTab];refine wpList_store_mid rfl 141 _ _ rfl w3.heap.size 0 (tabC T) rfl rfl (there_at (heap_alloc_new _ _) (by rw[noTab_size,HTs.o])) (by rw[HTs.o];exact sizeTab) (tabC_one _) ?_;obtain⟨hbw,hbg⟩:=new_whole2 w3 (tabC Gd.noTab) 141 (tabC T).toList (by rw[noTab_size,Array.length_toList,HTs.o]);generalize (World.setCells _ _ _ _)=w4 at hbw hbg⊢;have HN4:Hid (w4.heap[w3.heap.size]? =some (.cells (tabC T) 141 (0,0))):=hid hbg;have HB4:=HB3.t hbw;clear hbw hbg))
 obtain⟨tb,htb⟩:=nm w3.heap.size;rw[←htb]at HN4⊢;clear htb;by_cases hE:E2=0
 rotate_left
 ·have hE2:(E2 !=0)=true:=by rw[bne_iff_ne];exact hE
  have hE3:(E2==0)=false:=by rw[beq_eq_false_iff_ne];exact hE
  have HE:=hid hE;clear hE;go_wp2_with fail
  go_ret2
  exact⟨[],none,0,E2,by simp,by simp,rfl,Or.inl rfl,HB4.o⟩
 subst hE;have HNm:=hid (names_any T HOk.o);unfold NamesPost at HNm;unfold tabV at HNm;go_wp2_with(first|(refine wpList_load_row rfl 141 _ rfl tb rfl 141 (tabC T) (0,0) _ HN4.o underlying141 rfl (by rw[HTs.o];exact sizeTab) ?_)|(go_at_call 71;refine(HNm.o w4).mono ?_;rintro e w5 ⟨A,c,rfl,hS5,hb5⟩;have HS5:=hid hS5;have HB5:=HB4.t hb5;clear hS5 hb5))
 go_ret2
 exact⟨_,A,c,_,names_le T,names_len HOk.o,rfl,HS5.o.low HB4.o.size,HB5.o⟩
theorem mstat_t[MemNo]{x t K:Nat}{S:List UInt8}{F:Nat→Prop}(s:ByteArray)(hs:s.size≤100000)(w:World)(h:MT x t S K w F)(hC:Cx F w):
 Calls prog 35 #[.pointer (some ⟨x,0,none⟩),.string s] w (StatR w):=by
 obtain⟨hb0,hr0⟩:=below_new w #[.int .i64 0,.int .i64 0,.int .i64 0] 45;obtain⟨rb,hrb⟩:=nm w.heap.size;obtain⟨w0,hw0⟩:=nm (w.alloc (.cells #[.int .i64 0,.int .i64 0,.int .i64 0] 45));rw[←hw0,←hrb]at hr0;rw[←hw0]at hb0;have HR0:=hid hr0;have HB0:=hid hb0;have HW0:=hid hw0.symm;have Hrb:=hid hrb.symm;have Hrb2:Hid (w.heap.size≤rb):=hid (by omega);have HWk:=hid (((Tq.start h).below hb0).walk hC s hs);have HIn:=hid fun d W (hW:Below w.heap.size w W)=>inode_t d W (h.below hW);clear h hC hs hb0 hr0 hw0 hrb;go_enter func35,ntmps35;go_upto_region 1 with fail
 rw[HW0.o,Hrb.o];go_upto_region 2 with(go_at_call 65;refine HWk.o.mono ?_;rintro e w2 ⟨i,E,hin,rfl,hb2⟩;have HB2:=HB0.t hb2;have HR2:=hid ((hb2.block rb (lt_get HR0.o)).trans HR0.o);have HIc:=hid (HIn.o i w2 HB2.o);clear hb2 hin)
 by_cases hE:E=0
 rotate_left
 ·have hE2:(E !=0)=true:=by rw[bne_iff_ne];exact hE
  clear hE;have r0:=cell_of_row w2 rb 0 _ _ _ HR2.o;have r1:=cell_of_row w2 rb 1 _ _ _ HR2.o;have r2:=cell_of_row w2 rb 2 _ _ _ HR2.o;have f0:=frozen_of_row w2 rb 0 _ _ HR2.o;have f1:=frozen_of_row w2 rb 1 _ _ HR2.o;have f2:=frozen_of_row w2 rb 2 _ _ HR2.o;go_wp2_with fail
  have g0:=Go.heap_setCell_same w2 rb 0 _ _ (.int .i64 0) HR2.o;have g1:=Go.heap_setCell_same _ rb 1 _ _ (.int .i64 0) g0;have g2:=Go.heap_setCell_same _ rb 2 _ _ (.int .i64 0) g1;refine bodyPost_ret (results_row_tmp rfl _ _ rb 45 #[.int .i64 0,.int .i64 0,.int .i64 0] (0,0) _ rfl g2 underlying45 rfl infoSzE) rfl ?_;exact⟨0,0,0,E,rfl,((HB2.o.setCell Hrb2.o _).setCell Hrb2.o _).setCell Hrb2.o _⟩
 subst hE;go_upto_region 5 with(first|(go_at_call 24;refine HIc.o.mono ?_;rintro e w3 ⟨y,E2,hy,rfl,hb3⟩;unfold inoV;have HY:=hid hy;have HS:Hid ((inoC y).size=15):=hid (inoC_size hy.1);clear hy;have HB3:=HB2.t hb3;have HR3:=hid ((hb3.block rb (lt_get HR2.o)).trans HR2.o);clear hb3)|(rw[←zIno_lit];refine wpList_store_mid rfl 72 _ _ rfl w3.heap.size 0 (inoC y) rfl rfl (there_at (heap_alloc_new _ _) (by rw[zIno_size,HS.o])) (by rw[HS.o];exact sizeIno) (inoC_one _) ?_;obtain⟨hbw,hbg⟩:=new_whole2 w3 zIno 72 (inoC y).toList (by rw[zIno_size,Array.length_toList,HS.o]);generalize (World.setCells _ _ _ _)=w4 at hbw hbg⊢;have HN4:Hid (w4.heap[w3.heap.size]? =some (.cells (inoC y) 72 (0,0))):=hid hbg;have HB4:=HB3.t hbw;have HR4:=hid ((hbw.block rb (lt_get HR3.o)).trans HR3.o);clear hbw hbg))
 obtain⟨ib,hib⟩:=nm w3.heap.size;rw[←hib]at HN4⊢;have hI3:InoAt w4 ib y:=⟨HN4.o,HY.o.1⟩;have b0:=hI3.c0;have b1:=hI3.c1;have b2:=hI3.c2;have r0:=cell_of_row w4 rb 0 _ _ _ HR4.o;have r1:=cell_of_row w4 rb 1 _ _ _ HR4.o;have r2:=cell_of_row w4 rb 2 _ _ _ HR4.o;have f0:=frozen_of_row w4 rb 0 _ _ HR4.o;have f1:=frozen_of_row w4 rb 1 _ _ HR4.o;have f2:=frozen_of_row w4 rb 2 _ _ HR4.o;clear hI3 hib;go_wp2;have g0:=Go.heap_setCell_same w4 rb 0 _ _ (.int .i64 y.k) HR4.o;have g1:=Go.heap_setCell_same _ rb 1 _ _ (.int .i64 y.l) g0;have g2:=Go.heap_setCell_same _ rb 2 _ _ (.int .i64 y.s) g1;refine bodyPost_ret (results_row_tmp rfl _ _ rb 45 #[.int .i64 y.k,.int .i64 y.l,.int .i64 y.s] (0,0) _ rfl g2 underlying45 rfl infoSzE) rfl ?_;exact⟨_,_,_,_,rfl,((HB4.o.setCell Hrb2.o _).setCell Hrb2.o _).setCell Hrb2.o _⟩
theorem mpath_t(s:ByteArray)(w:World)(hs:s.size≤100000)(hM:Mx w):Calls prog 112 #[.string s] w (PathR w):=by
 obtain⟨m,hm⟩:=hM
 cases h1:Np.pathL s.data.toList with
 |none=>exact(path_no s m w hs hm h1).mono fun e w' ⟨he,hb⟩=>⟨_,_,he,hb⟩
 |some L=>exact(path_yes s L m w hs hm h1).mono fun e w' ⟨A,c,he,_,_,hb⟩=>⟨_,_,he,hb⟩
theorem both_t(s u:ByteArray)(w:World)(hs:s.size≤100000)(hu:u.size≤100000)(hM:Mx w):
 Calls prog 74 #[.string s,.string u] w (BoolR w):=by
 have HP:=hid (mpath_t s w hs hM);have HQ:=hid fun W (hW:Below w.heap.size w W)=>mpath_t u W hu (hM.under hW);clear hs hu hM;go_enter func74,ntmps74;go_wp2_with fail
 refine HP.o.mono ?_;rintro e w2 ⟨v,E,rfl,hb2⟩;have HQ2:=hid (HQ.o w2 hb2);have HB2:=hid hb2;clear hb2;go_wp2_with fail
 refine HQ2.o.mono ?_;rintro e w3 ⟨v2,E2,rfl,hb3⟩;have HB3:=HB2.t hb3;clear hb3;by_cases hE:E=0
 ·subst hE;by_cases hE:E2=0
  ·subst hE;go_wp2_with fail
   go_ret
   exact⟨_,rfl,HB3.o⟩
  ·have hE3:(E2==0)=false:=by rw[beq_eq_false_iff_ne];exact hE
   clear hE;go_wp2_with fail
   go_ret
   exact⟨_,rfl,HB3.o⟩
 ·have hE3:(E==0)=false:=by rw[beq_eq_false_iff_ne];exact hE
  clear hE;go_wp2_with fail
  go_ret
  exact⟨_,rfl,HB3.o⟩
end
section
open Go.Shelf
attribute [local go_sem] Oper.semAt_some
theorem link_t[MemNo]{x t K:Nat}{S:List UInt8}{F:Nat→Prop}(s u:ByteArray)(hs:s.size≤100000)(hu:u.size≤100000)(spare:Int)(w:World)(h:MT x t S K w F)(hC:Cx F w):
 Calls prog 31 #[.pointer (some ⟨x,0,none⟩),.string s,.string u,.int .i64 spare] w (ErR x t S K F w):=by
 have HQ0:=hid (Tq.start h);have HC:=hid hC;have Hs:=hid hs;have Hu:=hid hu;clear h hC hs hu;go_enter func31,ntmps31;go_upto_region 1 with fail
 go_cut[19] from 16 to 18 (fun z wx=>(∃c:Bool,z= .bool c)∧Hid (Tq x t S K F w wx []))
 case first=>
  go_wp2_with(go_at_call 74;refine(both_t s u _ Hs.o Hu.o (HQ0.o.mx HC.o)).mono ?_;rintro e w1 ⟨b,rfl,hb⟩;have HQ1:=hid (HQ0.o.below hb);clear hb)
  go_meet
  exact⟨⟨_,rfl⟩,HQ1⟩
 case rest=>
 obtain⟨⟨c,hz⟩,hq⟩:=hcut;subst hz;have HQ1:=hid hq.o;clear hq
 cases c with
 |true=>
  go_wp2_with fail
  go_ret
  exact⟨_,rfl,HQ1.o.turns⟩
 |false=>
 go_upto_region 4 with(go_at_call 65;refine(HQ1.o.walk HC.o s Hs.o).mono ?_;rintro e w2 ⟨i,E,hin,rfl,hb⟩;have Hini:=hid hin;clear hin;have HQ2:=hid (HQ1.o.below hb);clear hb)
 by_cases hE:E=0
 rotate_left
 ·have hE2:(E !=0)=true:=by rw[bne_iff_ne];exact hE
  have hE3:(E==0)=false:=by rw[beq_eq_false_iff_ne];exact hE
  have HE:=hid hE;clear hE;go_wp2_with fail
  go_ret
  exact⟨_,rfl,HQ2.o.turns⟩
 subst hE;have Hi:=hid (Hini.o rfl);obtain⟨i,rfl⟩:∃n:Nat,i=n:=⟨i.toNat,by have:=Hi.o;omega⟩;go_upto_region 7 with(first|(go_at_call 24;refine(HQ2.o.inode (i:Int)).mono ?_;rintro e w3 ⟨y,E2,hy,rfl,hb⟩;have HY:=hid hy;have HS:Hid ((inoC y).size=15):=hid (inoC_size hy.1);clear hy;unfold inoV;have HQ3:=hid (HQ2.o.below hb);clear hb)|(rw[←zIno_lit];refine wpList_store_mid rfl 72 _ _ rfl w3.heap.size 0 (inoC y) rfl rfl (there_at (heap_alloc_new _ _) (by rw[zIno_size,HS.o])) (by rw[HS.o];exact sizeIno) (inoC_one _) ?_;obtain⟨hbw,hbg⟩:=new_whole2 w3 zIno 72 (inoC y).toList (by rw[zIno_size,Array.length_toList,HS.o]);generalize (World.setCells _ _ _ _)=w4 at hbw hbg⊢;have HQ4:=hid (HQ3.o.new hbw (Nat.le_refl _) (o:= .cells (inoC y) 72 (0,0)) hbg);clear hbw hbg))
 obtain⟨ib,hib⟩:=nm w3.heap.size;rw[←hib]at HQ4⊢;clear hib;by_cases hE:E2=0
 rotate_left
 ·have hE2:(E2 !=0)=true:=by rw[bne_iff_ne];exact hE
  have hE3:(E2==0)=false:=by rw[beq_eq_false_iff_ne];exact hE
  have HE:=hid hE;clear hE;go_wp2_with fail
  go_ret
  exact⟨_,rfl,HQ4.o.turns⟩
 subst hE;have b0:=(show InoAt w4 ib y from⟨HQ4.o.get (k:=ib) (by simp),HY.o.1⟩).c0;obtain⟨q,hq⟩:=nm y.k;rw[←hq]at b0;clear hq;by_cases hk:q=2
 ·subst hk;go_wp2_with fail
  go_ret
  exact⟨_,rfl,HQ4.o.turns⟩
 have hkb:(q==2)=false:=by rw[beq_eq_false_iff_ne];exact hk
 clear hk;go_upto_region 11 with fail
 go_cut[43] from 44 to 45 (fun z wx=>(∃c:Bool,z= .bool c)∧wx=w4)
 case first=>
  by_cases h47:u.data.toList=[47]
  ·have h48:=mpath_isE h47;clear h47;go_wp2_with fail
   go_meet
   exact⟨⟨_,rfl⟩,rfl⟩
  ·have h48:=mpath_neE h47;clear h47;go_wp2_with fail
   go_meet
   exact⟨⟨_,rfl⟩,rfl⟩
 case rest=>
 obtain⟨⟨c,hz⟩,hw⟩:=hcut;subst hz;obtain rfl:w4=wc:=hw.symm
 cases c with
 |true=>
  go_wp2_with fail
  go_ret
  exact⟨_,rfl,HQ4.o.turns⟩
 |false=>
 go_upto_region 14 with(go_at_call 66;refine(HQ4.o.place HC.o u Hu.o).mono ?_;rintro e w5 ⟨d,n,E3,hin,rfl,hb⟩;have Hind:=hid hin;clear hin;have HQ5:=hid (HQ4.o.below hb);clear hb)
 by_cases hE:E3=0
 rotate_left
 ·have hE2:(E3 !=0)=true:=by rw[bne_iff_ne];exact hE
  have hE3:(E3==0)=false:=by rw[beq_eq_false_iff_ne];exact hE
  have HE:=hid hE;clear hE;go_wp2_with fail
  go_ret
  exact⟨_,rfl,HQ5.o.turns⟩
 subst hE;have HN:=hid (Hind.o rfl).2;go_upto_region 17 with(go_at_call 69;refine(HQ5.o.find d n HN.o).mono ?_;rintro e w6 ⟨v,E4,hin,rfl,hb⟩;have Hinv:=hid hin;clear hin;have HQ6:=hid (HQ5.o.below hb);clear hb)
 by_cases hE:E4=0
 rotate_left
 ·have hE2:(E4 !=0)=true:=by rw[bne_iff_ne];exact hE
  have hE3:(E4==0)=false:=by rw[beq_eq_false_iff_ne];exact hE
  have HE:=hid hE;clear hE;go_wp2_with fail
  go_ret
  exact⟨_,rfl,HQ6.o.turns⟩
 subst hE;by_cases hv:v=0
 rotate_left
 ·have hv2:(v !=0)=true:=by rw[bne_iff_ne];exact hv
  clear hv;go_wp2_with fail
  go_ret
  exact⟨_,rfl,HQ6.o.turns⟩
 subst hv;have hI6:InoAt w6 ib y:=⟨HQ6.o.get (k:=ib) (by simp),HY.o.1⟩;have b1:=hI6.c1;have f1:=hI6.f 1;clear hI6 b0;have hl:=small_links HY.o.2.1;obtain⟨l,hlq⟩:=nm y.l;rw[←hlq]at b1 hl;by_cases hl20:20≤l
 ·go_wp2_with fail
  go_ret
  exact⟨_,rfl,HQ6.o.turns⟩
 obtain⟨l1,hl1⟩:=nm (l+1);have hwr:IntKind.i64.wrap (l+1)=l1:=by rw[hl1,IntKind.wrap_i64];omega
 obtain⟨y2,hy2⟩:=nm (y.setL l1);have HY2:Hid (y2.Shape∧AllI (inoL y2)):=hid (by rw[hy2];exact⟨⟨HY.o.1.1,HY.o.1.2⟩,allI_setL (ino_all HY.o.2.1) (by omega)⟩);have HS2:=hid (inoC_size HY2.o.1);obtain⟨w7,hw7⟩:=nm (w6.setCell ⟨ib,1,none⟩ (.int .i64 l1));have HQ7:Hid (Tq x t S K F w w7 [(ib,.cells (inoC y2) 72 (0,0))]):=hid (by
  rw[hw7,hy2];refine HQ6.o.set (k:=ib) (C:=inoC y) (ty:=72) (by simp) _ fun p hp=> ?_;rw[show(inoC y).setIfInBounds 1 (.int .i64 l1)=inoC (y.setL l1) from inoC_set (inoL_setL y _)];exact Or.inl (List.mem_singleton.1 hp))
 have HW7:=hid hw7.symm;have HI7:=hid (HQ7.o.get (k:=ib) (o:= .cells (inoC y2) 72 (0,0)) (by simp));have HSi:=hid (HQ7.o.setino i y2 HY2.o.1 HY2.o.2);unfold inoV at HSi;clear hw7 hl hlq hl1 hy2;go_upto_region 24 with fail
 rw[HW7.o];clear hwr b1 f1 hl20;go_upto_region 25 with(first|(refine wpList_load_row rfl 72 _ rfl ib rfl 72 (inoC y2) (0,0) _ HI7.o underlying72 rfl (by rw[HS2.o];exact sizeIno) ?_)|(go_at_call 44;refine HSi.o.mono ?_;rintro e w8 ⟨er,rfl,ht⟩;have HQ8:=hid ht;clear ht))
 by_cases hE:er=0
 rotate_left
 ·have hE2:(er !=0)=true:=by rw[bne_iff_ne];exact hE
  have hE3:(er==0)=false:=by rw[beq_eq_false_iff_ne];exact hE
  have HE:=hid hE;clear hE;go_wp2_with fail
  go_ret
  exact⟨_,rfl,HQ8.o.turns⟩
 subst hE;have HPt:=hid (HQ8.o.put d n HN.o i spare (by have:=Hi.o;omega));go_wp2_with(go_at_call 75;refine HPt.o.mono ?_;rintro e w9 ⟨ep,rfl,ht⟩;have HQ9:=hid ht;clear ht)
 go_ret
 exact⟨_,rfl,HQ9.o.turns⟩
def OverR(x:Nat)(w:World)(e:Ending)(w':World):Prop:=∃(f:Value) (E:Int),(E=0→f= .func (.func 76) #[.pointer (some ⟨x,0,none⟩)] #[]∨f= .func (.func 73) #[.pointer (some ⟨x,0,none⟩)] #[])∧e= .returned (.tuple #[f,.int .i64 E])∧Below w.heap.size w w'
theorem over_t[MemNo]{x t K:Nat}{S:List UInt8}{F:Nat→Prop}(z:Gd.Ino)(hz:z.Shape)(v:Int)(w:World)(h:MT x t S K w F):
 Calls prog 78 #[.pointer (some ⟨x,0,none⟩),inoV z,.int .i64 v] w (OverR x w):=by
 obtain⟨hb1,hr1⟩:=below_new w (inoC z) 72;obtain⟨zb,hzb⟩:=nm w.heap.size;obtain⟨w1,hw1⟩:=nm (w.alloc (.cells (inoC z) 72));rw[←hw1,←hzb]at hr1;rw[←hw1]at hb1;have HZ1:=hid hr1;have HB1:=hid hb1;have HW1:=hid hw1.symm;have Hzb:=hid hzb.symm;have HZs:=hid hz;have HNd:=hid (node_t v w1 (h.below hb1));have HTb:=hid fun W (hW:Below w.heap.size w W) (y:Gd.Ino) (hs:y.Shape) (hm:Gd.mayI y=true)=>table_t y hs (small_blocks hm) W (h.below hW);unfold inoV at HTb;clear h hz hb1 hr1 hw1 hzb;unfold inoV;go_enter func78,ntmps78;go_upto_region 1 with fail
 rw[HW1.o,Hzb.o];go_upto_region 2 with(first|(go_at_call 117;refine HNd.o.mono ?_;rintro e w2 ⟨y,E,hy,rfl,hb2⟩;unfold inoV;have HY:=hid hy;have HS:Hid ((inoC y).size=15):=hid (inoC_size hy.1);clear hy;have HB2:=HB1.t hb2;have HZ2:=HZ1.r hb2;clear hb2)|(rw[←zIno_lit];refine wpList_store_mid rfl 72 _ _ rfl w2.heap.size 0 (inoC y) rfl rfl (there_at (heap_alloc_new _ _) (by rw[zIno_size,HS.o])) (by rw[HS.o];exact sizeIno) (inoC_one _) ?_;obtain⟨hbw,hbg⟩:=new_whole2 w2 zIno 72 (inoC y).toList (by rw[zIno_size,Array.length_toList,HS.o]);generalize (World.setCells _ _ _ _)=w3 at hbw hbg⊢;have HN3:Hid (w3.heap[w2.heap.size]? =some (.cells (inoC y) 72 (0,0))):=hid hbg;have HB3:=HB2.t hbw;have HZ3:=HZ2.r hbw;clear hbw hbg))
 obtain⟨ib,hib⟩:=nm w2.heap.size;rw[←hib]at HN3⊢;clear hib;by_cases hE:E=0
 rotate_left
 ·have hE2:(E !=0)=true:=by rw[bne_iff_ne];exact hE
  have hE3:(E==0)=false:=by rw[beq_eq_false_iff_ne];exact hE
  have HE:=hid hE;clear hE;go_wp2_with fail
  go_ret2
  exact⟨_,_,fun e=>absurd e HE.o,rfl,HB3.o⟩
 subst hE;have n0:=(show InoAt w3 ib y from⟨HN3.o,HY.o.1⟩).c0;obtain⟨q,hq⟩:=nm y.k;rw[←hq]at n0;have z0:=(show InoAt w3 zb z from⟨HZ3.o,HZs.o⟩).c0;obtain⟨r,hr⟩:=nm z.k;rw[←hr]at z0;clear hq hr;by_cases hq2:q=2
 rotate_left
 ·have q1:(q==2)=false:=by rw[beq_eq_false_iff_ne];exact hq2
  have q2:(q !=2)=true:=by rw[bne_iff_ne];exact hq2
  clear hq2;by_cases hr2:r=2
  ·subst hr2;go_wp2_with fail
   go_ret2
   exact⟨_,_,fun e=>absurd e (by decide),rfl,HB3.o⟩
  ·have r1:(r==2)=false:=by rw[beq_eq_false_iff_ne];exact hr2
   have r2:(r !=2)=true:=by rw[bne_iff_ne];exact hr2
   clear hr2;go_wp2_with fail
   go_ret2
   exact⟨_,_,fun _=>Or.inl rfl,rfl,HB3.o⟩
 subst hq2;by_cases hr2:r=2
 rotate_left
 ·have r1:(r==2)=false:=by rw[beq_eq_false_iff_ne];exact hr2
  have r2:(r !=2)=true:=by rw[bne_iff_ne];exact hr2
  clear hr2;go_wp2_with fail
  go_ret2
  exact⟨_,_,fun e=>absurd e (by decide),rfl,HB3.o⟩
 subst hr2;have HTc:=hid (HTb.o w3 HB3.o y HY.o.1 HY.o.2.1);clear HTb HNd;go_upto_region 10 with fail
 clear z0 n0
 go_upto_region 11 with(first|(refine wpList_load_row rfl 72 _ rfl ib rfl 72 (inoC y) (0,0) _ HN3.o underlying72 rfl (by rw[HS.o];exact sizeIno) ?_)|(go_at_call 118;refine HTc.o.mono ?_;rintro e w4 ⟨T,E2,hok,rfl,hb4⟩;have HOk:=hid hok;have HTs:=hid (tabC_size hok.len);clear hok;unfold tabV;have HB4:=HB3.t hb4;clear hb4)|(rw[←zTab];refine wpList_store_mid rfl 141 _ _ rfl w4.heap.size 0 (tabC T) rfl rfl (there_at (heap_alloc_new _ _) (by rw[noTab_size,HTs.o])) (by rw[HTs.o];exact sizeTab) (tabC_one _) ?_;obtain⟨hbw,hbg⟩:=new_whole2 w4 (tabC Gd.noTab) 141 (tabC T).toList (by rw[noTab_size,Array.length_toList,HTs.o]);generalize (World.setCells _ _ _ _)=w5 at hbw hbg⊢;have HN5:Hid (w5.heap[w4.heap.size]? =some (.cells (tabC T) 141 (0,0))):=hid hbg;have HB5:=HB4.t hbw;clear hbw hbg))
 obtain⟨tb,htb⟩:=nm w4.heap.size;rw[←htb]at HN5⊢;clear htb;by_cases hE:E2=0
 rotate_left
 ·have hE2:(E2 !=0)=true:=by rw[bne_iff_ne];exact hE
  have hE3:(E2==0)=false:=by rw[beq_eq_false_iff_ne];exact hE
  have HE:=hid hE;clear hE;go_wp2_with fail
  go_ret2
  exact⟨_,_,fun e=>absurd e HE.o,rfl,HB5.o⟩
 subst hE;have HNm:=hid (names_any T HOk.o);unfold NamesPost at HNm;unfold tabV at HNm;obtain⟨nl,hnl⟩:=nm ((Gd.namesT T).length);rw[←hnl]at HNm;clear hnl;go_upto_region 13 with fail
 by_cases hn:nl=0
 ·subst hn;go_wp2_with(first|(refine wpList_load_row rfl 141 _ rfl tb rfl 141 (tabC T) (0,0) _ HN5.o underlying141 rfl (by rw[HTs.o];exact sizeTab) ?_)|(go_at_call 71;refine(HNm.o w5).mono ?_;rintro e w6 ⟨A,c,rfl,-,hb6⟩;have HB6:=HB5.t hb6;clear hb6))
  go_ret2
  exact⟨_,_,fun _=>Or.inr rfl,rfl,HB6.o⟩
 ·have hn0:(0:Int)<nl:=by omega
  clear hn;go_wp2_with(first|(refine wpList_load_row rfl 141 _ rfl tb rfl 141 (tabC T) (0,0) _ HN5.o underlying141 rfl (by rw[HTs.o];exact sizeTab) ?_)|(go_at_call 71;refine(HNm.o w5).mono ?_;rintro e w6 ⟨A,c,rfl,-,hb6⟩;have HB6:=HB5.t hb6;clear hb6))
  go_ret2
  exact⟨_,_,fun e=>absurd e (by decide),rfl,HB6.o⟩
theorem Tq.over[MemNo]{x t K:Nat}{S:List UInt8}{F:Nat→Prop}{w a:World}{Ls:List (Nat×Obj)}(h:Tq x t S K F w a Ls)(z:Gd.Ino)(hz:z.Shape)(v:Int):Calls prog 78 #[.pointer (some ⟨x,0,none⟩),inoV z,.int .i64 v] a (OverR x a):=by
 obtain⟨F1,h1,-,-⟩:=h.open;exact over_t z hz v a h1
theorem rename_t[MemNo]{x t K:Nat}{S:List UInt8}{F:Nat→Prop}(s u:ByteArray)(hs:s.size≤100000)(hu:u.size≤100000)(spare:Int)(w:World)(h:MT x t S K w F)(hC:Cx F w):
 Calls prog 33 #[.pointer (some ⟨x,0,none⟩),.string s,.string u,.int .i64 spare] w (ErR x t S K F w):=by
 have HQ0:=hid (Tq.start h);have HC:=hid hC;have Hs:=hid hs;have Hu:=hid hu;clear h hC hs hu;go_enter func33,ntmps33;go_upto_region 1 with fail
 go_cut[32] from 21 to 31 (fun z wx=>(∃c:Bool,z= .bool c)∧Hid (Tq x t S K F w wx []))
 case first=>
  by_cases h47:s.data.toList=[47]
  ·have h48:=mpath_isE h47;clear h47;by_cases h47:u.data.toList=[47]
   ·have h49:=mpath_isE h47;clear h47;go_wp2_with(go_at_call 74;refine(both_t s u _ Hs.o Hu.o (HQ0.o.mx HC.o)).mono ?_;rintro e w1 ⟨b,rfl,hb⟩;have HQ1:=hid (HQ0.o.below hb);clear hb;cases b)
    all_goals go_meet
    all_goals exact⟨⟨_,rfl⟩,HQ1⟩
   ·have h49:=mpath_neE h47;clear h47;go_wp2_with(go_at_call 74;refine(both_t s u _ Hs.o Hu.o (HQ0.o.mx HC.o)).mono ?_;rintro e w1 ⟨b,rfl,hb⟩;have HQ1:=hid (HQ0.o.below hb);clear hb;cases b)
    all_goals go_meet
    all_goals exact⟨⟨_,rfl⟩,HQ1⟩
  ·have h48:=mpath_neE h47;clear h47;by_cases h47:u.data.toList=[47]
   ·have h49:=mpath_isE h47;clear h47;go_wp2_with(go_at_call 74;refine(both_t s u _ Hs.o Hu.o (HQ0.o.mx HC.o)).mono ?_;rintro e w1 ⟨b,rfl,hb⟩;have HQ1:=hid (HQ0.o.below hb);clear hb;cases b)
    all_goals go_meet
    all_goals exact⟨⟨_,rfl⟩,HQ1⟩
   ·have h49:=mpath_neE h47;clear h47;go_wp2_with(go_at_call 74;refine(both_t s u _ Hs.o Hu.o (HQ0.o.mx HC.o)).mono ?_;rintro e w1 ⟨b,rfl,hb⟩;have HQ1:=hid (HQ0.o.below hb);clear hb;cases b)
    all_goals go_meet
    all_goals exact⟨⟨_,rfl⟩,HQ1⟩
 case rest=>
 obtain⟨⟨c,hz⟩,hq⟩:=hcut;subst hz;have HQ1:=hid hq.o;clear hq
 cases c with
 |true=>
  go_wp2_with fail
  go_ret
  exact⟨_,rfl,HQ1.o.turns⟩
 |false=>
 go_upto_region 4 with(go_at_call 65;refine(HQ1.o.walk HC.o s Hs.o).mono ?_;rintro e w2 ⟨i,E,hin,rfl,hb⟩;have Hini:=hid hin;clear hin;have HQ2:=hid (HQ1.o.below hb);clear hb)
 by_cases hE:E=0
 rotate_left
 ·have hE2:(E !=0)=true:=by rw[bne_iff_ne];exact hE
  have hE3:(E==0)=false:=by rw[beq_eq_false_iff_ne];exact hE
  have HE:=hid hE;clear hE;go_wp2_with fail
  go_ret
  exact⟨_,rfl,HQ2.o.turns⟩
 subst hE;have Hi:=hid (Hini.o rfl);obtain⟨i,rfl⟩:∃n:Nat,i=n:=⟨i.toNat,by have:=Hi.o;omega⟩;go_upto_region 7 with(first|(go_at_call 24;refine(HQ2.o.inode (i:Int)).mono ?_;rintro e w3 ⟨y,E2,hy,rfl,hb⟩;have HY:=hid hy;have HS:Hid ((inoC y).size=15):=hid (inoC_size hy.1);clear hy;unfold inoV;have HQ3:=hid (HQ2.o.below hb);clear hb)|(rw[←zIno_lit];refine wpList_store_mid rfl 72 _ _ rfl w3.heap.size 0 (inoC y) rfl rfl (there_at (heap_alloc_new _ _) (by rw[zIno_size,HS.o])) (by rw[HS.o];exact sizeIno) (inoC_one _) ?_;obtain⟨hbw,hbg⟩:=new_whole2 w3 zIno 72 (inoC y).toList (by rw[zIno_size,Array.length_toList,HS.o]);generalize (World.setCells _ _ _ _)=w4 at hbw hbg⊢;have HQ4:=hid (HQ3.o.new hbw (Nat.le_refl _) (o:= .cells (inoC y) 72 (0,0)) hbg);clear hbw hbg))
 obtain⟨ib,hib⟩:=nm w3.heap.size;rw[←hib]at HQ4⊢;clear hib;by_cases hE:E2=0
 rotate_left
 ·have hE2:(E2 !=0)=true:=by rw[bne_iff_ne];exact hE
  have hE3:(E2==0)=false:=by rw[beq_eq_false_iff_ne];exact hE
  have HE:=hid hE;clear hE;go_wp2_with fail
  go_ret
  exact⟨_,rfl,HQ4.o.turns⟩
 subst hE;have b0:=(show InoAt w4 ib y from⟨HQ4.o.get (k:=ib) (by simp),HY.o.1⟩).c0;obtain⟨q,hq⟩:=nm y.k;rw[←hq]at b0;clear hq;go_upto_region 9 with fail
 go_cut[52] from 53 to 65 (fun z wx=>(∃c:Bool,z= .bool c)∧Hid (Tq x t S K F w wx [(ib,.cells (inoC y) 72 (0,0))]))
 case first=>
  have HIs:=hid (inside_any u s w4 Hu.o Hs.o (HQ4.o.mx HC.o));obtain⟨b,hb⟩:=nm (insideB (Np.pathL u.data.toList) (Np.pathL s.data.toList));rw[←hb]at HIs;clear hb;by_cases hk:q=2
  rotate_left
  ·have hkb:(q==2)=false:=by rw[beq_eq_false_iff_ne];exact hk
   clear hk;go_wp2_with fail
   go_meet
   exact⟨⟨_,rfl⟩,HQ4⟩
  subst hk;by_cases hsu:s.toList=u.toList
  ·have hsu2:(s.toList==u.toList)=true:=by rw[beq_iff_eq];exact hsu
   clear hsu;go_wp2_with fail
   go_meet
   exact⟨⟨_,rfl⟩,HQ4⟩
  ·have hsu2:(s.toList==u.toList)=false:=by rw[beq_eq_false_iff_ne];exact hsu
   clear hsu;go_wp2_with(go_at_call 77;refine HIs.o.mono ?_;rintro e w5 ⟨rfl,hb5⟩;have HQ5:=hid (HQ4.o.below hb5);clear hb5)
   go_meet
   exact⟨⟨_,rfl⟩,HQ5⟩
 case rest=>
 obtain⟨⟨c,hz⟩,hq⟩:=hcut;subst hz;have HQ5:=hid hq.o;clear hq b0
 cases c with
 |true=>
  go_wp2_with fail
  go_ret
  exact⟨_,rfl,HQ5.o.turns⟩
 |false=>
 go_upto_region 12 with(go_at_call 66;refine(HQ5.o.place HC.o u Hu.o).mono ?_;rintro e w6 ⟨d,n,E3,hin,rfl,hb⟩;have Hind:=hid hin;clear hin;have HQ6:=hid (HQ5.o.below hb);clear hb)
 by_cases hE:E3=0
 rotate_left
 ·have hE2:(E3 !=0)=true:=by rw[bne_iff_ne];exact hE
  have hE3:(E3==0)=false:=by rw[beq_eq_false_iff_ne];exact hE
  have HE:=hid hE;clear hE;go_wp2_with fail
  go_ret
  exact⟨_,rfl,HQ6.o.turns⟩
 subst hE;have HN:=hid (Hind.o rfl).2;go_upto_region 14 with fail
 go_upto_block 1 with(go_at_call 69;refine(HQ6.o.find d n HN.o).mono ?_;rintro e w7 ⟨v,E4,hin,rfl,hb⟩;have Hinv:=hid hin;clear hin;have HQ7:=hid (HQ6.o.below hb);clear hb)
 go_cut[10] from 83 to 111 (fun _ wx=>Hid (Tq x t S K F w wx []))
 case first=>
  by_cases hE:E4=0
  rotate_left
  ·have hE2:(E4 !=0)=true:=by rw[bne_iff_ne];exact hE
   have hE3:(E4==0)=false:=by rw[beq_eq_false_iff_ne];exact hE
   have HE:=hid hE;clear hE;go_wp2_with fail
   go_ret
   exact⟨_,rfl,HQ7.o.turns⟩
  subst hE;by_cases hvi:v=i
  ·subst hvi;go_wp2_with fail
   go_ret
   exact⟨_,rfl,HQ7.o.turns⟩
  have hvi2:(v==(i:Int))=false:=by rw[beq_eq_false_iff_ne];exact hvi
  clear hvi;by_cases hv0:v=0
  ·subst hv0;go_wp2_with fail
   go_meet
   exact hid (HQ7.o.less (by simp))
  have hv1:(v !=0)=true:=by rw[bne_iff_ne];exact hv0
  have hv2:(v==0)=false:=by rw[beq_eq_false_iff_ne];exact hv0
  clear hv0;have HI7:=hid (HQ7.o.get (k:=ib) (o:= .cells (inoC y) 72 (0,0)) (by simp));have HOv:=hid (HQ7.o.over y HY.o.1 v);unfold inoV at HOv;go_upto_region 21 with(first|(refine wpList_load_row rfl 72 _ rfl ib rfl 72 (inoC y) (0,0) _ HI7.o underlying72 rfl (by rw[HS.o];exact sizeIno) ?_)|(go_at_call 78;refine HOv.o.mono ?_;rintro e w8 ⟨f,E5,hf,rfl,hb⟩;have Hf:=hid hf;have HQ8:=hid (HQ7.o.below hb);clear hb hf))
  by_cases hE:E5=0
  rotate_left
  ·have hE2:(E5 !=0)=true:=by rw[bne_iff_ne];exact hE
   have hE3:(E5==0)=false:=by rw[beq_eq_false_iff_ne];exact hE
   have HE:=hid hE;clear hE;go_wp2_with fail
   go_ret
   exact⟨_,rfl,HQ8.o.turns⟩
  subst hE;rcases Hf.o rfl with hf|hf
  ·subst hf;go_upto_region 24 with(go_at_call 72;refine(HQ8.o.removeL HC.o u Hu.o v).mono ?_;rintro e w9 ⟨er,rfl,ht⟩;have HQ9:=hid ht;clear ht)
   by_cases hE:er=0
   rotate_left
   ·have hE2:(er !=0)=true:=by rw[bne_iff_ne];exact hE
    have hE3:(er==0)=false:=by rw[beq_eq_false_iff_ne];exact hE
    have HE:=hid hE;clear hE;go_wp2_with fail
    go_ret
    exact⟨_,rfl,HQ9.o.turns⟩
   subst hE;go_wp2_with fail
   go_meet
   exact hid (HQ9.o.less (by simp))
  ·subst hf;go_upto_region 24 with(go_at_call 72;refine(HQ8.o.removeE HC.o u Hu.o v).mono ?_;rintro e w9 ⟨er,rfl,ht⟩;have HQ9:=hid ht;clear ht)
   by_cases hE:er=0
   rotate_left
   ·have hE2:(er !=0)=true:=by rw[bne_iff_ne];exact hE
    have hE3:(er==0)=false:=by rw[beq_eq_false_iff_ne];exact hE
    have HE:=hid hE;clear hE;go_wp2_with fail
    go_ret
    exact⟨_,rfl,HQ9.o.turns⟩
   subst hE;go_wp2_with fail
   go_meet
   exact hid (HQ9.o.less (by simp))
 case rest=>
 have HQ9:=hid hcut.o;clear hcut;go_upto_region 27 with(go_at_call 66;refine(HQ9.o.place HC.o s Hs.o).mono ?_;rintro e wa ⟨d2,n2,E6,hin,rfl,hb⟩;have Hind2:=hid hin;clear hin;have HQa:=hid (HQ9.o.below hb);clear hb)
 by_cases hE:E6=0
 rotate_left
 ·have hE2:(E6 !=0)=true:=by rw[bne_iff_ne];exact hE
  have hE3:(E6==0)=false:=by rw[beq_eq_false_iff_ne];exact hE
  have HE:=hid hE;clear hE;go_wp2_with fail
  go_ret
  exact⟨_,rfl,HQa.o.turns⟩
 subst hE;have HN2:=hid (Hind2.o rfl).2;have HTk:=hid (HQa.o.take d2 n2 HN2.o);go_upto_region 30 with(go_at_call 79;refine HTk.o.mono ?_;rintro e wb ⟨er,rfl,ht⟩;have HQb:=hid ht;clear ht)
 by_cases hE:er=0
 rotate_left
 ·have hE2:(er !=0)=true:=by rw[bne_iff_ne];exact hE
  have hE3:(er==0)=false:=by rw[beq_eq_false_iff_ne];exact hE
  have HE:=hid hE;clear hE;go_wp2_with fail
  go_ret
  exact⟨_,rfl,HQb.o.turns⟩
 subst hE;have HPt:=hid (HQb.o.put d n HN.o i spare (by have:=Hi.o;omega));go_wp2_with(go_at_call 75;refine HPt.o.mono ?_;rintro e wd ⟨ep,rfl,ht⟩;have HQd:=hid ht;clear ht)
 go_ret
 exact⟨_,rfl,HQd.o.turns⟩
theorem mopen_t[MemNo]{x t K:Nat}{S:List UInt8}{F:Nat→Prop}(k:Nat)(hk:k<8)(s:ByteArray)(hs:s.size≤100000)(fl:Int)(full:Bool)(spare:Int)(w:World)(h:MT x t S K w F)(hC:Cx F w):
 Calls prog 27 #[.pointer (some ⟨x,0,none⟩),.int .i64 ((k:Int)+1),.string s,.int .i64 fl,.bool full,.int .i64 spare] w (BlkR x t S K F w):=by
 have HQ0:=hid (Tq.start h);have HC:=hid hC;have Hs:=hid hs;have HIs:=hid fun W=>mis_any ((k:Int)+1) W;rw[show(decide ((1:Int)≤(k:Int)+1)&&decide (((k:Int)+1)≤8))=true by simp;omega]at HIs;have HTo:=hid fun(a er:Int) W=>metold_any a er W;have hk8:(k:Int)<8:=by omega
 have hk0:(0:Int)≤k:=by omega
 have Hk:=hid hk;clear h hC hs hk;have IS:True:=trivial;go_enter func27,ntmps27;go_upto_region 3 with(go_at_call 23;refine(HIs.o _).mono ?_;rintro e wq ⟨rfl,hq⟩;obtain rfl:w=wq:=hq.symm)
 go_cut[26] from 27 to 36 (fun z wx=>(∃c:Bool,z= .bool c∧(c=false→fl=0∨fl=1∨fl=3))∧wx=w)
 case first=>
  by_cases h0:fl<0
  ·go_wp2_with fail
   go_meet
   exact⟨⟨true,rfl,(fun e=>by cases e)⟩,rfl⟩
  by_cases h3:3<fl
  ·go_wp2_with fail
   go_meet
   exact⟨⟨true,rfl,(fun e=>by cases e)⟩,rfl⟩
  by_cases h2:fl=2
  ·subst h2;clear h0 h3;go_wp2_with fail
   go_meet
   exact⟨⟨true,rfl,(fun e=>by cases e)⟩,rfl⟩
  have h22:(fl==2)=false:=by rw[beq_eq_false_iff_ne];exact h2
  have Hfl:Hid (fl=0∨fl=1∨fl=3):=hid (by omega);go_wp2_with fail
  go_meet
  exact⟨⟨false,rfl,fun _=>Hfl.o⟩,rfl⟩
 case rest=>
 obtain⟨⟨c,hz,hf⟩,hw⟩:=hcut;subst hz;obtain rfl:w=wc:=hw.symm
 have Hf:=hid hf;clear hf
 cases c with
 |true=>
  go_wp2_with fail
  go_ret2
  exact⟨0,_,by omega,rfl,HQ0.o.turns⟩
 |false=>
 have Hfl:=hid (Hf.o rfl);clear Hf;go_upto_region 6 with(go_at_call 65;refine(HQ0.o.walk HC.o s Hs.o).mono ?_;rintro e w2 ⟨i,E,hin,rfl,hb⟩;have Hini:=hid hin;clear hin;have HQ2:=hid (HQ0.o.below hb);clear hb)
 go_upto_region 7 with(go_at_call 66;refine(HQ2.o.place HC.o s Hs.o).mono ?_;rintro e w3 ⟨d,n,E2,hin,rfl,hb⟩;have Hind:=hid hin;clear hin;have HQ3:=hid (HQ2.o.below hb);clear hb)
 go_cut[19] from 50 to 60 (fun z wx=>(∃b:Bool,z= .bool b∧(b=true→E2=0))∧wx=w3)
 case first=>
  by_cases h10:E=10
  rotate_left
  ·have h11:(E==10)=false:=by rw[beq_eq_false_iff_ne];exact h10
   clear h10;go_wp2_with fail
   go_meet
   exact⟨⟨false,rfl,(fun e=>by cases e)⟩,rfl⟩
  subst h10;by_cases h2:E2=0
  rotate_left
  ·have h11:(E2==0)=false:=by rw[beq_eq_false_iff_ne];exact h2
   clear h2;go_wp2_with fail
   go_meet
   exact⟨⟨false,rfl,(fun e=>by cases e)⟩,rfl⟩
  subst h2;rcases Hfl.o with rfl|rfl|rfl
  all_goals go_wp2_with fail
  all_goals go_meet
  all_goals exact⟨⟨_,rfl,(fun _=>by first|rfl|trivial)⟩,rfl⟩
 case rest=>
 obtain⟨⟨b,hz,hf⟩,hw⟩:=hcut;subst hz;obtain rfl:w3=wc:=hw.symm
 have Hf:=hid hf;clear hf;go_upto_region 8 with fail
 go_cut[61] from 62 to 67 (fun z wx=>(∃c:Bool,z= .bool c)∧wx=w3)
 case first=>
  by_cases hE:E=0
  ·subst hE;go_wp2_with fail
   go_meet
   exact⟨⟨_,rfl⟩,rfl⟩
  ·have hE2:(E !=0)=true:=by rw[bne_iff_ne];exact hE
   clear hE
   cases b
   all_goals go_wp2_with fail
   all_goals go_meet
   all_goals exact⟨⟨_,rfl⟩,rfl⟩
 case rest=>
 obtain⟨⟨c,hz⟩,hw⟩:=hcut;subst hz;obtain rfl:w3=wc:=hw.symm
 cases c with
 |true=>
  go_wp2_with fail
  go_ret2
  exact⟨0,_,by omega,rfl,HQ3.o.turns⟩
 |false=>
 go_upto_region 10 with fail
 go_cut[69] from 70 to 76 (fun z wx=>(∃c:Bool,z= .bool c)∧wx=w3)
 case first=>
  by_cases hE:E=0
  ·subst hE;rcases Hfl.o with rfl|rfl|rfl
   all_goals go_wp2_with fail
   all_goals go_meet
   all_goals exact⟨⟨_,rfl⟩,rfl⟩
  ·have hE2:(E==0)=false:=by rw[beq_eq_false_iff_ne];exact hE
   clear hE;go_wp2_with fail
   go_meet
   exact⟨⟨_,rfl⟩,rfl⟩
 case rest=>
 obtain⟨⟨c,hz⟩,hw⟩:=hcut;subst hz;obtain rfl:w3=wc:=hw.symm
 cases c with
 |true=>
  go_wp2_with fail
  go_ret2
  exact⟨0,_,by omega,rfl,HQ3.o.turns⟩
 |false=>
 cases b with
 |true=>
  have HN:=hid (Hind.o (Hf.o rfl)).2
  cases full with
  |true=>
   go_wp2_with fail
   go_ret2
   exact⟨0,_,by omega,rfl,HQ3.o.turns⟩
  |false=>
   have HSn:Hid ((inoC newF).size=15):=hid rfl;go_upto_region 15 with fail
   go_upto_region 16 with(rw[←zIno_lit];refine wpList_store_mid rfl 72 _ _ rfl w3.heap.size 0 (inoC newF) rfl rfl (there_at (heap_alloc_new _ _) (by rw[zIno_size,HSn.o])) (by rw[HSn.o];exact sizeIno) (inoC_one _) ?_;obtain⟨hbw,hbg⟩:=new_whole2 w3 zIno 72 (inoC newF).toList (by rw[zIno_size,Array.length_toList,HSn.o]);generalize (World.setCells _ _ _ _)=w4 at hbw hbg⊢;have HQ4:=hid (HQ3.o.new hbw (Nat.le_refl _) (o:= .cells (inoC newF) 72 (0,0)) hbg);clear hbw hbg)
   obtain⟨ib,hib⟩:=nm w3.heap.size;rw[←hib]at HQ4⊢;clear hib;have hI4:InoAt w4 ib newF:=⟨HQ4.o.get (k:=ib) (by simp),newF_shape⟩;obtain⟨b1,f1⟩:=hI4.cO (k:=k) (n:=0) (by exact zeros8 ⟨k,Hk.o⟩);clear hI4;obtain⟨y2,hy2⟩:=nm (newF.setO k 1);have HY2:Hid (y2.Shape∧AllI (inoL y2)):=hid (by rw[hy2];exact⟨Gd.Ino.setO_shape newF_shape _ _,allI_setO (ino_all (by kernel_rfl)) k (by omega)⟩);have HS2:=hid (inoC_size HY2.o.1);obtain⟨w5,hw5⟩:=nm (w4.setCell ⟨ib,7+k,none⟩ (.int .i64 1));have HQ5:Hid (Tq x t S K F w w5 [(ib,.cells (inoC y2) 72 (0,0))]):=hid (by
    rw[hw5,hy2];refine HQ4.o.set (k:=ib) (C:=inoC newF) (ty:=72) (by simp) _ fun p hp=> ?_;rw[show(inoC newF).setIfInBounds (7+k) (.int .i64 1)=inoC (newF.setO k 1) from inoC_set (inoL_setO newF_shape Hk.o _)];exact Or.inl (List.mem_singleton.1 hp))
   have HW5:=hid hw5.symm;have HI5:=hid (HQ5.o.get (k:=ib) (o:= .cells (inoC y2) 72 (0,0)) (by simp));have HMk:=hid (HQ5.o.make d n HN.o y2 HY2.o.1 HY2.o.2 spare);unfold inoV at HMk;clear hw5 hy2;go_upto_region 17 with fail
   rw[HW5.o];clear b1 f1;go_wp2_with(first|(refine wpList_load_row rfl 72 _ rfl ib rfl 72 (inoC y2) (0,0) _ HI5.o underlying72 rfl (by rw[HS2.o];exact sizeIno) ?_)|(go_at_call 67;refine HMk.o.mono ?_;rintro e w6 ⟨f,er,hn,rfl,ht⟩;have Hn6:=hid hn;have HQ6:=hid ht;clear ht hn))
   go_ret2
   exact⟨f,er,Hn6.o,rfl,HQ6.o.turns⟩
 |false=>
 go_upto_region 19 with(first|(go_at_call 24;refine(HQ3.o.inode i).mono ?_;rintro e w4 ⟨y,E3,hy,rfl,hb⟩;have HY:=hid hy;have HS:Hid ((inoC y).size=15):=hid (inoC_size hy.1);clear hy;unfold inoV;have HQ4:=hid (HQ3.o.below hb);clear hb)|(rw[←zIno_lit];refine wpList_store_mid rfl 72 _ _ rfl w4.heap.size 0 (inoC y) rfl rfl (there_at (heap_alloc_new _ _) (by rw[zIno_size,HS.o])) (by rw[HS.o];exact sizeIno) (inoC_one _) ?_;obtain⟨hbw,hbg⟩:=new_whole2 w4 zIno 72 (inoC y).toList (by rw[zIno_size,Array.length_toList,HS.o]);generalize (World.setCells _ _ _ _)=w5 at hbw hbg⊢;have HQ5:=hid (HQ4.o.new hbw (Nat.le_refl _) (o:= .cells (inoC y) 72 (0,0)) hbg);clear hbw hbg))
 obtain⟨ib,hib⟩:=nm w4.heap.size;rw[←hib]at HQ5⊢;clear hib;by_cases hE:E3=0
 rotate_left
 ·have hE2:(E3 !=0)=true:=by rw[bne_iff_ne];exact hE
  have hE3:(E3==0)=false:=by rw[beq_eq_false_iff_ne];exact hE
  have HE:=hid hE;clear hE;go_wp2_with fail
  go_ret2
  exact⟨0,_,by omega,rfl,HQ5.o.turns⟩
 subst hE;have b0:=(show InoAt w5 ib y from⟨HQ5.o.get (k:=ib) (by simp),HY.o.1⟩).c0;obtain⟨q,hq⟩:=nm y.k;rw[←hq]at b0;clear hq;by_cases hk:q=2
 ·subst hk;go_wp2_with fail
  go_ret2
  exact⟨0,_,by omega,rfl,HQ5.o.turns⟩
 have hkb:(q==2)=false:=by rw[beq_eq_false_iff_ne];exact hk
 clear hk;go_upto_region 23 with fail
 clear b0;have Hi:=hid (HY.o.2.2 rfl);have hI5:InoAt w5 ib y:=⟨HQ5.o.get (k:=ib) (by simp),HY.o.1⟩;obtain⟨o,ho⟩:∃n,y.O[k]? =some n:=⟨_,List.getElem?_eq_getElem (by rw[HY.o.1.2];exact Hk.o)⟩;have ho8:=small_opens HY.o.2.1 o (List.mem_of_getElem? ho);obtain⟨b1,f1⟩:=hI5.cO ho;clear hI5 ho
 cases full with
 |true=>
  go_wp2_with fail
  go_ret2
  exact⟨0,_,by omega,rfl,HQ5.o.turns⟩
 |false=>
 by_cases hge:8≤o
 ·go_wp2_with fail
  go_ret2
  exact⟨0,_,by omega,rfl,HQ5.o.turns⟩
 obtain⟨o1,ho1⟩:=nm (o+1);have hwo:IntKind.i64.wrap (o+1)=o1:=by rw[ho1,IntKind.wrap_i64];omega
 obtain⟨y2,hy2⟩:=nm (y.setO k o1);have HY2:Hid (y2.Shape∧AllI (inoL y2)):=hid (by rw[hy2];exact⟨Gd.Ino.setO_shape HY.o.1 _ _,allI_setO (ino_all HY.o.2.1) k (by omega)⟩);have HS2:=hid (inoC_size HY2.o.1);obtain⟨w6,hw6⟩:=nm (w5.setCell ⟨ib,7+k,none⟩ (.int .i64 o1));have HQ6:Hid (Tq x t S K F w w6 [(ib,.cells (inoC y2) 72 (0,0))]):=hid (by
  rw[hw6,hy2];refine HQ5.o.set (k:=ib) (C:=inoC y) (ty:=72) (by simp) _ fun p hp=> ?_;rw[show(inoC y).setIfInBounds (7+k) (.int .i64 o1)=inoC (y.setO k o1) from inoC_set (inoL_setO HY.o.1 Hk.o _)];exact Or.inl (List.mem_singleton.1 hp))
 have HW6:=hid hw6.symm;have HI6:=hid (HQ6.o.get (k:=ib) (o:= .cells (inoC y2) 72 (0,0)) (by simp));have HSi:=hid (HQ6.o.setino i y2 HY2.o.1 HY2.o.2);unfold inoV at HSi;clear hw6 ho1 hy2 ho8;go_upto_region 26 with fail
 rw[HW6.o];clear hwo b1 f1 hge;go_wp2_with(first|(refine wpList_load_row rfl 72 _ rfl ib rfl 72 (inoC y2) (0,0) _ HI6.o underlying72 rfl (by rw[HS2.o];exact sizeIno) ?_)|(go_at_call 44;refine HSi.o.mono ?_;rintro e w7 ⟨er,rfl,ht⟩;have HQ7:=hid ht;clear ht)|(go_at_call 68;refine(HTo.o i er w7).mono ?_;rintro e wt ⟨rfl,hq⟩;obtain rfl:w7=wt:=hq.symm))
 all_goals go_ret2
 all_goals refine⟨_,_,?_,rfl,HQ7.o.turns⟩
 all_goals have:=Hi.o
 all_goals first|omega|(split<;>omega)
end
end Go.Proofs.YtckoobkjpndgnaaGreatDoor
