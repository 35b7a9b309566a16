/- Walks: a directory's table: Used, Set. -/
import Derived.Test.YtckoobkjpndgnaaGreatDoorW12
set_option linter.unusedVariables false
set_option linter.unusedSimpArgs false
set_option linter.unusedSectionVars false
set_option maxHeartbeats 8000000
set_option maxRecDepth 100000
namespace Go.Proofs.YtckoobkjpndgnaaGreatDoor
open Go.RowKit
open Lib(hid)
open Go.Proofs.Tryz
section
open Go.Shelf
attribute [local go_sem] Oper.semAt_some
structure EntsAt(w:World)(b o:Nat)(L:List Gd.Ent):Prop where
 lt:b<w.heap.size
 cell:∀j x,L[j]? =some x→w.cell? ⟨b,o+j*2,none⟩=some (.string ⟨x.s.toArray⟩)∧w.cell? ⟨b,o+j*2+1,none⟩=some (.int .i64 x.i)
theorem EntsAt.keep{w w':World}{b o:Nat}{L:List Gd.Ent}(h:EntsAt w b o L)(hb:Below w.heap.size w w'):EntsAt w' b o L:=
 ⟨Nat.lt_of_lt_of_le h.lt hb.size,fun j x hx=>⟨(hb.cell (p:=⟨b,o+j*2,none⟩) h.lt).trans (h.cell j x hx).1,(hb.cell (p:=⟨b,o+j*2+1,none⟩) h.lt).trans (h.cell j x hx).2⟩⟩
theorem tab_ents{w:World}{b t:Nat}{T:Gd.Tab}(h:w.heap[b]? =some (.cells (tabC T) t (0,0)))(k:Nat):EntsAt w b (k*8) ((T.drop (4*k)).take 4):=⟨lt_get h,fun j x hx=>by
 have hj:j<4:=by have:=(List.getElem?_eq_some_iff.1 hx).1;rw[List.length_take]at this;omega
 rw[List.getElem?_take,if_pos hj,List.getElem?_drop]at hx;have:=tab_cells h hx
 rw[show(4*k+j)*2=k*8+j*2 by omega]at this;exact this⟩
theorem any_step{L:List Gd.Ent}{k:Nat}{x:Gd.Ent}(h:(L.take k).any (fun e=>decide (e≠Gd.noEnt))=false)(hx:L[k]? =some x):(L.take (k+1)).any (fun e=>decide (e≠Gd.noEnt))=decide (x≠Gd.noEnt):=by
 rw[List.take_add_one,hx,List.any_append,h];simp
theorem any_found{L:List Gd.Ent}{k:Nat}{x:Gd.Ent}(hx:L[k]? =some x)(h:decide (x≠Gd.noEnt)=true):L.any (fun e=>decide (e≠Gd.noEnt))=true:=by
 rw[List.any_eq_true];exact⟨x,List.mem_of_getElem? hx,h⟩
def EIdx(L:List Gd.Ent)(w:World)(e:Ending)(w':World):Prop:=∃r:Int,e= .returned (.int .i64 r)∧decide (0≤r)=L.any (fun e=>decide (e≠Gd.noEnt))∧Below w.heap.size w w'
theorem eindex_any(b o:Nat)(L:List Gd.Ent)(c:Nat)(w:World)(hL:L.length≤1000)(hS:EntsAt w b o L):
 Calls prog 192 #[.slice (some ⟨b,o,none⟩) L.length c,.func (.func 178) #[] #[]] w (EIdx L w):=by
 have HS:=hid hS;clear hS;go_enter func192,ntmps192;go_wp2;go_loopw[5,8] (fun _ i wr=>∃k:Nat,k≤L.length∧i= .int .i64 k∧Hid ((L.take k).any (fun e=>decide (e≠Gd.noEnt))=false)∧Below w.heap.size w wr) (fun _ i _=>L.length-(intOf i).toNat)
 case atStart=>exact⟨0,by omega,rfl,hid (by simp),Below.refl _ _⟩
 case round=>
  obtain⟨k,hk,rfl,hok,hbw⟩:=hrel;by_cases hlt:k<L.length
  ·obtain⟨x,hx⟩:∃x,L[k]? =some x:=⟨_,List.getElem?_eq_getElem hlt⟩;obtain⟨c0,c1⟩:=(HS.o.keep hbw).cell k x hx;have HU:=hid fun W=>used1_any x W;have Hst:=hid (any_step hok.o hx);have Hfd:=hid (any_found hx);unfold entV at HU;obtain⟨xs,hxs⟩:∃xs:ByteArray,xs=⟨x.s.toArray⟩:=⟨_,rfl⟩;obtain⟨xi,hxi⟩:∃xi:Nat,xi=x.i:=⟨_,rfl⟩;rw[←hxs,←hxi]at HU;rw[←hxs]at c0;rw[←hxi]at c1;obtain⟨g,hg⟩:=nm (decide (x≠Gd.noEnt));rw[←hg]at HU Hst Hfd;clear hx hxs hxi hg
   cases g with
   |false=>
    clear Hfd;go_wp2_with fail
    refine(HU.o _).mono ?_
    rintro e w2 ⟨rfl,hb⟩;go_wp2;go_roundw
    case rel=>exact⟨k+1,by omega,by go_num,Hst,hbw.trans (hb.mono hbw.size)⟩
    case measure=>simp[intOf];omega
   |true=>
    go_wp2_with fail
    refine(HU.o _).mono ?_
    rintro e w2 ⟨rfl,hb⟩;go_wp2;go_ret
    refine⟨_,rfl,?_,hbw.trans (hb.mono hbw.size)⟩;rw[Hfd.o trivial];simp
  ·go_wp2;go_ret
   refine⟨_,rfl,?_,hbw⟩;have:=hok.o
   rw[List.take_of_length_le (by omega)]at this;rw[this];rfl
theorem econtains_any(b o:Nat)(L:List Gd.Ent)(c:Nat)(w:World)(hL:L.length≤1000)(hS:EntsAt w b o L):
 Calls prog 177 #[.slice (some ⟨b,o,none⟩) L.length c,.func (.func 178) #[] #[]] w fun e w'=>e= .returned (.bool (L.any (fun e=>decide (e≠Gd.noEnt))))∧Below w.heap.size w w':=by
 have H:=hid (eindex_any b o L c w hL hS);clear hS;go_enter func177,ntmps177;go_wp2_with fail
 refine H.o.mono ?_;rintro e w2 ⟨r,rfl,hr,hb⟩;have Hr:=hid hr;clear hr;go_wp2;go_ret
 exact⟨ret_bool Hr.o,hb⟩
theorem sizeEnt:(prog.info? 139).map (fun i=>i.size)=some 2:=by kernel_rfl
theorem slice4{k:Nat}(hk:k<4)(b:Nat)(w:World):(Instr.sliceAt 141 (.pointer (some ⟨b,0,none⟩)) (some (.int .i64 (4*(k:Int)))) (some (.int .i64 (4*(k:Int)+4))) none).run prog w= .ok (.slice (some ⟨b,k*8,none⟩) 4 (16-4*k)) w:=by
 have hal:prog.arrayLen 141=16:=by simp[Program.arrayLen,underlying141]
 have hel:prog.elem 141=139:=by simp[Program.elem,underlying141]
 rw[run_sliceAt_array_lh w 141 ⟨b,0,none⟩ (by rw[hal,hel];exact underlying141) .i64 .i64 (4*(k:Int)) (4*(k:Int)+4) (by omega) (by omega) (by rw[hal];omega),hal,hel];have hs:(sizeOf 139).run prog w= .ok 2 w:=by simp[go_sem]
 rw[hs];simp only[Result.andThen_ok,slicedAt];rw[show(4*(k:Int)).toNat=4*k by omega,show(4*(k:Int)+4).toNat=4*k+4 by omega,if_neg (by omega)];unfold Addr.add;rw[show 4*k+4-4*k=4 by omega];by_cases h0:4*k*2=0
 ·rw[if_pos h0,show k*8=0 by omega]
 ·rw[if_neg h0];simp only[Nat.zero_add];rw[show 4*k*2=k*8 by omega]
theorem tused_any(T:Gd.Tab)(hT:T.length=16)(k:Nat)(hk:k<4)(w:World):Calls prog 150 #[tabV T,.int .i64 k] w fun e w'=>e= .returned (.bool (Gd.usedT T k))∧Below w.heap.size w w':=by
 have hsz:=tabC_size hT;obtain⟨wb,hwb⟩:=nm (w.alloc (.cells (tabC T) 141));have hrow:wb.heap[w.heap.size]? =some (.cells (tabC T) 141 (0,0)):=by rw[hwb];exact heap_alloc_new _ _
 have HBb:Hid (Below w.heap.size w wb):=hid (by rw[hwb];exact(Below.refl _ _).alloc (Nat.le_refl _) _);have Hwb:=hid hwb;have hEn:=tab_ents hrow k;have hl:((T.drop (4*k)).take 4).length=4:=by rw[List.length_take,List.length_drop];omega
 have HC:=hid (econtains_any w.heap.size (k*8) _ (16-4*k) wb (by omega) hEn);rw[hl]at HC;have HC2:Hid (Calls prog 177 #[.slice (some ⟨w.heap.size,k*8,none⟩) 4 (16-4*k),.func (.func 178) #[] #[]] wb fun e w'=>e= .returned (.bool (Gd.usedT T k))∧Below wb.heap.size wb w'):=HC;have HI:=hid fun W=>dis_any (k:Int) W;rw[show(decide ((0:Int)≤k)&&decide ((k:Int)<4))=true by simp;omega]at HI;have hk4:(k:Int)<4:=by omega
 have hk0:(0:Int)≤k:=by omega
 clear hwb hrow hEn hl HC;unfold tabV;go_enter func150,ntmps150;go_upto_region 1 with fail
 rw[←Hwb.o];have hS4:=fun W=>slice4 hk w.heap.size W;go_wp2_with(first|(go_at_call 164;refine(HI.o _).mono ?_;rintro e w2 ⟨rfl,rfl⟩)|(go_at_call 177;refine HC2.o.mono ?_;rintro e w2 ⟨rfl,hb2⟩))
 go_ret
 exact⟨rfl,HBb.o.trans (hb2.mono HBb.o.size)⟩
theorem tabC_set{T:Gd.Tab}{j:Nat}(hj:j<T.length)(e:Gd.Ent):tabC (Gd.setT T j e)=((tabC T).setIfInBounds (j*2) (.string ⟨e.s.toArray⟩)).setIfInBounds (j*2+1) (.int .i64 e.i):=by
 have h:=putCells2_toList (entC e) (j*2) (tabC T) (by
  show _+2≤_
  unfold tabC;rw[List.size_toArray,ents_len];omega)
 rw[←Array.toList_inj];refine Eq.trans ?_ h.symm;show(Gd.setT T j e).flatMap entC=(T.flatMap entC).take (j*2)++entC e++(T.flatMap entC).drop (j*2+2)
 unfold Gd.setT;have e1:=List.take_append_drop j T;have e2:T.drop j=T[j]::T.drop (j+1):=List.drop_eq_getElem_cons hj;have l1:((T.take j).flatMap entC).length=j*2:=by rw[ents_len,List.length_take];omega
 rw[List.set_eq_take_append_cons_drop,if_pos hj,List.flatMap_append,List.flatMap_cons];have e3:T.flatMap entC=(T.take j).flatMap entC++(entC T[j]++(T.drop (j+1)).flatMap entC):=by
  rw[←List.flatMap_cons,←e2,←List.flatMap_append,e1]
 rw[e3,List.take_left' l1,List.append_assoc];congr 2
 rw[←List.append_assoc,List.drop_left' (by rw[List.length_append,l1];rfl)]
theorem zTab:tabC Gd.noTab=#[Value.string {data:=#[]},Value.int IntKind.i64 0,Value.string {data:=#[]},Value.int IntKind.i64 0,Value.string {data:=#[]},Value.int IntKind.i64 0,Value.string {data:=#[]},Value.int IntKind.i64 0,Value.string {data:=#[]},Value.int IntKind.i64 0,Value.string {data:=#[]},Value.int IntKind.i64 0,Value.string {data:=#[]},Value.int IntKind.i64 0,Value.string {data:=#[]},Value.int IntKind.i64 0,Value.string {data:=#[]},Value.int IntKind.i64 0,Value.string {data:=#[]},Value.int IntKind.i64 0,Value.string {data:=#[]},Value.int IntKind.i64 0,Value.string {data:=#[]},Value.int IntKind.i64 0,Value.string {data:=#[]},Value.int IntKind.i64 0,Value.string {data:=#[]},Value.int IntKind.i64 0,Value.string {data:=#[]},Value.int IntKind.i64 0,Value.string {data:=#[]},Value.int IntKind.i64 0]:=by rfl
theorem tset_any(T:Gd.Tab)(hT:T.length=16)(j:Nat)(hj:j<16)(e:Gd.Ent)(w:World):Calls prog 122 #[tabV T,.int .i64 j,entV e] w fun x w'=>x= .returned (tabV (Gd.setT T j e))∧Below w.heap.size w w':=by
 have hsz:=tabC_size hT;obtain⟨tb,htb⟩:=nm w.heap.size;obtain⟨w3,hw3⟩:=nm (((w.alloc (.cells (tabC T) 141)).alloc (.cells #[.string ⟨e.s.toArray⟩,.int .i64 e.i] 139)).alloc (.cells (tabC Gd.noTab) 141));have hB3:Below w.heap.size w w3:=by rw[hw3];exact(((Below.refl _ _).alloc (Nat.le_refl _) _).alloc (by simp) _).alloc (by simp;omega) _
 have r0:w3.heap[tb]? =some (.cells (tabC T) 141 (0,0)):=by rw[hw3,htb];exact CellsAt.alloc (CellsAt.alloc (heap_alloc_new w _) _) _
 have r1:w3.heap[tb+1]? =some (.cells #[.string ⟨e.s.toArray⟩,.int .i64 e.i] 139 (0,0)):=by
  have:=heap_alloc_new (w.alloc (.cells (tabC T) 141)) (.cells #[.string ⟨e.s.toArray⟩,.int .i64 e.i] 139)
  rw[World.size_alloc]at this;rw[hw3,htb];exact CellsAt.alloc this _
 have r2:w3.heap[tb+1+1]? =some (.cells (tabC Gd.noTab) 141 (0,0)):=by
  have:=heap_alloc_new ((w.alloc (.cells (tabC T) 141)).alloc (.cells #[.string ⟨e.s.toArray⟩,.int .i64 e.i] 139)) (.cells (tabC Gd.noTab) 141)
  rw[World.size_alloc,World.size_alloc]at this;rw[hw3,htb];exact this
 have hg:=Gd.entAt_get hT hj;obtain⟨t0,t1⟩:=tab_cells r0 hg;obtain⟨o,ho⟩:∃o:ByteArray,o=⟨(Gd.entAt T j).s.toArray⟩:=⟨_,rfl⟩;obtain⟨oi,hoi⟩:∃o:Int,o=(Gd.entAt T j).i:=⟨_,rfl⟩;rw[←ho]at t0;rw[←hoi]at t1;obtain⟨es,hes⟩:∃es:ByteArray,es=⟨e.s.toArray⟩:=⟨_,rfl⟩;obtain⟨ei,hei⟩:∃ei:Int,ei=e.i:=⟨_,rfl⟩;obtain⟨T',hT'⟩:=nm (Gd.setT T j e);have hsz':(tabC T').size=32:=by rw[hT'];exact tabC_size (by unfold Gd.setT;rw[List.length_set];exact hT)
 have hset:=tabC_set (T:=T) (j:=j) (by omega) e;rw[←hes,←hei,←hT']at hset;rw[←hes,←hei]at hw3 r1;have f0:=frozen_of_row w3 tb (j*2) _ _ r0;have f1:=frozen_of_row w3 tb (j*2+1) _ _ r0;have e0:w3.cell? ⟨tb+1,0,none⟩=some (.string es):=cell_of_row _ _ 0 _ _ _ r1;have e1:w3.cell? ⟨tb+1,1,none⟩=some (.int .i64 ei):=cell_of_row _ _ 1 _ _ _ r1;obtain⟨w4,hw4⟩:=nm ((w3.setCell ⟨tb,j*2,none⟩ (.string es)).setCell ⟨tb,j*2+1,none⟩ (.int .i64 ei));have hB4:Below w.heap.size w w4:=by rw[hw4,htb];exact(hB3.setCell (Nat.le_refl _) _).setCell (Nat.le_refl _) _
 have s0:w4.heap[tb]? =some (.cells (tabC T') 141 (0,0)):=by
  rw[hw4,hset];exact Go.heap_setCell_same _ tb _ _ _ _ (Go.heap_setCell_same w3 tb _ _ _ _ r0)
 have s2:w4.heap[tb+1+1]? =some (.cells (tabC Gd.noTab) 141 (0,0)):=by
  rw[hw4];exact(Go.heap_setCell_other _ ⟨tb,j*2+1,none⟩ (tb+1+1) _ (show tb+1+1≠tb by omega)).trans ((Go.heap_setCell_other _ ⟨tb,j*2,none⟩ (tb+1+1) _ (show tb+1+1≠tb by omega)).trans r2)
 have HZs:Hid ((tabC Gd.noTab).size=32):=hid (tabC_size rfl);have HS:=hid hsz;have HS':=hid hsz';have Hb:=hid htb.symm;have HW3:=hid hw3;have HW4:=hid hw4;have HB4:=hid hB4;have HS0:=hid s0;have HS2:=hid s2;have hj0:(0:Int)≤j:=by omega
 have hj16:(j:Int)<16:=by omega
 unfold tabV entV;rw[←hT',←hes,←hei];clear hsz htb hw3 hB3 r0 r1 r2 hg ho hoi hes hei hT' hsz' hset hw4 hB4 s0 s2;go_enter func122,ntmps122;go_upto_region 1 with fail
 rw[←zTab,←HW3.o,Hb.o];go_upto_region 3 with fail
 rw[←HW4.o];go_wp2_with(first|(refine wpList_load_row rfl 141 _ rfl tb rfl 141 (tabC T') (0,0) _ HS0.o underlying141 rfl (by rw[HS'.o];exact sizeTab) ?_)|(refine wpList_store_mid rfl 141 _ _ rfl (tb+1+1) 0 (tabC T') rfl rfl (there_at HS2.o (by rw[HZs.o,HS'.o])) (by rw[HS'.o];exact sizeTab) (tabC_one _) ?_;obtain⟨hbw,hbg⟩:=whole_at HS2.o (vs:=(tabC T').toList) (B:=tb) (by rw[HZs.o,Array.length_toList,HS'.o]) (show tb≤tb+1+1 by omega);generalize (World.setCells _ _ _ _)=wf at hbw hbg⊢))
 refine bodyPost_ret (results_cell_row rfl _ _ (tb+1+1) 141 (tabC T') (0,0) _ rfl hbg underlying141 rfl (by rw[HS'.o];exact sizeTab)) rfl ?_;exact⟨rfl,HB4.o.trans (by rw[Hb.o];exact hbw)⟩
end
section
open Go.Shelf
attribute [local go_sem] Oper.semAt_some
theorem ent_step{L:List Gd.Ent}{i:Nat}{e:Gd.Ent}(h:L[i]? =some e):(L.take (i+1)).flatMap Gd.entB=(L.take i).flatMap Gd.entB++Gd.le e.i 1++Gd.le e.s.length 1++e.s++List.replicate (14-e.s.length) 0:=by
 rw[List.take_add_one,h,List.flatMap_append];show _++(Gd.entB e++[])=_
 rw[List.append_nil];simp[Gd.entB,Gd.le]
theorem ents_lenB:∀{L:List Gd.Ent} (_:∀e∈L,e.May),(L.flatMap Gd.entB).length=16*L.length
 |[],_=>rfl
 |e::r,h=>by
  rw[List.flatMap_cons,List.length_append,Gd.entB_length (h e (List.mem_cons_self ..)),ents_lenB fun x hx=>h x (List.mem_cons_of_mem _ hx),List.length_cons];omega
theorem tblock_any(T:Gd.Tab)(hOk:Gd.TabOk T)(k:Nat)(hk:k<4)(w:World):
 Calls prog 152 #[tabV T,.int .i64 k] w fun e w'=>∃v,e= .returned (.tuple #[v,.int .i64 0])∧OwnB w' w.heap.size v (Gd.blkT T k)∧Below w.heap.size w w':=by
 have hT:=hOk.len;obtain⟨tb,htb⟩:=nm w.heap.size;obtain⟨wb,hwb⟩:=nm (w.alloc (.cells (tabC T) 141));have hrow:wb.heap[tb]? =some (.cells (tabC T) 141 (0,0)):=by rw[hwb,htb];exact heap_alloc_new _ _
 have HBb:Hid (Below w.heap.size w wb):=hid (by rw[hwb];exact(Below.refl _ _).alloc (Nat.le_refl _) _);have Hwb:=hid hwb;have hsb:tb<wb.heap.size:=lt_get hrow;have hEn:=tab_ents hrow k;have HI:=hid fun W=>dis_any (k:Int) W;rw[show(decide ((0:Int)≤k)&&decide ((k:Int)<4))=true by simp;omega]at HI;obtain⟨L,hL⟩:=nm ((T.drop (4*k)).take 4);have hl:L.length=4:=by rw[hL,List.length_take,List.length_drop];omega
 rw[←hL]at hEn;have hLm:∀e∈L,e.May:=fun e he=>hOk.may e (by rw[hL]at he;exact List.mem_of_mem_drop (List.mem_of_mem_take he));have HLm:=hid hLm;have HLl:=hid hl;have HRes:Hid (Gd.blkT T k=L.flatMap Gd.entB):=hid (by rw[hL];rfl);have HEn:=hid hEn;have Htb:=hid htb.symm;have HLt:∀i,i≤4→((L.take i).flatMap Gd.entB).length=16*i:=fun i hi=>by
  rw[ents_lenB fun e he=>hLm e (List.mem_of_mem_take he),List.length_take,hl];omega
 have HLT:=hid HLt;have hk4:(k:Int)<4:=by omega
 have hk0:(0:Int)≤k:=by omega
 have hS4:=fun W=>slice4 hk tb W;clear hOk hT htb hwb hrow hEn hL hl hLm HLt;unfold tabV;rw[HRes.o];clear HRes;go_enter func152,ntmps152;go_upto_region 1 with fail
 rw[←Hwb.o,Htb.o];go_upto_region 3 with(go_at_call 164;refine(HI.o _).mono ?_;rintro e w2 ⟨rfl,rfl⟩)
 go_upto_region 5 with fail
 go_loopw[6,19] (fun u z wr=>∃i:Nat,z= .int .i64 i∧i≤4∧Hid (OwnB wr w2.heap.size u ((L.take i).flatMap Gd.entB))∧Hid (Below w2.heap.size w2 wr)) (fun _ z _=>4-(intOf z).toNat)
 case atStart=>exact⟨0,rfl,by omega,hid (World.ownsRow_nil _ _ _ _),hid (Below.refl _ _)⟩
 case round=>
  obtain⟨i,rfl,hin,HO,HBw⟩:=hrel;by_cases hlt:i<4
  ·obtain⟨e,he⟩:∃e,L[i]? =some e:=⟨_,List.getElem?_eq_getElem (by have:=HLl.o;omega)⟩;obtain⟨q0,q1⟩:=(HEn.o.keep HBw.o).cell i e he;have h1:(i:Int)<4:=by omega
   have h0:(0:Int)≤i:=by omega
   have HX:=hid he;have hem:=HLm.o e (List.mem_of_getElem? he);have hlen:=Gd.May.len hem;have HMy:=hid fun W=>emay_any e (by omega) (by omega) W;rw[(mayE_iff e).2 hem]at HMy;clear he hem;go_upto_region 7 with fail
   obtain⟨q,hq⟩:=nm e.i;obtain⟨s,hs⟩:∃s:ByteArray,s=⟨e.s.toArray⟩:=⟨_,rfl⟩;obtain⟨l,hl⟩:=nm e.s.length;have hsz:s.size=l:=by rw[hs,hl];rfl
   unfold entV at HMy;rw[←hq,←hs]at HMy;rw[←hq,←hs];rw[←hq,←hl]at hlen;have hl12:(l:Int)≤12:=by omega
   have hl12':l≤12:=by omega
   have hq32:q≤32:=by omega
   obtain⟨wz,hwz⟩:=nm (wr.alloc (.cells #[.string s,.int .i64 q] 139));rw[←hwz];have hbz:Below wr.heap.size wr wz:=by rw[hwz];exact(Below.refl _ _).alloc (Nat.le_refl _) _
   have hz:wz.heap[wr.heap.size]? =some (.cells #[.string s,.int .i64 q] 139 (0,0)):=by rw[hwz];exact heap_alloc_new _ _
   obtain⟨zb,hzb⟩:=nm wr.heap.size;rw[←hzb]at hz⊢;have HZ:=hid hz;have z0:wz.cell? ⟨zb,0,none⟩=some (.string s):=cell_of_row wz zb 0 _ _ _ hz;have z1:wz.cell? ⟨zb,1,none⟩=some (.int .i64 q):=cell_of_row wz zb 1 _ _ _ hz;have HBwz:Hid (Below w2.heap.size w2 wz):=HBw.t hbz;have HOz:=hid (HO.o.keep hbz);have HQ:=hid (And.intro hq (And.intro hs hl));obtain⟨PL,hPL⟩:=nm ((L.take i).flatMap Gd.entB);have HPl:Hid (PL.length=16*i):=hid (by rw[hPL];exact HLT.o i hin);rw[←hPL]at HOz;have HNext:Hid ((L.take (i+1)).flatMap Gd.entB=PL++Gd.le q 1++Gd.le l 1++e.s++List.replicate (14-l) 0):=hid (by rw[ent_step HX.o,←hPL,←hq,←hl]);clear hwz hbz hz q0 q1 hq hs hl hzb hPL HO HX hlen hlt;go_wp2_with fail
   refine(HMy.o _).mono ?_
   rintro x w3 ⟨rfl,hb3⟩;have HO3:=hid (HOz.o.keep hb3);have HBw3:=HBwz.t hb3;have HZ3:=hid ((hb3.block zb (lt_get HZ.o)).trans HZ.o);clear hb3 z0 z1 HMy HOz;have z0:w3.cell? ⟨zb,0,none⟩=some (.string s):=cell_of_row w3 zb 0 _ _ _ HZ3.o;have z1:w3.cell? ⟨zb,1,none⟩=some (.int .i64 q):=cell_of_row w3 zb 1 _ _ _ HZ3.o;have HP1:=hid (putn_any u6 PL q 1 (Or.inl rfl) (by omega) (by omega) w3 HO3.o.at_ (by have:=HPl.o;omega));go_wp2_with fail
   refine HP1.o.mono ?_;rintro x w4 ⟨v4,rfl,ho4,hb4⟩;have HO4:=hid (ho4.mono HBw3.o.size);have HBw4:=HBw3.t hb4;have HZ4:=hid ((hb4.block zb (lt_get HZ3.o)).trans HZ3.o);clear ho4 hb4 HP1 z0 z1 HO3;have z0:w4.cell? ⟨zb,0,none⟩=some (.string s):=cell_of_row w4 zb 0 _ _ _ HZ4.o;have HP2:=hid (putn_any v4 _ l 1 (Or.inl rfl) (by omega) (by omega) w4 HO4.o.at_ (by rw[List.length_append,Gd.le_length];have:=HPl.o;omega));go_wp2_with fail
   refine HP2.o.mono ?_;rintro x w5 ⟨v5,rfl,ho5,hb5⟩;have HO5:=hid (ho5.mono HBw4.o.size);have HBw5:=HBw4.t hb5;have HZ5:=hid ((hb5.block zb (lt_get HZ4.o)).trans HZ4.o);clear ho5 hb5 HP2 z0 HO4;have z0:w5.cell? ⟨zb,0,none⟩=some (.string s):=cell_of_row w5 zb 0 _ _ _ HZ5.o;go_upto_region 12 with(at_builtin;refine app_str rfl _ _ rfl w2.heap.size v5 _ w5 rfl HO5.o e.s s HQ.o.2.1 rfl (by rw[List.length_append,List.length_append,Gd.le_length,Gd.le_length,←HQ.o.2.2,HPl.o];omega) HBw5.o.size ?_;intro v6 w6 ho6 hb6)
   have HO6:=hid ho6;have HBw6:=hid (HBw5.o.trans hb6);clear ho6 hb6 z0 HO5;obtain⟨A6,c6,rfl,ht6⟩:=HO6.o.at_;have hl6:(PL++Gd.le q 1++Gd.le l 1++e.s).length=16*i+2+l:=by rw[List.length_append,List.length_append,List.length_append,Gd.le_length,Gd.le_length,←HQ.o.2.2,HPl.o]
   obtain⟨r,hr⟩:=nm ((PL++Gd.le q 1++Gd.le l 1++e.s).length);rw[←hr]at hl6 HO6⊢;have HRr:=hid hr;have g1:(r:Int)=16*i+2+l:=by omega
   have g2:(l:Int)≤12:=by omega
   clear ht6 hr;go_wp2_with(at_builtin;refine app_zeros rfl _ _ rfl w2.heap.size (.slice A6 r c6) _ w6 rfl HO6.o (14-l) _ rfl (by omega) (by have:=HRr.o;omega) HBw6.o.size ?_;intro v7 w7 ho7 hb7)
   have HO7:Hid (OwnB w7 w2.heap.size v7 ((L.take (i+1)).flatMap Gd.entB)):=hid (by rw[HNext.o];exact ho7);have HBw7:=hid (HBw6.o.trans hb7);clear ho7 hb7;go_wp2;go_roundw
   case rel=>exact⟨i+1,by go_num,by omega,HO7,HBw7⟩
   case measure=>simp[intOf];omega
  ·obtain rfl:i=4:=by omega
   clear hlt;go_wp2_with fail
   go_ret2
   refine⟨_,rfl,?_,HBb.o.trans (HBw.o.mono HBb.o.size)⟩;have:=HO.o.mono HBb.o.size
   rw[List.take_of_length_le (by have:=HLl.o;omega)]at this;exact this
end
section
open Go.Shelf
attribute [local go_sem] Oper.semAt_some
theorem sliceB{b o n c l h:Nat}(h1:l≤h)(h2:h≤c)(h3:l<c)(w:World):(Instr.slice 23 (.slice (some ⟨b,o,none⟩) n c) (some (.int .i64 l)) (some (.int .i64 h)) none).run prog w= .ok (.slice (some ⟨b,o+l,none⟩) (h-l) (c-l)) w:=by
 have hel:prog.elem 23=5:=by simp[Program.elem,underlying23]
 rw[run_slice_lh w 23 _ n c (by rw[hel];exact underlying23) .i64 .i64 (l:Int) (h:Int) (by omega) (by omega) (by omega),hel];have hs:(sizeOf 5).run prog w= .ok 1 w:=by simp[go_sem]
 rw[hs];simp only[Result.andThen_ok,sliced,Int.toNat_natCast];rw[if_neg (by omega)];unfold Addr.add;by_cases h0:l*1=0
 ·simp[show l=0 by omega]
 ·simp
  omega
theorem sequal_any(u v:Value)(L:List UInt8)(w:World)(hu:BytesAt w u L)(hv:BytesAt w v L)(hl:L.length≤100000):Calls prog 165 #[u,v] w fun e w'=>e= .returned (.bool true)∧Below w.heap.size w w':=by
 obtain⟨A,c,rfl,hA⟩:=hu;obtain⟨A',c',rfl,hA'⟩:=hv;obtain⟨n,hn⟩:=nm L.length;have HA:=hid (And.intro hA hA');have Hn:=hid hn;rw[←hn]at hl⊢;clear hn hA hA';go_enter func165,ntmps165;go_wp2;go_loopw[5,13] (fun _ z wr=>∃i:Nat,z= .int .i64 i∧i≤n∧Below w.heap.size w wr) (fun _ z _=>n-(intOf z).toNat)
 case atStart=>exact⟨0,rfl,by omega,Below.refl _ _⟩
 case round=>
  obtain⟨i,rfl,hi,hbw⟩:=hrel;by_cases hlt:i<n
  ·obtain⟨x,hx⟩:∃x,L[i]? =some x:=⟨_,List.getElem?_eq_getElem (by have:=Hn.o;omega)⟩;rcases HA.o.1 with⟨-,h0,-⟩|⟨b,o,rfl,hb,hc⟩
   ·rw[h0]at hx;simp at hx
   rcases HA.o.2 with⟨-,h0,-⟩|⟨b',o',rfl,hb',hc'⟩
   ·rw[h0]at hx;simp at hx
   have c0:=(hbw.cell (p:=⟨b,o+i,none⟩) hb).trans (hc i x hx);have c1:=(hbw.cell (p:=⟨b',o'+i,none⟩) hb').trans (hc' i x hx);have h1:(i:Int)<n:=by omega
   have h0:(0:Int)≤i:=by omega
   have HBw:=hid hbw;clear hx hc hc' hlt hbw;go_upto_region 6 with fail
   go_region
   all_goals
    go_wp2;go_roundw
    case rel=>exact⟨i+1,by go_num,by omega,HBw.o.drew⟩
    case measure=>simp[intOf];omega
  ·go_wp2;go_ret
   exact⟨rfl,hbw⟩
namespace Gd
def rdT(T T2:Tab)(k:Nat):Nat→Tab
 |0=>T
 |i+1=>setT (rdT T T2 k i) (4*k+i) (entAt T2 (4*k+i))
theorem rdT_ok{T T2:Tab}(hT:TabOk T)(hT2:TabOk T2)(k:Nat):∀i,TabOk (rdT T T2 k i)
 |0=>hT
 |i+1=>(rdT_ok hT hT2 k i).set (entAt_may hT2 _)
theorem setT_at{T:Tab}{j i:Nat}{e:Ent}(hT:T.length=16)(hj:j<16):entAt (setT T j e) i=if i=j then e else entAt T i:=by
 unfold entAt setT;rw[List.getD_eq_getElem?_getD,List.getD_eq_getElem?_getD,List.getElem?_set];by_cases h:i=j
 ·subst h;rw[if_pos rfl,if_pos rfl,if_pos (by omega)];rfl
 ·rw[if_neg (Ne.symm h),if_neg h]
theorem rdT_at{T T2:Tab}(hT:TabOk T)(hT2:TabOk T2){k:Nat}(hk:k<4):∀i,i≤4→∀j,entAt (rdT T T2 k i) j=if 4*k≤j∧j<4*k+i then entAt T2 j else entAt T j
 |0,_,j=>by
  rw[if_neg (by omega)];rfl
 |i+1,h,j=>by
  unfold rdT;rw[setT_at (rdT_ok hT hT2 k i).len (by omega),rdT_at hT hT2 hk i (by omega) j];by_cases hj:j=4*k+i
  ·rw[if_pos hj,if_pos (by omega),hj]
  ·rw[if_neg hj];by_cases h2:4*k≤j∧j<4*k+i
   ·rw[if_pos h2,if_pos (by omega)]
   ·rw[if_neg h2,if_neg (by omega)]
theorem tab_ext{T T2:Tab}(h1:T.length=16)(h2:T2.length=16)(h:∀j,j<16→entAt T j=entAt T2 j):T=T2:=by
 apply List.ext_getElem?
 intro j;by_cases hj:j<16
 ·rw[entAt_get h1 hj,entAt_get h2 hj,h j hj]
 ·rw[List.getElem?_eq_none (by omega),List.getElem?_eq_none (by omega)]
theorem blk_ext{T T2:Tab}(h1:T.length=16)(h2:T2.length=16){k:Nat}(hk:k<4)(h:∀i,i<4→entAt T (4*k+i)=entAt T2 (4*k+i)):(T.drop (4*k)).take 4=(T2.drop (4*k)).take 4:=by
 apply List.ext_getElem?
 intro j;rw[List.getElem?_take,List.getElem?_take];by_cases hj:j<4
 ·rw[if_pos hj,if_pos hj,List.getElem?_drop,List.getElem?_drop,entAt_get h1 (by omega),entAt_get h2 (by omega),h j hj]
 ·rw[if_neg hj,if_neg hj]
theorem rdT_blk{T T2:Tab}(hT:TabOk T)(hT2:TabOk T2){k:Nat}(hk:k<4):blkT (rdT T T2 k 4) k=blkT T2 k:=by
 unfold blkT;rw[blk_ext (rdT_ok hT hT2 k 4).len hT2.len hk fun i hi=>by rw[rdT_at hT hT2 hk 4 (Nat.le_refl _),if_pos (by omega)]]
theorem blkT_parts{T:Tab}(hT:TabOk T){k i:Nat}(hk:k<4)(hi:i<4):((blkT T k).drop (16*i)).take 16=entB (entAt T (4*k+i)):=by
 have hl:∀(L:List Ent),(∀e∈L,e.May)→∀i e,L[i]? =some e→((L.flatMap entB).drop (16*i)).take 16=entB e:=by
  intro L;induction L with
  |nil=>intro _ i e h;simp at h
  |cons a r ih=>
   intro hm i e h;have ha:=entB_length (hm a (List.mem_cons_self ..));rw[List.flatMap_cons]
   cases i with
   |zero=>
    simp at h
    rw[h]at ha⊢;rw[Nat.mul_zero,List.drop_zero,List.take_left' ha]
   |succ i=>
    rw[show 16*(i+1)=16+16*i by omega,←List.drop_drop,List.drop_left' ha];exact ih (fun x hx=>hm x (List.mem_cons_of_mem _ hx)) i e (by simpa using h)
 refine hl _ (fun e he=>hT.may e (List.mem_of_mem_drop (List.mem_of_mem_take he))) i _ ?_;rw[List.getElem?_take,if_pos hi,List.getElem?_drop];exact entAt_get hT.len (by omega)
theorem blkT_len{T:Tab}(hT:TabOk T){k:Nat}(hk:k<4):(blkT T k).length=64:=by
 have hl:∀(L:List Ent),(∀e∈L,e.May)→(L.flatMap entB).length=16*L.length:=by
  intro L;induction L with
  |nil=>intro _;rfl
  |cons a r ih=>
   intro hm;rw[List.flatMap_cons,List.length_append,entB_length (hm a (List.mem_cons_self ..)),ih fun x hx=>hm x (List.mem_cons_of_mem _ hx),List.length_cons];omega
 unfold blkT;rw[hl _ fun e he=>hT.may e (List.mem_of_mem_drop (List.mem_of_mem_take he)),List.length_take,List.length_drop,hT.len];omega
theorem blkT_read{T:Tab}(hT:TabOk T){k i:Nat}(hk:k<4)(hi:i<4){e:Ent}(he:e=entAt T (4*k+i)):
 (blkT T k)[16*i]? =some (UInt8.ofNat e.i)∧(blkT T k)[16*i+1]? =some (UInt8.ofNat e.s.length)∧∀j x,e.s[j]? =some x→(blkT T k)[16*i+2+j]? =some x:=by
 have h:=blkT_parts hT hk hi;rw[←he]at h;have hg:∀j x,j<16→(entB e)[j]? =some x→(blkT T k)[16*i+j]? =some x:=fun j x hj hx=>by
  rw[←h,List.getElem?_take,if_pos hj,List.getElem?_drop]at hx;exact hx
 have hm:=May.len (entAt_may hT (4*k+i));rw[←he]at hm;refine⟨hg 0 _ (by omega) rfl,hg 1 _ (by omega) rfl,fun j x hx=> ?_⟩;have hj:=(List.getElem?_eq_some_iff.1 hx).1;rw[show 16*i+2+j=16*i+(j+2) by omega];refine hg (j+2) x (by omega) ?_;show(e.s++_)[j]? =_
 rw[List.getElem?_append_left hj];exact hx
end Gd
end
section
open Go.Shelf
attribute [local go_sem] Oper.semAt_some
theorem tread_any(T T2:Gd.Tab)(hOk:Gd.TabOk T)(hOk2:Gd.TabOk T2)(k:Nat)(hk:k<4)(v:Value)(B:Nat)(w:World)(hv:OwnB w B v (Gd.blkT T2 k)):
 Calls prog 147 #[tabV T,.int .i64 k,v] w fun e w'=>e= .returned (.tuple #[tabV (Gd.rdT T T2 k 4),.int .i64 0])∧Below w.heap.size w w':=by
 obtain⟨T4,hTe⟩:=nm (Gd.rdT T T2 k 4);rw[←hTe];have HTe:=hid hTe;clear hTe;have hlen:(Gd.blkT T2 k).length=64:=Gd.blkT_len hOk2 hk;obtain⟨b,c,rfl,hc,-,hbl,hcell⟩:=hv.lies (by intro h;rw[h]at hlen;simp at hlen);rw[hlen]at hc⊢;have hsz:=tabC_size hOk.len;obtain⟨tb,htb⟩:=nm w.heap.size;obtain⟨w2,hw2⟩:=nm ((w.alloc (.cells (tabC T) 141)).alloc (.cells (tabC Gd.noTab) 141));obtain⟨w3,hw3⟩:=nm (w2.alloc (.cells (tabC Gd.noTab) 141));have hs2:w2.heap.size=tb+1+1:=by rw[hw2,htb];simp
 have hB2:Below w.heap.size w w2:=by rw[hw2];exact((Below.refl _ _).alloc (Nat.le_refl _) _).alloc (by simp) _
 have hB3:Below w.heap.size w w3:=by rw[hw3];exact hB2.alloc hB2.size _
 have r0:w2.heap[tb]? =some (.cells (tabC T) 141 (0,0)):=by rw[hw2,htb];exact CellsAt.alloc (heap_alloc_new w _) _
 have r1:w2.heap[tb+1]? =some (.cells (tabC Gd.noTab) 141 (0,0)):=by
  have:=heap_alloc_new (w.alloc (.cells (tabC T) 141)) (.cells (tabC Gd.noTab) 141)
  rw[World.size_alloc]at this;rw[hw2,htb];exact this
 have s1:w3.heap[tb+1]? =some (.cells (tabC Gd.noTab) 141 (0,0)):=by rw[hw3];exact CellsAt.alloc r1 _
 have s2:w3.heap[tb+1+1]? =some (.cells (tabC Gd.noTab) 141 (0,0)):=by rw[hw3,←hs2];exact heap_alloc_new _ _
 have HI:=hid fun W=>dis_any (k:Int) W;rw[show(decide ((0:Int)≤k)&&decide ((k:Int)<4))=true by simp;omega]at HI;have HZs:Hid ((tabC Gd.noTab).size=32):=hid (tabC_size rfl);have HS:=hid hsz;have Htb:=hid htb.symm;have HW2:=hid hw2;have HW3:=hid hw3;have Hs2:=hid hs2;have HB2:=hid hB2;have HB3:=hid hB3;have HR0:=hid r0;have HS1:=hid s1;have HS2:=hid s2;have HOk:=hid (And.intro hOk hOk2);have HCl:=hid (And.intro hbl hcell);have hk4:(k:Int)<4:=by omega
 have hk0:(0:Int)≤k:=by omega
 clear hlen hv hbl hcell hsz htb hw2 hw3 hs2 hB2 hB3 r0 r1 s1 s2 hOk hOk2;unfold tabV;go_enter func147,ntmps147;go_upto_region 1 with fail
 rw[←zTab,←HW2.o,Htb.o];go_upto_region 5 with(go_at_call 164;refine(HI.o _).mono ?_;rintro e wq ⟨rfl,rfl⟩)
 go_upto_region 6 with(first|(refine wpList_load_row rfl 141 _ rfl tb rfl 141 (tabC T) (0,0) _ HR0.o underlying141 rfl (by rw[HS.o];exact sizeTab) ?_)|(rw[←zTab,←HW3.o,Hs2.o];refine wpList_store_mid rfl 141 _ _ rfl (tb+1+1) 0 (tabC T) rfl rfl (there_at HS2.o (by rw[HZs.o,HS.o])) (by rw[HS.o];exact sizeTab) (tabC_one _) ?_;obtain⟨hbw,hbg⟩:=whole_at HS2.o (vs:=(tabC T).toList) (B:=tb+1+1) (by rw[HZs.o,Array.length_toList,HS.o]) (Nat.le_refl _);generalize (World.setCells _ _ _ _)=w4 at hbw hbg⊢))
 have HN4:Hid (w4.heap[tb+1+1]? =some (.cells (tabC T) 141 (0,0))):=hid hbg;have HR4:Hid (w4.heap[tb+1]? =some (.cells (tabC Gd.noTab) 141 (0,0))):=hid ((hbw.block (tb+1) (show tb+1<tb+1+1 by omega)).trans HS1.o);have HB4:=hid (HB3.o.trans (hbw.mono (show w.heap.size≤tb+1+1 by rw[Htb.o];omega)));clear hbw hbg;go_upto_region 7 with fail
 go_loopw[9,10,11,25] (fun _ _ _ z wr=>∃i:Nat,z= .int .i64 i∧i≤4∧Hid (wr.heap[tb+1+1]? =some (.cells (tabC (Gd.rdT T T2 k i)) 141 (0,0)))∧Hid (wr.heap[tb+1]? =some (.cells (tabC Gd.noTab) 141 (0,0)))∧Hid (Below w.heap.size w wr)) (fun _ _ _ z _=>4-(intOf z).toNat)
 case atStart=>exact⟨0,rfl,by omega,HN4,HR4,HB4⟩
 case round=>
  obtain⟨i,rfl,hin,HN,HR,HB⟩:=hrel;by_cases hlt:i<4
  ·obtain⟨e,he⟩:=nm (Gd.entAt T2 (4*k+i));have hem:=Gd.May.len (Gd.entAt_may HOk.o.2 (4*k+i));rw[←he]at hem;obtain⟨b0,b1,bs⟩:=Gd.blkT_read HOk.o.2 hk hlt he;obtain⟨q,hq⟩:=nm e.i;obtain⟨s,hs⟩:∃s:ByteArray,s=⟨e.s.toArray⟩:=⟨_,rfl⟩;obtain⟨l,hl⟩:=nm e.s.length;rw[←hl]at hem b1;rw[←hq]at hem b0;have c0:=HCl.o.2 _ _ b0;have c1:=HCl.o.2 _ _ b1;rw[UInt8.toNat_ofNat',Nat.mod_eq_of_lt (by omega)]at c0 c1;have d0:=(HB.o.cell (p:=⟨b,16*i,none⟩) HCl.o.1).trans c0;have d1:=(HB.o.cell (p:=⟨b,16*i+1,none⟩) HCl.o.1).trans c1;have h1:(i:Int)<4:=by omega
   have h0:(0:Int)≤i:=by omega
   have hl12:(l:Int)≤12:=by omega
   have hCV:∀W,Below w.heap.size w W→W.cell? ⟨b,16*i,none⟩=some (.int .u8 q)∧(convert 23 9 (.slice (some ⟨b,16*i+2,none⟩) l (c-16*i-2))).run prog W= .ok (.string s) W:=fun W hW=>by
    refine⟨(hW.cell (p:=⟨b,16*i,none⟩) HCl.o.1).trans c0,?_⟩;rw[hs];exact conv_any _ _ _ ⟨_,_,by rw[hl],Or.inr ⟨b,16*i+2,rfl,Nat.lt_of_lt_of_le HCl.o.1 hW.size,fun j x hx=>(hW.cell (p:=⟨b,16*i+2+j,none⟩) HCl.o.1).trans (HCl.o.2 _ _ (bs j x hx))⟩⟩
   have HCV:=hid hCV;have hS1:∀W,(Instr.slice 23 (.slice (some ⟨b,0,none⟩) 64 c) (some (.int .i64 (16*(i:Int)))) (some (.int .i64 (16*((i:Int)+1)))) none).run prog W= .ok (.slice (some ⟨b,16*i,none⟩) 16 (c-16*i)) W:=fun W=>by
    have:=sliceB (b:=b) (o:=0) (n:=64) (c:=c) (l:=16*i) (h:=16*(i+1)) (by omega) (by omega) (by omega) W
    rw[show 0+16*i=16*i by omega,show 16*(i+1)-16*i=16 by omega]at this;rw[←this];push_cast
    rfl
   have hS2:∀W,(Instr.slice 23 (.slice (some ⟨b,16*i,none⟩) 16 (c-16*i)) (some (.int .i64 2)) (some (.int .i64 (2+(l:Int)))) none).run prog W= .ok (.slice (some ⟨b,16*i+2,none⟩) l (c-16*i-2)) W:=fun W=>by
    have:=sliceB (b:=b) (o:=16*i) (n:=16) (c:=c-16*i) (l:=2) (h:=2+l) (by omega) (by omega) (by omega) W
    rw[show 2+l-2=l by omega]at this;rw[←this];push_cast
    rfl
   have HE:=hid (And.intro he (And.intro hq (And.intro hs hl)));clear he b0 b1 bs hq hs hl c0 c1 hlt hCV;go_upto_region 13 with fail
   have hs0:=HCV.o wr.drew HB.o.drew;obtain⟨n0,n1⟩:=tab_cells HN.o (Gd.entAt_get (Gd.rdT_ok HOk.o.1 HOk.o.2 k i).len (show 4*k+i<16 by omega));have m0:=frozen_of_row wr (tb+1+1) ((4*k+i)*2) _ _ HN.o;have m1:=frozen_of_row wr (tb+1+1) ((4*k+i)*2+1) _ _ HN.o;obtain⟨w5,hw5⟩:=nm (((wr.setCell ⟨tb+1+1,(4*k+i)*2,none⟩ (.string s)).setCell ⟨tb+1+1,(4*k+i)*2+1,none⟩ (.int .i64 q)).drew);have hsl:∀x:Nat,x≠tb+1+1→w5.heap[x]? =wr.heap[x]? :=fun x hx=>by
    rw[hw5];exact(Go.heap_setCell_other _ ⟨tb+1+1,(4*k+i)*2+1,none⟩ x _ hx).trans (Go.heap_setCell_other _ ⟨tb+1+1,(4*k+i)*2,none⟩ x _ hx)
   have HB5:Hid (Below w.heap.size w w5):=hid (by rw[hw5];exact((HB.o.setCell (show w.heap.size≤tb+1+1 by rw[Htb.o];omega) _).setCell (show w.heap.size≤tb+1+1 by rw[Htb.o];omega) _).drew);have HR5:Hid (w5.heap[tb+1]? =some (.cells (tabC Gd.noTab) 141 (0,0))):=hid ((hsl (tb+1) (by omega)).trans HR.o);have HN5:Hid (w5.heap[tb+1+1]? =some (.cells (tabC (Gd.rdT T T2 k (i+1))) 141 (0,0))):=hid (by
    unfold Gd.rdT;rw[tabC_set (by rw[(Gd.rdT_ok HOk.o.1 HOk.o.2 k i).len];omega),←HE.o.1,←HE.o.2.1,←HE.o.2.2.1,hw5];exact Go.heap_setCell_same _ (tb+1+1) _ _ _ _ (Go.heap_setCell_same wr (tb+1+1) _ _ _ _ HN.o))
   have HW5:=hid hw5;have hs5:=HCV.o w5 HB5.o;have g7:IntKind.i64.wrap (q:Int)=q:=by rw[IntKind.wrap_i64];omega
   clear d0 d1 hem hw5 hsl;have g1:IntKind.i64.wrap (2+(l:Int))=2+l:=by rw[IntKind.wrap_i64];omega
   have g2:IntKind.i64.wrap (4*(k:Int))=4*k:=by rw[IntKind.wrap_i64];omega
   have g3:IntKind.i64.wrap (4*(k:Int)+i)=4*k+i:=by rw[IntKind.wrap_i64];omega
   have g4:(0:Int)≤4*(k:Int)+i:=by omega
   have g5:4*(k:Int)+i<16:=by omega
   have g6:(4*(k:Int)+i).toNat=4*k+i:=by omega
   refine wp_region_held_drew (S:=(fun W=>W.cell? ⟨b,16*i,none⟩=some (.int .u8 q)∧(convert 23 9 (.slice (some ⟨b,16*i+2,none⟩) l (c-16*i-2))).run prog W= .ok (.string s) W)) (by kernel_rfl) ?_ (fun hHeld=> ?_)
   ·exact hs0
   refine tk 0 ?_;refine tk 1 ?_;refine tk 2 ?_;refine tk 3 ?_;refine tk 4 ?_;refine tk 5 ?_;refine tk 6 ?_;refine tk 7 ?_;refine tk 8 ?_;refine tk 9 ?_;refine tk 10 ?_;refine tk 11 ?_;refine tk 12 ?_;refine tk 13 ?_;refine tk 14 ?_;refine rd 15 (fun K hK=> ?_);go_simp
   rw[←HW5.o];try dsimp only
   refine hK.o _ _ hs5 (fun hHeld=> ?_);clear hK K;try simp only[put]
   refine dn ?_
   (try simp only[Exit.then])
   go_wp2;go_roundw
   case rel=>exact⟨i+1,by go_num,by omega,HN5,HR5,HB5⟩
   case measure=>simp[intOf];omega
  ·obtain rfl:i=4:=by omega
   clear hlt;have hT4:=Gd.rdT_ok HOk.o.1 HOk.o.2 k 4;have hbk:=Gd.rdT_blk HOk.o.1 HOk.o.2 hk;rw[←HTe.o]at hT4 hbk HN;have HBk:=hid (tblock_any T4 hT4 k hk wr);rw[hbk]at HBk;have HS4:=hid (tabC_size hT4.len);obtain⟨M,hM⟩:=nm (Gd.blkT T2 k);have hMl:M.length=64:=by rw[hM];exact Gd.blkT_len HOk.o.2 hk
   rw[←hM]at HBk HCl;have HMl:=hid hMl;have hc64:(64:Int)≤c:=by omega
   clear hT4 hbk hM hMl;unfold tabV at HBk;go_upto_region 16 with(first|(refine wpList_load_row rfl 141 _ rfl (tb+1+1) rfl 141 (tabC T4) (0,0) _ HN.o underlying141 rfl (by rw[HS4.o];exact sizeTab) ?_)|(go_at_call 152;refine HBk.o.mono ?_;rintro e w5 ⟨v5,rfl,ho5,hb5⟩))
   have HB5:=HB.t hb5;have hn5:=(hb5.block _ (lt_get HN.o)).trans HN.o;have hr5:=(hb5.block _ (lt_get HR.o)).trans HR.o;have HN5:=hid hn5;have HR5:=hid hr5;have HEq:=hid (sequal_any v5 (.slice (some ⟨b,0,none⟩) 64 c) M w5 ho5.at_ ⟨_,_,by rw[HMl.o],Or.inr ⟨b,0,rfl,Nat.lt_of_lt_of_le HCl.o.1 HB5.o.size,fun j x hx=>by rw[Nat.zero_add];exact(HB5.o.cell (p:=⟨b,j,none⟩) HCl.o.1).trans (HCl.o.2 j x hx)⟩⟩ (by rw[HMl.o];omega));clear hb5 ho5 hn5 hr5 HBk;go_upto_region 18 with(go_at_call 165;refine HEq.o.mono ?_;rintro e w6 ⟨rfl,hb6⟩)
   have HB6:=HB5.t hb6;have HN6:=HN5.r hb6;have HR6:=HR5.r hb6;clear hb6;go_wp2_with(first|(refine wpList_load_row rfl 141 _ rfl (tb+1+1) rfl 141 (tabC T4) (0,0) _ HN6.o underlying141 rfl (by rw[HS4.o];exact sizeTab) ?_)|(refine wpList_store_mid rfl 141 _ _ rfl (tb+1) 0 (tabC T4) rfl rfl (there_at HR6.o (by rw[HZs.o,HS4.o])) (by rw[HS4.o];exact sizeTab) (tabC_one _) ?_;obtain⟨hbw,hbg⟩:=whole_at HR6.o (vs:=(tabC T4).toList) (B:=tb) (by rw[HZs.o,Array.length_toList,HS4.o]) (show tb≤tb+1 by omega);generalize (World.setCells _ _ _ _)=wf at hbw hbg⊢))
   refine bodyPost_ret (results_row_tmp rfl _ _ (tb+1) 141 (tabC T4) (0,0) _ rfl hbg underlying141 rfl (by rw[HS4.o];exact sizeTab)) rfl ?_;exact⟨rfl,HB6.o.trans (by rw[Htb.o];exact hbw)⟩
end
section
open Go.Shelf
attribute [local go_sem] Oper.semAt_some
namespace Gd
structure DirOf(M:Vol)(d:Nat)(T:Tab):Prop where
 lo:1≤d
 hi:d≤32
 kind:(M.ino d).k=2
 ok:TabOk T
 blk:∀k,k<4→∃n:Nat,(M.ino d).B[k]? =some (n:Int)∧((n=0∧∀i,i<4→entAt T (4*k+i)=noEnt)∨(1≤n∧n≤128∧M.blk n=blkT T k))
def upT(T:Tab)(k:Nat):Tab:=(List.range 16).map fun j=>if j<4*k then entAt T j else noEnt
theorem upT_len(T:Tab)(k:Nat):(upT T k).length=16:=by unfold upT;rw[List.length_map,List.length_range]
theorem upT_at(T:Tab)(k:Nat){j:Nat}(hj:j<16):entAt (upT T k) j=if j<4*k then entAt T j else noEnt:=by
 show(upT T k).getD j noEnt=_
 unfold upT;rw[List.getD_eq_getElem?_getD,List.getElem?_map,List.getElem?_range hj];rfl
theorem upT_ok{T:Tab}(h:TabOk T)(k:Nat):TabOk (upT T k):=⟨upT_len T k,fun e he=>by
 unfold upT at he;obtain⟨j,_,rfl⟩:=List.mem_map.1 he;split
 ·exact entAt_may h j
 ·exact Or.inl rfl⟩
theorem noTab_at(j:Nat):entAt noTab j=noEnt:=by
 unfold entAt noTab;rw[List.getD_eq_getElem?_getD,List.getElem?_replicate];split<;>rfl
theorem upT_zero(T:Tab):upT T 0=noTab:=tab_ext (upT_len T 0) rfl fun j hj=>by rw[upT_at T 0 hj,if_neg (by omega),noTab_at]
theorem upT_skip{T:Tab}{k:Nat}(hk:k<4)(h:∀i,i<4→entAt T (4*k+i)=noEnt):upT T (k+1)=upT T k:=tab_ext (upT_len _ _) (upT_len _ _) fun j hj=>by
 rw[upT_at _ _ hj,upT_at _ _ hj];by_cases h1:j<4*k
 ·rw[if_pos h1,if_pos (by omega)]
 ·rw[if_neg h1];by_cases h2:j<4*(k+1)
  ·rw[if_pos h2,show j=4*k+(j-4*k) by omega,h _ (by omega)]
  ·rw[if_neg h2]
theorem upT_read{T:Tab}(hT:TabOk T){k:Nat}(hk:k<4):rdT (upT T k) T k 4=upT T (k+1):=tab_ext (rdT_ok (upT_ok hT k) hT k 4).len (upT_len _ _) fun j hj=>by
 rw[rdT_at (upT_ok hT k) hT hk 4 (Nat.le_refl _),upT_at _ _ hj,upT_at _ _ hj];by_cases h1:4*k≤j∧j<4*k+4
 ·rw[if_pos h1,if_pos (by omega)]
 ·rw[if_neg h1];by_cases h2:j<4*k
  ·rw[if_pos h2,if_pos (by omega)]
  ·rw[if_neg h2,if_neg (by omega)]
theorem upT_all{T:Tab}(hT:TabOk T):upT T 4=T:=tab_ext (upT_len _ _) hT.len fun j hj=>by rw[upT_at _ _ hj,if_pos (by omega)]
end Gd
theorem zIno_lit:zIno=#[Value.int .i64 0,Value.int .i64 0,Value.int .i64 0,Value.int .i64 0,Value.int .i64 0,Value.int .i64 0,Value.int .i64 0,Value.int .i64 0,Value.int .i64 0,Value.int .i64 0,Value.int .i64 0,Value.int .i64 0,Value.int .i64 0,Value.int .i64 0,Value.int .i64 0]:=by rfl
theorem new_whole2(w:World)(Z:Array Value)(t:TypeId)(vs:List Value)(h:Z.size=vs.length):
 Below w.heap.size w ((w.alloc (.cells Z t)).setCells w.heap.size 0 vs)∧((w.alloc (.cells Z t)).setCells w.heap.size 0 vs).heap[w.heap.size]? =some (.cells vs.toArray t (0,0)):=by
 obtain⟨h1,h2⟩:=whole_at (heap_alloc_new w (.cells Z t)) h (Nat.le_refl _);exact⟨((Below.refl _ w).alloc (Nat.le_refl _) _).trans h1,h2⟩
theorem noTab_size:(tabC Gd.noTab).size=32:=tabC_size rfl
theorem table_any[MemNo]{x t c K d:Nat}{S:List UInt8}{M:Gd.Vol}{T:Gd.Tab}{F:Nat→Prop}(w:World)(h:MetaV x t S M c K w F)(hD:Gd.DirOf M d T):
 Calls prog 118 #[.pointer (some ⟨x,0,none⟩),inoV (M.ino d)] w fun e w'=>e= .returned (.tuple #[tabV T,.int .i64 0])∧Below w.heap.size w w':=by
 obtain⟨P,h,hG⟩:=h;have hs:=hG.shape d hD.lo hD.hi;have hblk:=hD.blk;obtain⟨y,hy⟩:=nm (M.ino d);rw[←hy]at hs hblk⊢;obtain⟨hb0,hbb⟩:=ino_box w hs;obtain⟨b,hbe⟩:=nm w.heap.size;obtain⟨wb,hwb⟩:=nm (w.alloc (.cells (inoC y) 72));rw[←hwb,←hbe]at hb0;rw[←hwb]at hbb;have hsb:wb.heap.size=b+1:=by rw[hwb,hbe];simp
 obtain⟨w2,hw2⟩:=nm ((wb.alloc (.cells (tabC Gd.noTab) 141)).alloc (.cells (tabC Gd.noTab) 141));have hb2:Below wb.heap.size wb w2:=by rw[hw2];exact((Below.refl _ _).alloc (Nat.le_refl _) _).alloc (by simp) _
 have r4:w2.heap[b+1]? =some (.cells (tabC Gd.noTab) 141 (0,0)):=by rw[hw2,←hsb];exact CellsAt.alloc (heap_alloc_new wb _) _
 have r6:w2.heap[b+1+1]? =some (.cells (tabC Gd.noTab) 141 (0,0)):=by
  have:=heap_alloc_new (wb.alloc (.cells (tabC Gd.noTab) 141)) (.cells (tabC Gd.noTab) 141)
  rw[World.size_alloc,hsb]at this;rw[hw2];exact this
 have hI2:=hb0.keep hb2;have hB2:Below w.heap.size w w2:=hbb.trans (hb2.mono hbb.size);have H:=hid h;have HG:=hid hG;have HBl:=hid hblk;have HOk:=hid hD.ok;have Hbe:=hid hbe.symm;have Hwb:=hid hwb.symm;have Hsb:=hid hsb;have Hw2:=hid hw2.symm;have HB2:=hid hB2;have HR4:=hid r4;have HR6:Hid (w2.heap[b+1+1]? =some (.cells (tabC (Gd.upT T 0)) 141 (0,0))):=hid (by rw[Gd.upT_zero];exact r6);have HI:=hid hI2;have HL:Hid ((intC y.B).length=4):=hid (by rw[intC_len];exact hs.1);clear h hG hs hblk hD hy hb0 hbb hbe hwb hsb hw2 hb2 r4 r6 hI2 hB2;unfold inoV tabV at*;go_enter func118,ntmps118;go_upto_region 2 with fail
 rw[Hwb.o,Hbe.o,←zTab,Hw2.o]
 (try rw[Hsb.o])
 go_upto_region 3 with(refine wpList_load_mid rfl 70 _ rfl b 3 rfl (intC y.B) _ HI.o.blocks underlying70 rfl (by rw[HL.o];exact size4) ?_)
 go_loopw[15] (fun z wr=>∃i:Nat,z= .int .i64 i∧i≤4∧Hid (wr.heap[b+1]? =some (.cells (tabC Gd.noTab) 141 (0,0)))∧Hid (wr.heap[b+1+1]? =some (.cells (tabC (Gd.upT T i)) 141 (0,0)))∧Hid (Below w.heap.size w wr)) (fun z _=>4-(intOf z).toNat)
 case atStart=>exact⟨0,rfl,by omega,HR4,HR6,HB2⟩
 case round=>
  obtain⟨i,rfl,hi,HR,HT,HB⟩:=hrel;by_cases hlt:i<4
  ·obtain⟨n,hn,hnb⟩:=HBl.o i hlt;have hc:=run_index_one 70 3 4 (intC y.B).toArray .i64 .i64 i _ wr underlying70 underlying3 infoInts hlt (by rw[List.getElem?_toArray];exact intC_get hn);have h1:(i:Int)<4:=by omega
   by_cases h0:n=0
   ·have hno:∀j,j<4→Gd.entAt T (4*i+j)=Gd.noEnt:=by
     rcases hnb with⟨_,h⟩|⟨h,_⟩
     ·exact h
     ·omega
    have HT2:Hid (wr.heap[b+1+1]? =some (.cells (tabC (Gd.upT T (i+1))) 141 (0,0))):=hid (by rw[Gd.upT_skip hlt hno];exact HT.o);subst h0;clear hn hnb hlt hno;go_wp2_with fail
    go_roundw
    case rel=>exact⟨i+1,by go_num,by omega,HR,HT2,HB⟩
    case measure=>simp[intOf];omega
   ·have hnb:1≤n∧n≤128∧M.blk n=Gd.blkT T i:=by
     rcases hnb with⟨h,_⟩|h
     ·omega
     ·exact h
    have hn0:¬(n:Int)=0:=by omega
    have HLd:=hid (load_some 7 n _ wr (H.o.below HB.o) (Gd.ptAt_block hnb.1 hnb.2.1));dsimp only at HLd;rw[HG.o.blk n hnb.1 hnb.2.1,hnb.2.2]at HLd;have HRd:=hid fun v B W hv=>tread_any (Gd.upT T i) T (Gd.upT_ok HOk.o i) HOk.o i hlt v B W hv;rw[Gd.upT_read HOk.o hlt]at HRd;unfold tabV at HRd;have HSi:=hid (tabC_size (Gd.upT_len T i));have HSj:=hid (tabC_size (Gd.upT_len T (i+1)));clear hn hnb hlt;go_wp2_with fail
    refine HLd.o.mono ?_;rintro e w3 ⟨v3,rfl,ho3,hb3⟩;have HO3:=hid ho3;have HB3:=HB.t hb3;have hrr:=(hb3.block _ (lt_get HR.o)).trans HR.o;have htt:=(hb3.block _ (lt_get HT.o)).trans HT.o;have HR3:=hid hrr;have HT3:=hid htt;clear ho3 hb3 hrr htt HLd hc
    go_upto_region 8 with(first|(refine wpList_load_row rfl 141 _ rfl (b+1+1) rfl 141 (tabC (Gd.upT T i)) (0,0) _ HT3.o underlying141 rfl (by rw[HSi.o];exact sizeTab) ?_)|(go_at_call 147;refine(HRd.o v3 _ w3 HO3.o).mono ?_;rintro e w4 ⟨rfl,hb4⟩;have HB4:=HB3.t hb4;have HR4:=HR3.r hb4;have HT4:=HT3.r hb4;clear hb4)|(rw[←zTab];refine wpList_store_mid rfl 141 _ _ rfl w4.heap.size 0 (tabC (Gd.upT T (i+1))) rfl rfl (there_at (heap_alloc_new _ _) (by rw[noTab_size,HSj.o])) (by rw[HSj.o];exact sizeTab) (tabC_one _) ?_;obtain⟨hbw,hbg⟩:=new_whole2 w4 (tabC Gd.noTab) 141 (tabC (Gd.upT T (i+1))).toList (by rw[noTab_size,Array.length_toList,HSj.o]);generalize (World.setCells _ _ _ _)=w5 at hbw hbg⊢;have HN5:Hid (w5.heap[w4.heap.size]? =some (.cells (tabC (Gd.upT T (i+1))) 141 (0,0))):=hid hbg;have HB5:=HB4.t hbw;have HR5:=HR4.r hbw;have HT5:=HT4.r hbw;clear hbw hbg))
    go_upto_region 11 with(first|(refine wpList_load_row rfl 141 _ rfl w4.heap.size rfl 141 (tabC (Gd.upT T (i+1))) (0,0) _ HN5.o underlying141 rfl (by rw[HSj.o];exact sizeTab) ?_)|(refine wpList_store_mid rfl 141 _ _ rfl (b+1+1) 0 (tabC (Gd.upT T (i+1))) rfl rfl (there_at HT5.o (by rw[HSi.o,HSj.o])) (by rw[HSj.o];exact sizeTab) (tabC_one _) ?_;obtain⟨hbw,hbg⟩:=whole_at HT5.o (vs:=(tabC (Gd.upT T (i+1))).toList) (B:=b+1+1) (by rw[HSi.o,Array.length_toList,HSj.o]) (Nat.le_refl _);generalize (World.setCells _ _ _ _)=w6 at hbw hbg⊢))
    have HB6:=hid (HB5.o.trans (hbw.mono (show w.heap.size≤b+1+1 by rw[Hbe.o];omega)));have HR6:=hid ((hbw.block (b+1) (show b+1<b+1+1 by omega)).trans HR5.o);have HT6:Hid (w6.heap[b+1+1]? =some (.cells (tabC (Gd.upT T (i+1))) 141 (0,0))):=hid hbg;clear hbw hbg;go_wp2;go_roundw
    case rel=>exact⟨i+1,by go_num,by omega,HR6,HT6,HB6⟩
    case measure=>simp[intOf];omega
  ·obtain rfl:i=4:=by omega
   clear hlt;have hu:=Gd.upT_all HOk.o;rw[hu]at HT;have HS4:=hid (tabC_size HOk.o.len);clear hu;go_wp2_with(first|(refine wpList_load_row rfl 141 _ rfl (b+1+1) rfl 141 (tabC T) (0,0) _ HT.o underlying141 rfl (by rw[HS4.o];exact sizeTab) ?_)|(refine wpList_store_mid rfl 141 _ _ rfl (b+1) 0 (tabC T) rfl rfl (there_at HR.o (by rw[noTab_size,HS4.o])) (by rw[HS4.o];exact sizeTab) (tabC_one _) ?_;obtain⟨hbw,hbg⟩:=whole_at HR.o (vs:=(tabC T).toList) (B:=b) (by rw[noTab_size,Array.length_toList,HS4.o]) (show b≤b+1 by omega);generalize (World.setCells _ _ _ _)=wf at hbw hbg⊢))
   refine bodyPost_ret (results_row_tmp rfl _ _ (b+1) 141 (tabC T) (0,0) _ rfl hbg underlying141 rfl (by rw[HS4.o];exact sizeTab)) rfl ?_;exact⟨rfl,HB.o.trans (by rw[Hbe.o];exact hbw)⟩
end
section
open Go.Shelf
attribute [local go_sem] Oper.semAt_some
theorem inoC_size2{M:Gd.Vol}{V:List UInt8}(hG:Gd.Good V M){i:Nat}(h1:1≤i)(h2:i≤32):(inoC (M.ino i)).size=15:=inoC_size (hG.shape i h1 h2)
theorem zIno_size:zIno.size=15:=rfl
theorem tableI_dir[MemNo]{x t c K d:Nat}{S:List UInt8}{M:Gd.Vol}{T:Gd.Tab}{F:Nat→Prop}(w:World)(h:MetaV x t S M c K w F)(hD:Gd.DirOf M d T):
 Calls prog 70 #[.pointer (some ⟨x,0,none⟩),.int .i64 d] w fun e w'=>e= .returned (.tuple #[tabV T,.int .i64 0])∧Below w.heap.size w w':=by
 obtain⟨w0,hw0⟩:=nm (w.alloc (.cells (tabC Gd.noTab) 141));have hb0:Below w.heap.size w w0:=by rw[hw0];exact(Below.refl _ _).alloc (Nat.le_refl _) _
 have hr0:w0.heap[w.heap.size]? =some (.cells (tabC Gd.noTab) 141 (0,0)):=by rw[hw0];exact heap_alloc_new _ _
 obtain⟨r,hr⟩:=nm w.heap.size;rw[←hr]at hr0;have HIn:=hid (inode_ok (d:Int) w0 (h.below hb0) (by have:=hD.lo;omega) (by have:=hD.hi;omega));rw[Int.toNat_natCast]at HIn;have HTb:=hid fun W hW=>table_any W (h.below hW) hD;have HS:Hid ((inoC (M.ino d)).size=15):=hid (by
  obtain⟨P,h1,h2⟩:=h;exact inoC_size2 h2 hD.lo hD.hi)
 have HTs:=hid (tabC_size hD.ok.len);have HK:=hid hD.kind;obtain⟨y,hy⟩:=nm (M.ino d);rw[←hy]at HIn HTb HS HK;have HR0:=hid hr0;have HB0:=hid hb0;have HW0:=hid hw0.symm;have Hr:=hid hr.symm;clear h hD hw0 hb0 hr0 hr hy;unfold inoV tabV at*;go_enter func70,ntmps70;go_upto_region 1 with fail
 rw[←zTab,HW0.o,Hr.o];go_upto_region 2 with(first|(go_at_call 24;refine HIn.o.mono ?_;rintro e w2 ⟨rfl,hb2⟩;have HR2:=hid ((hb2.block r (lt_get HR0.o)).trans HR0.o);have HB2:=HB0.t hb2;clear hb2)|(rw[←zIno_lit];refine wpList_store_mid rfl 72 _ _ rfl w2.heap.size 0 (inoC y) rfl rfl (there_at (heap_alloc_new _ _) (by rw[zIno_size,HS.o])) (by rw[HS.o];exact sizeIno) (inoC_one _) ?_;obtain⟨hbw,hbg⟩:=new_whole2 w2 zIno 72 (inoC y).toList (by rw[zIno_size,Array.length_toList,HS.o]);generalize (World.setCells _ _ _ _)=w3 at hbw hbg⊢;have HN3:Hid (w3.heap[w2.heap.size]? =some (.cells (inoC y) 72 (0,0))):=hid hbg;have HB3:=HB2.t hbw;have HR3:=HR2.r hbw;clear hbw hbg))
 have n0:w3.cell? ⟨w2.heap.size,0,none⟩=some (.int .i64 2):=by
  have:=cell_of_row w3 w2.heap.size 0 _ _ _ HN3.o
  rw[this,←HK.o];exact inoC_get rfl
 go_upto_region 6 with fail
 have HTc:=hid (HTb.o w3 HB3.o);go_wp2_with(first|(refine wpList_load_row rfl 72 _ rfl w2.heap.size rfl 72 (inoC y) (0,0) _ HN3.o underlying72 rfl (by rw[HS.o];exact sizeIno) ?_)|(go_at_call 118;refine HTc.o.mono ?_;rintro e w4 ⟨rfl,hb4⟩;have HR4:=hid ((hb4.block r (lt_get HR3.o)).trans HR3.o);have HB4:=HB3.t hb4;clear hb4)|(refine wpList_store_mid rfl 141 _ _ rfl r 0 (tabC T) rfl rfl (there_at HR4.o (by rw[noTab_size,HTs.o])) (by rw[HTs.o];exact sizeTab) (tabC_one _) ?_;obtain⟨hbw,hbg⟩:=whole_at HR4.o (vs:=(tabC T).toList) (B:=r) (by rw[noTab_size,Array.length_toList,HTs.o]) (Nat.le_refl r);generalize (World.setCells _ _ _ _)=wf at hbw hbg⊢))
 refine bodyPost_ret (results_row_tmp rfl _ _ r 141 (tabC T) (0,0) _ rfl hbg underlying141 rfl (by rw[HTs.o];exact sizeTab)) rfl ?_;exact⟨rfl,HB4.o.trans (by rw[Hr.o];exact hbw)⟩
theorem tableI_not[MemNo]{x t c K d:Nat}{S:List UInt8}{M:Gd.Vol}{F:Nat→Prop}(w:World)(h:MetaV x t S M c K w F)(h1:1≤d)(h2:d≤32)(hk:(M.ino d).k≠2):
 Calls prog 70 #[.pointer (some ⟨x,0,none⟩),.int .i64 d] w fun e w'=>e= .returned (.tuple #[tabV Gd.noTab,.int .i64 12])∧Below w.heap.size w w':=by
 obtain⟨w0,hw0⟩:=nm (w.alloc (.cells (tabC Gd.noTab) 141));have hb0:Below w.heap.size w w0:=by rw[hw0];exact(Below.refl _ _).alloc (Nat.le_refl _) _
 have hr0:w0.heap[w.heap.size]? =some (.cells (tabC Gd.noTab) 141 (0,0)):=by rw[hw0];exact heap_alloc_new _ _
 obtain⟨r,hr⟩:=nm w.heap.size;rw[←hr]at hr0;have HIn:=hid (inode_ok (d:Int) w0 (h.below hb0) (by omega) (by omega));rw[Int.toNat_natCast]at HIn;have HS:Hid ((inoC (M.ino d)).size=15):=hid (by
  obtain⟨P,h3,h4⟩:=h;exact inoC_size2 h4 h1 h2)
 obtain⟨y,hy⟩:=nm (M.ino d);rw[←hy]at HIn HS hk;have HR0:=hid hr0;have HB0:=hid hb0;have HW0:=hid hw0.symm;have Hr:=hid hr.symm;clear h hw0 hb0 hr0 hr hy h1 h2;unfold inoV tabV at*;go_enter func70,ntmps70;go_upto_region 1 with fail
 rw[←zTab,HW0.o,Hr.o];go_upto_region 2 with(first|(go_at_call 24;refine HIn.o.mono ?_;rintro e w2 ⟨rfl,hb2⟩;have HR2:=hid ((hb2.block r (lt_get HR0.o)).trans HR0.o);have HB2:=HB0.t hb2;clear hb2)|(rw[←zIno_lit];refine wpList_store_mid rfl 72 _ _ rfl w2.heap.size 0 (inoC y) rfl rfl (there_at (heap_alloc_new _ _) (by rw[zIno_size,HS.o])) (by rw[HS.o];exact sizeIno) (inoC_one _) ?_;obtain⟨hbw,hbg⟩:=new_whole2 w2 zIno 72 (inoC y).toList (by rw[zIno_size,Array.length_toList,HS.o]);generalize (World.setCells _ _ _ _)=w3 at hbw hbg⊢;have HN3:Hid (w3.heap[w2.heap.size]? =some (.cells (inoC y) 72 (0,0))):=hid hbg;have HB3:=HB2.t hbw;have HR3:=HR2.r hbw;clear hbw hbg))
 have n0:w3.cell? ⟨w2.heap.size,0,none⟩=some (.int .i64 y.k):=(cell_of_row w3 w2.heap.size 0 _ _ _ HN3.o).trans (inoC_get rfl);go_upto_region 5 with fail
 go_wp2_with(refine wpList_store_mid rfl 141 _ _ rfl r 0 (tabC Gd.noTab) rfl rfl (there_at HR3.o noTab_size) (by rw[noTab_size];exact sizeTab) (tabC_one _) ?_;obtain⟨hbw,hbg⟩:=whole_at HR3.o (vs:=(tabC Gd.noTab).toList) (B:=r) (by rw[noTab_size,Array.length_toList,noTab_size]) (Nat.le_refl r);generalize (World.setCells _ _ _ _)=wf at hbw hbg⊢)
 refine bodyPost_ret (results_row_tmp rfl _ _ r 141 (tabC Gd.noTab) (0,0) _ rfl hbg underlying141 rfl (by rw[noTab_size];exact sizeTab)) rfl ?_;exact⟨rfl,HB3.o.trans (by rw[Hr.o];exact hbw)⟩
theorem node_ok[MemNo]{x t c K:Nat}{S:List UInt8}{M:Gd.Vol}{F:Nat→Prop}(d:Nat)(w:World)(h:MetaV x t S M c K w F)(h1:1≤d)(h2:d≤32)(hk:(M.ino d).k≠0):
 Calls prog 117 #[.pointer (some ⟨x,0,none⟩),.int .i64 d] w fun e w'=>e= .returned (.tuple #[inoV (M.ino d),.int .i64 0])∧Below w.heap.size w w':=by
 obtain⟨w0,hw0⟩:=nm (w.alloc (.cells zIno 72));have hb0:Below w.heap.size w w0:=by rw[hw0];exact(Below.refl _ _).alloc (Nat.le_refl _) _
 have hr0:w0.heap[w.heap.size]? =some (.cells zIno 72 (0,0)):=by rw[hw0];exact heap_alloc_new _ _
 obtain⟨r,hr⟩:=nm w.heap.size;rw[←hr]at hr0;have HIn:=hid (inode_ok (d:Int) w0 (h.below hb0) (by omega) (by omega));rw[Int.toNat_natCast]at HIn;have HS:Hid ((inoC (M.ino d)).size=15):=hid (by
  obtain⟨P,h3,h4⟩:=h;exact inoC_size2 h4 h1 h2)
 obtain⟨y,hy⟩:=nm (M.ino d);rw[←hy]at HIn HS hk;rw[←hy];have HR0:=hid hr0;have HB0:=hid hb0;have HW0:=hid hw0.symm;have Hr:=hid hr.symm;clear h hw0 hb0 hr0 hr hy h1 h2;unfold inoV at*;go_enter func117,ntmps117;go_upto_region 1 with fail
 rw[←zIno_lit,HW0.o,Hr.o];go_upto_region 2 with(first|(go_at_call 24;refine HIn.o.mono ?_;rintro e w2 ⟨rfl,hb2⟩;have HR2:=hid ((hb2.block r (lt_get HR0.o)).trans HR0.o);have HB2:=HB0.t hb2;clear hb2)|(rw[←zIno_lit];refine wpList_store_mid rfl 72 _ _ rfl w2.heap.size 0 (inoC y) rfl rfl (there_at (heap_alloc_new _ _) (by rw[zIno_size,HS.o])) (by rw[HS.o];exact sizeIno) (inoC_one _) ?_;obtain⟨hbw,hbg⟩:=new_whole2 w2 zIno 72 (inoC y).toList (by rw[zIno_size,Array.length_toList,HS.o]);generalize (World.setCells _ _ _ _)=w3 at hbw hbg⊢;have HN3:Hid (w3.heap[w2.heap.size]? =some (.cells (inoC y) 72 (0,0))):=hid hbg;have HB3:=HB2.t hbw;have HR3:=HR2.r hbw;clear hbw hbg))
 have n0:w3.cell? ⟨w2.heap.size,0,none⟩=some (.int .i64 y.k):=(cell_of_row w3 w2.heap.size 0 _ _ _ HN3.o).trans (inoC_get rfl);go_upto_region 4 with fail
 go_wp2_with(first|(refine wpList_load_row rfl 72 _ rfl w2.heap.size rfl 72 (inoC y) (0,0) _ HN3.o underlying72 rfl (by rw[HS.o];exact sizeIno) ?_)|(refine wpList_store_mid rfl 72 _ _ rfl r 0 (inoC y) rfl rfl (there_at HR3.o (by rw[zIno_size,HS.o])) (by rw[HS.o];exact sizeIno) (inoC_one _) ?_;obtain⟨hbw,hbg⟩:=whole_at HR3.o (vs:=(inoC y).toList) (B:=r) (by rw[zIno_size,Array.length_toList,HS.o]) (Nat.le_refl r);generalize (World.setCells _ _ _ _)=wf at hbw hbg⊢))
 refine bodyPost_ret (results_row_tmp rfl _ _ r 72 (inoC y) (0,0) _ rfl hbg underlying72 rfl (by rw[HS.o];exact sizeIno)) rfl ?_;exact⟨rfl,HB3.o.trans (by rw[Hr.o];exact hbw)⟩
end
end Go.Proofs.YtckoobkjpndgnaaGreatDoor
