/- Walk: layout.Size; and where a part lies. -/
import Derived.Test.YtckoobkjpndgnaaGreatDoorW03
import Derived.Test.YtckoobkjpndgnaaGreatDoorW02
import Derived.Lib.AppendZerosOnto
set_option linter.unusedVariables false
set_option linter.unusedSimpArgs false
set_option linter.unusedSectionVars false
set_option maxHeartbeats 8000000
set_option maxRecDepth 100000
namespace Go.Proofs.YtckoobkjpndgnaaGreatDoor
open Go.RowKit
open Lib(hid)
open Go.Proofs.Tryz
section
open Go.Shelf
attribute [local go_sem] Oper.semAt_some
namespace Gd
deriving instance DecidableEq for Pt
def ptAt(k m:Int):Option Pt:=(partAt k m).map fun x=>⟨k.toNat,m.toNat,x.1,x.2⟩
theorem findP_some:∀(k:Fin 8) (m:Fin 129),findP (k.val:Int) (m.val:Int)=ptAt (k.val:Int) (m.val:Int):=by decide+kernel
theorem parts_in:∀p∈partsL,p.k≤7∧p.n≤128:=by decide+kernel
theorem findP_at(k m:Int):findP k m=ptAt k m:=by
 by_cases h:0≤k∧k≤7∧0≤m∧m≤128
 ·have:=findP_some ⟨k.toNat,by omega⟩ ⟨m.toNat,by omega⟩
  rw[show((⟨k.toNat,by omega⟩:Fin 8).val:Int)=k by simp;omega,show((⟨m.toNat,by omega⟩:Fin 129).val:Int)=m by simp;omega]at this;exact this
 ·have e:findP k m=none:=List.find?_eq_none.2 fun p hp=>by
   have:=parts_in p hp
   simp only[isP,Bool.and_eq_true,beq_iff_eq,not_and];intro h1 h2;omega
  rw[e];unfold ptAt partAt;symm
  rw[Option.map_eq_none_iff];split<;>(try split)<;>(try split)<;>(try split)<;>(try split)<;>(try split)<;>(try split)<;>(try split)<;>first|rfl|omega
theorem parts_small:∀p∈partsL,p.s≤4096:=by decide+kernel
theorem parts_size:(partsL.map (fun p=>p.s)).sum=23168:=by decide+kernel
end Gd
def SizeIs(pre:List Gd.Pt)(v:Int):Prop:=(∀p∈pre,p.s≤4096)→v=((pre.map fun p=>p.s).sum:Nat)∧(pre.map fun p=>p.s).sum≤pre.length*4096
theorem size_in(F:Fence)(n:Nat)(hf:F.fn 38)(hf2:F.fn 82)(hf3:F.fn 125)(hro:F.round=none)(hn:6≤n)(w:World):
 CallsIn F n prog 38 #[] w fun e W'=>e= .returned (.int .i64 23168)∧Below w.heap.size w W':=by
 have h1:1≤n:=by omega
 refine callsIn_of_wp_marks func38 rfl hf ?_ hro;simp only[ntmps38,List.size_toArray,List.length_cons,List.length_nil,Nat.reduceAdd,Nat.reduceSub,Array.replicate_succ,Array.replicate_zero,List.push_toArray,List.append_toArray,List.nil_append,List.cons_append];gi_wp2
 obtain⟨W0,hW0⟩:=nm (w.alloc (.cells #[.int .i64 0] 3));have c0:CellsAt W0 w.heap.size 3 #[.int .i64 0]:=by rw[hW0];exact heap_alloc_new w _
 have hB0:Below w.heap.size w W0:=by rw[hW0];exact(Below.refl _ w).alloc (Nat.le_refl _) _
 have hsz:W0.heap.size=w.heap.size+1:=by rw[hW0];simp
 rw[←hW0];clear hW0;refine wpIn_rangeFunc_ownH hro h1 (gf:=82) (lb:=#[]) rfl hf2 (enters_of func82 (by kernel_rfl) rfl)
  (parts_stops F (n-1) hf2 hf3 hro (by omega) W0.heap.size W0 (Nat.le_refl _)) (keepsC_t _) (keepsC_b _ (w:=W0)) (Below.refl _ _) (fun _=>rfl)
  (fun pre W=>(∃v:Int,SizeIs pre v∧CellsAt W w.heap.size 3 #[.int .i64 v])∧Below w.heap.size w W)
  (fun c pre W=>False)
  ?o1 ?o2 ?o3
  (fun x a' W=>∃Bx,w.heap.size+1≤Bx∧CellsAt W Bx 156 (ptC x)∧a'={tmps:=#[.int .i64 0,.pointer (some ⟨w.heap.size,0,none⟩),.pointer (some ⟨Bx,0,none⟩),ptV x,undef,undef,undef,undef,undef],defers:=[]})
  ?o4 ?assign ?body ?done ?stop
 case o1=>exact OwnFrom.and (fun s X Y row ⟨v,h1,h2⟩ hg hr=>⟨v,h1,cellsAt_own _ _ (fun(_:Unit)=>#[Value.int .i64 v]) () X Y row h2 hg (fun r e=>(hr r e).2)⟩) (ownFrom_below (Nat.le_refl _) (by omega))
 case o2=>exact fun c=>ownFrom_pure _ _
 case o3=>exact⟨⟨0,fun _=>⟨rfl,Nat.le_refl _⟩,c0⟩,hB0⟩
 case o4=>
  rintro x a' _ X Y row ⟨Bx,e1,e2,e3⟩ hg hr;exact⟨Bx,e1,cellsAt_own _ _ (fun(_:Unit)=>ptC x) () X Y row e2 hg (fun r e=>(hr r e).2),e3⟩
 case assign=>
  rintro l pre ⟨pk,pn,pa,ps⟩ W K ⟨⟨v,hv,q0⟩,hB1⟩ hK;have HK:=hid hK;have HP:=hid (And.intro hv q0);have HB:=hid hB1;have hlt:=hB1.size;have hlt3:=q0.lt;clear hK hv q0 hB1;unfold ptV;gi_wp2
  exact HK.o _ _ ((KeepsOthers.alloc _ _).from _) (keepsC_below _ ((Below.refl _ W).alloc (Nat.le_refl _) _)) ⟨⟨v,HP.o.1,HP.o.2.alloc _⟩,HB.o.alloc hlt _⟩ ⟨W.heap.size,by omega,heap_alloc_new W _,rfl⟩
 case body=>
  rintro l pre ⟨pk,pn,pa,ps⟩ a' W hl ⟨r,hr⟩ ⟨⟨v,hv,q0⟩,hB1⟩ ⟨Bx,hBx,bX,rfl⟩ hlt;have HP:=hid (And.intro hv q0);have HB:=hid hB1;have HL:=hid hlt;have x3:=cell_of_row W Bx 3 _ _ _ bX;have y0:=cell_of_row W _ 0 _ _ _ q0;have z0:=frozen_of_row W _ 0 _ _ q0;unfold ptC at x3;clear hl hr bX hv q0 hB1 hlt;unfold ptV;gi_wp2
  refine⟨(KeepsOthers.setCell _ _ _).from _,fun k hk c t fr h=>(Go.heap_setCell_other W ⟨w.heap.size,0,none⟩ k _ (show k≠w.heap.size by omega)).trans h,⟨_,fun hs=> ?_,Go.heap_setCell_same W _ 0 _ _ _ HP.o.2⟩,HB.o.setCell (Nat.le_refl _) _⟩;obtain⟨e1,e2⟩:=HP.o.1 fun p hp=>hs p (List.mem_append.2 (Or.inl hp));have e3:=hs ⟨pk,pn,pa,ps⟩ (List.mem_append.2 (Or.inr (List.mem_singleton.2 rfl)));have e4:=HL.o;dsimp only at e3;simp only[List.map_append,List.sum_append,List.map_cons,List.map_nil,List.sum_cons,List.sum_nil,Nat.add_zero,List.length_append,List.length_singleton];generalize (pre.map fun p=>p.s).sum=S at*;subst e1;constructor
  ·unfold wrap64;omega
  ·omega
 case done=>
  rintro D zs W hD rfl ⟨⟨v,hv,q0⟩,hB1⟩ hK;have y0:=cell_of_row W _ 0 _ _ _ q0;obtain rfl:v=23168:=by rw[(hv Gd.parts_small).1,Gd.parts_size];rfl
  have HQ:=hid q0;have HK:=hid (And.intro hB1 hK);clear hv q0 hB1 hK;gi_wp2
  have y0:(W.putObj D (.deferred none)).cell? ⟨w.heap.size,0,none⟩=some (.int .i64 23168):=cell_of_row _ _ 0 _ _ _ ((World.putObj_heap_other (show w.heap.size≠D by omega)).trans HQ.o);refine⟨by simp,.inl ⟨_,_,rfl,run_takeDeferred HK.o.2,?_⟩⟩;refine⟨.int .i64 23168,?_,rfl,HK.o.1.trans ?_⟩
  ·simp[results,f38,go_sem]
  ·exact belowK_b (w:=w) (Nat.le_refl _) _ D _ _ (by omega) HK.o.2 rfl rfl
 case stop=>
  rintro D c pre W hD hpre hF hK;exact hF.elim
end
section
open Go.Shelf
attribute [local go_sem] Oper.semAt_some
theorem le_get{N:Nat}(hN:N<9223372036854775808):Gd.get (Gd.le N 8) 0 8=N:=by
 have e:Gd.getN (Gd.le N 8) 0 8=N:=by
  unfold Gd.getN;rw[List.drop_zero,List.take_of_length_le (by rw[Gd.le_length];exact Nat.le_refl _)];exact Gd.unle_le 8 N (by omega)
 unfold Gd.get Gd.getB;rw[Gd.le_length,show(0:Int).toNat=0 from rfl,e];simp
 omega
theorem end_any{g m K N:Nat}{S:List UInt8}{F:Nat→Prop}(hN:N≤4088)(w:World)(hM:MemF m S K w F)(hL:LogAt w g m 2688 4096)(hS:S.length=23168)(he:Gd.part S 2688 8=Gd.le N 8):
 Calls prog 129 #[.pointer (some ⟨g,0,none⟩)] w fun e w'=>e= .returned (.int .i64 N)∧Below w.heap.size w w':=by
 have hbd:=(Below.refl w.heap.size w).drew;have HLd:=hid (mload_any 2688 8 w.drew ((MemF.held m S K).below hM hbd) (by omega) (by omega));rw[he]at HLd;obtain⟨c0,c1,c2⟩:=cell2 hL;have HLg:Hid (LogAt w.drew g m 2688 4096):=hid ((hbd.block g (lt_get hL)).trans hL);have HBd:=hid hbd;have HGg:=hid (fun N (h:N<9223372036854775808)=>@le_get N h);clear hM hL hbd;go_enter func129,ntmps129;go_wp2;go_region_with (go_at_call 80;refine HLd.o.mono ?_;rintro e w1 ⟨v,rfl,ho,hb⟩;have HO:=hid ho;have HB:=hid hb;clear ho hb)
 all_goals
  have HGt:=hid (get_any v (Gd.le N 8) 0 8 (Or.inr (Or.inr (Or.inr rfl))) (nat_I64 (n:=0) (by omega)) w1 HO.o.at_ (by rw[Gd.le_length];omega));rw[HGg.o N (by omega)]at HGt;obtain⟨_,_,d2⟩:=cell2 ((HB.o.block g (lt_get HLg.o)).trans HLg.o);have e1:(N:Int)≤4088:=by omega
  have HW:Hid (Below w.heap.size w w1):=hid (HBd.o.trans (HB.o.mono HBd.o.size));clear HLd HO HGg c0 c1 c2;simp only[Exit.then]
  (first|(refine(by assumption:∀(a:Act) (w:World),_) _ _ ?_)|skip)
  go_wp2_with fail
  refine HGt.o.mono ?_;rintro e w2 ⟨rfl,rfl⟩;go_wp2;go_ret
  exact⟨rfl,HW.o⟩
end
section
open Go.Shelf
attribute [local go_sem] Oper.semAt_some
def Mem3(sb lb ab:Nat)(k:Nat):Prop:=k=sb∨k=lb∨k=ab
theorem LogAt.apartX{w:World}{g m sb lb ab n K la ls:Nat}{S:List UInt8}{X:Nat→Prop}(hL:LogAt w g m la ls)(h:MemX w m sb lb ab n S K X):¬Mem3 sb lb ab g:=by
 obtain⟨k,D,_,⟨es,ck,hm,_⟩,_⟩:=h.away;obtain⟨Z,hZ,hl⟩:=h.lasts;obtain⟨T2,h2⟩:=h.seenE;unfold LogAt at hL;rintro(e|e|e)
 ·rw[e,h2]at hL;exact absurd (Obj.cells.inj (Option.some.inj hL)).2.1 (by decide)
 ·rw[e,hl]at hL;exact absurd (Obj.cells.inj (Option.some.inj hL)).2.1 (by decide)
 ·rw[e,hm]at hL
  cases hL
theorem LogAt.apart{w:World}{g m sb lb ab n K la ls:Nat}{S:List UInt8}(hL:LogAt w g m la ls)(h:MemAt w m sb lb ab n S K):¬Mem3 sb lb ab g:=hL.apartX h.toMemX
theorem LogAt.keep{w w':World}{g m la ls:Nat}{F:Nat→Prop}(h:LogAt w g m la ls)(hO:Only F w w')(hn:¬F g):LogAt w' g m la ls:=(hO.block g (lt_get h) hn).trans h
theorem lkeep_at{g m sb lb ab n K la ls:Nat}{S:List UInt8}(a:Nat)(v:Value)(b:List UInt8)(w:World)(h:MemAt w m sb lb ab n S K)(hL:LogAt w g m la ls)(hb:BytesAt w v b)(hap:∀q,v.ownBlock=some q→q≠sb∧q≠ab)(hak:a+b.length≤S.length)(hk:b.length≤100000)(hK:K<900000000000):
 Calls prog 93 #[.pointer (some ⟨g,0,none⟩),.int .i64 a,v] w fun e w'=>e= .returned (.tuple #[])∧MemAt w' m sb lb ab n (Gd.splice S a b) (K+20000)∧Only (Mem3 sb lb ab) w w':=by
 have HSt:=hid (mstore_at a v b w (h.strict (by omega)) hb hap hak hk);have HFl:Hid (∀w1,MemX w1 m sb lb ab n (Gd.splice S a b) K (fun q=>NoX q∨touched a b.length q)→Calls prog 96 #[.pointer (some ⟨m,0,none⟩),.int .i64 a,.int .i64 b.length] w1 fun e w'=>e= .returned (.int .i64 0)∧MemT w' m sb lb ab n (Gd.splice S a b) (K+20000)∧Only (fun k=>k=ab) w1 w'):=hid fun w1 h1=>flush_at a b.length w1 h1 (fun q hq=>hq.elim (fun e=>e.elim) touched_line) (by rw[Gd.splice_length hak];exact hak) hk hK;have HN:=hid (hL.apart h);have HL:=hid hL;have HI:Hid (a+b.length≤1048576∧b.length≤100000):=hid ⟨by have:=h.len;have:=h.small;omega,hk⟩;obtain⟨c0,c1,c2⟩:=cell2 hL;obtain⟨A,c,rfl,-⟩:=hb;clear h hL hap hak hk hK;go_enter_defers func93,ntmps93
 go_wp2_with fail
 refine HSt.o.mono ?_;rintro e w1 ⟨rfl,hM1,hO1⟩;have HM1:=hid hM1;have HO1:=hid (hO1.mono (G:=Mem3 sb lb ab) fun k _ e=>e.elim Or.inl (fun e=>Or.inr (Or.inr e)));have HL1:=hid (HL.o.keep HO1.o HN.o);obtain⟨d0,d1,d2⟩:=cell2 HL1.o;clear hM1 hO1 c0 c1 c2 HSt;go_wp2_with fail
 refine(HFl.o w1 HM1.o).mono ?_
 rintro e w2 ⟨rfl,hM2,hO2⟩;have HM2:=hid hM2;have HO2:=hid (HO1.o.trans hO2 fun k _ e=>Or.inr (Or.inr e));clear hM2 hO2 d0 d1 d2 HFl;go_wp2;refine leaves_cons (f:=97) (args:=#[.pointer (some ⟨m,0,none⟩)]) (by simp) (by simp[go_sem]) ?_;refine(fence_atD .returning w2 HM2.o).mono ?_
 rintro e u' w3 ⟨rfl,rfl,hM3,hO3⟩;exact⟨_,results_none rfl _ _ _,rfl,hM3,HO2.o.trans hO3 fun k _ e=>e.elim (fun e=>Or.inr (Or.inl e)) (fun e=>Or.inr (Or.inr e))⟩
theorem made8(W:World):(Instr.makeSlice 23 (.int .i64 8) (.int .i64 8)).run prog W= .ok (.slice (some ⟨W.heap.size,0,none⟩) 8 8) (W.alloc (.cells (cellsB (List.replicate 8 0)) 5)):=by
 obtain⟨i0,hi,hz0,hz1,hz2⟩:=info_parts infoU8;have:=run_makeSlice (P:=prog) (w:=W) 23 5 i0 _ underlying23 hi hz0 .i64 .i64 8 8 (by omega) (by omega) (by rw[hz1];decide) (by rw[hz2];omega) (by omega)
 rw[hz1,show madeCells (Value.int .u8 0).cells (Int.toNat 8*1)=cellsB (List.replicate 8 0) from by first|kernel_rfl|rfl|decide]at this;exact this
theorem made_at(W:World)(L:List UInt8)(c:Nat):BytesAt (W.alloc (.cells (cellsB L) 5)) (.slice (some ⟨W.heap.size,0,none⟩) L.length c) L:=
 ⟨_,_,rfl,Or.inr ⟨_,0,rfl,by simp,fun j x hx=>by
  rw[Nat.zero_add];exact(cell_of_row _ _ j _ _ _ (heap_alloc_new W _)).trans (cellsB_get hx)⟩⟩
theorem clear_at{g m sb lb ab n K:Nat}{S:List UInt8}(w:World)(h:MemAt w m sb lb ab n S K)(hL:LogAt w g m 2688 4096)(hS:S.length=23168)(hK:K<900000000000):
 Calls prog 98 #[.pointer (some ⟨g,0,none⟩)] w fun e w'=>e= .returned (.tuple #[])∧MemAt w' m sb lb ab n (Gd.splice S 2688 (List.replicate 8 0)) (K+20000)∧Only (Mem3 sb lb ab) w w':=by
 have hbd:=(Below.refl w.heap.size w).drew;have hsz:=hbd.size;have hMd:MemAt w.drew m sb lb ab n S K:=h.keep fun k hk=>hbd.block k (h.lts k hk);have hLd:LogAt w.drew g m 2688 4096:=(hbd.block g (lt_get hL)).trans hL;have HLt:=hid hMd.lts;have HKp:Hid (∀W v,Below w.drew.heap.size w.drew W→BytesAt W v (List.replicate 8 0)→(∀q,v.ownBlock=some q→w.drew.heap.size≤q)→Calls prog 93 #[.pointer (some ⟨g,0,none⟩),.int .i64 2688,v] W fun e w'=>e= .returned (.tuple #[])∧MemAt w' m sb lb ab n (Gd.splice S 2688 (List.replicate 8 0)) (K+20000)∧Only (Mem3 sb lb ab) w w'):=hid fun W v hb hv hq=>by
  refine(lkeep_at 2688 v (List.replicate 8 0) W (hMd.keep fun k hk=>hb.block k (hMd.lts k hk)) ((hb.block g (lt_get hLd)).trans hLd) hv (fun q hqq=> ?_) (by simp;omega) (by simp) hK).mono ?_
  ·have h1:=hq q hqq;have h2:=hMd.lts sb (by simp);have h3:=hMd.lts ab (by simp);omega
  ·rintro e w' ⟨he,hM,hO⟩;exact⟨he,hM,((below_only hbd _).trans (below_only hb _) fun _ _ e=>e).trans hO fun _ _ e=>e⟩
 have hmk:=made8 w.drew;have hba:=made_at w.drew (List.replicate 8 0) 8;have hbl:=(Below.refl w.drew.heap.size w.drew).alloc (Nat.le_refl _) (.cells (cellsB (List.replicate 8 0)) 5);generalize w.drew.alloc (.cells (cellsB (List.replicate 8 0)) 5)=wm at hmk hba hbl;have HKq:=hid (HKp.o wm (.slice (some ⟨w.drew.heap.size,0,none⟩) 8 8) hbl hba (fun q hq=>by cases hq;exact Nat.le_refl _));obtain⟨c0,c1,c2⟩:=cell2 hLd;obtain⟨d0,d1,d2⟩:=cell2 ((hbl.block g (lt_get hLd)).trans hLd);clear h hL hMd hLd hbd HKp hba hbl;go_enter func98,ntmps98;go_wp2;go_region_with (go_at_call 93;refine HKq.o.mono ?_;rintro e w' ⟨rfl,hM,hO⟩)
 all_goals
  try simp only[Exit.then]
  go_end0
  exact⟨rfl,hM,hO⟩
end
section
open Go.Lib
theorem zeros_cells(k:Nat):(Builtin.zeroCells (Value.int .u8 0).cells k).toList=Lib.byteCells (List.replicate k 0):=by
 have hz:(Value.int IntKind.u8 0).cells=#[Value.int .u8 0]:=rfl;rw[hz];unfold Builtin.zeroCells Lib.byteCells;rw[Array.toList_map,Array.toList_range];apply List.ext_getElem?
 intro j;rw[List.getElem?_map,List.getElem?_map];by_cases h:j<k
 ·rw[List.getElem?_range (by simpa using h),List.getElem?_replicate,if_pos h];simp[Nat.mod_one]
 ·rw[List.getElem?_eq_none (by simpa using h),List.getElem?_eq_none (by simpa using h)];rfl
theorem zeros_one(k:Nat):∀u∈Lib.byteCells (List.replicate k 0),u.oneCell'=true:=by
 intro u hu;simp only[Lib.byteCells,List.mem_map]at hu;obtain⟨b,_,rfl⟩:=hu;rfl
theorem byteCells_len'(L:List UInt8):(Lib.byteCells L).length=L.length:=by
 unfold Lib.byteCells;rw[List.length_map]
section
variable {P:Program} (w:World)
theorem run_append_room_zeros(t tn ty e:TypeId)(i:TypeInfo)(kq kn:IntKind)(ht:P.underlying t=some (.slice e))(htn:P.underlying tn=some (.int kn))(hi:P.info? e=some i)(hz:i.zero=some (.int .u8 0))(hs1:i.size=1)(hby:i.bytes=1)
 (g sLen sCap:Nat)(cur:Array Value)(hg:w.heap[g]? =some (.cells cur e (0,0)))(k:Nat)(h0:0<k)(hk:k≤1000000)
 (hroom:sLen+k≤sCap)(hfit:sLen+k≤cur.size):
 (Builtin.append_ #[t,tn] ty #[.slice (some ⟨g,0,none⟩) sLen sCap,.int kq k]).run P w=
   .ok (.slice (some ⟨g,0,none⟩) (sLen+k) sCap) (w.setRow g (cur.toList.take sLen++Lib.byteCells (List.replicate k 0)++cur.toList.drop (sLen+k)).toArray):=by
 have hw:IntKind.i64.wrap (k:Int)=k:=by rw[IntKind.wrap_i64];omega
 have h48i:¬(281474976710656<(k:Int)):=by omega
 have hneg:¬((k:Int)<0):=by omega
 have hk0:k≠0:=by omega
 have hst:=run_storeCells_at P g sLen e (Lib.byteCells (List.replicate k 0)) 0 cur w hg (by simpa [byteCells_len']using hfit) (zeros_one k);simp only[Nat.add_zero,byteCells_len',List.length_replicate]at hst;have hzc:=zeros_cells k;simp[Builtin.append_,run_underlying ht,run_underlying htn,sizeOf,typeInfo,zeroValue,hi,hz,hs1,hby,asInt,asIntOf,hw,hroom,hneg,hk0,h48i,Addr.add_lit,hst,hzc]
theorem run_append_own_zeros(base:Nat)(t tn ty e:TypeId)(i:TypeInfo)(kq kn:IntKind)(ht:P.underlying t=some (.slice e))(htn:P.underlying tn=some (.int kn))(hi:P.info? e=some i)(hz:i.zero=some (.int .u8 0))(hsize:i.size=1)(hby:i.bytes=1)
 (v:Value)(n:Nat)(xs:List Value)(hown:w.ownsRow base e 1 v n xs)(k:Nat)(hk:n+k≤1000000)(hbase:base≤w.heap.size):
 ∃v' w',(Builtin.append_ #[t,tn] ty #[v,.int kq k]).run P w= .ok v' w'∧w'.ownsRow base e 1 v' (n+k) (xs++Lib.byteCells (List.replicate k 0))∧w.grownBy w' v.ownBlock:=by
 have hxl:xs.length=n:=by simpa using hown.1
 have hbl:(Lib.byteCells (List.replicate k 0)).length=k:=by rw[byteCells_len',List.length_replicate]
 have hlen:(xs++Lib.byteCells (List.replicate k 0)).length=(n+k)*1:=by rw[List.length_append,hxl,hbl,Nat.mul_one]
 by_cases h0:k=0
 ·subst h0;refine⟨v,w,?_,by simpa [Lib.byteCells]using hown,⟨rfl,rfl,rfl,Nat.le_refl _,fun _ _ _=>rfl⟩⟩;have hw0:IntKind.i64.wrap 0=0:=by rw[IntKind.wrap_i64];omega
  rcases hown.2 with⟨rfl,rfl⟩|⟨g,cap,cur,rfl,hbg,hg,hnc,hcm,hcs,htake⟩
  ·simp[Builtin.append_,run_underlying ht,run_underlying htn,sizeOf,typeInfo,hi,hsize,hby,asInt,asIntOf,hw0]
  ·simp[Builtin.append_,run_underlying ht,run_underlying htn,sizeOf,typeInfo,hi,hsize,hby,asInt,asIntOf,hw0,hnc,storeCells]
 have grown:∀(old:Nat),old<n+k→∀(row:Option Nat),
  (w.drew.alloc (.cells (xs.toArray++Builtin.zeroCells (Value.int .u8 0).cells k++Builtin.zeroCells (Value.int .u8 0).cells (grownCap w (n+k) old e-(n+k))) e)).ownsRow base e 1
    (.slice (some ⟨w.heap.size,0,none⟩) (n+k) (grownCap w (n+k) old e)) (n+k) (xs++Lib.byteCells (List.replicate k 0))∧
  w.grownBy (w.drew.alloc (.cells (xs.toArray++Builtin.zeroCells (Value.int .u8 0).cells k++Builtin.zeroCells (Value.int .u8 0).cells (grownCap w (n+k) old e-(n+k))) e)) row:=by
  intro old ho row;have hge:=grownCap_ge w (n+k) old e;have hcm:grownCap w (n+k) old e≤maxLen:=grownCap_le_maxLen w (n+k) old e (by unfold maxLen;omega);refine⟨⟨hlen,.inr ⟨w.heap.size,_,_,rfl,hbase,heap_alloc_new w.drew _,hge,hcm,?_,?_⟩⟩,⟨rfl,rfl,rfl,by simp,fun j hj _=>Below.heap_alloc w.drew _ j hj⟩⟩
  ·have hz1:(Value.int IntKind.u8 0).cells.size=1:=rfl;simp only[Array.size_append,List.size_toArray,size_zeroCells,hz1,hxl];omega
  ·simp only[Array.toList_append,zeros_cells,List.append_assoc];rw[←List.append_assoc,←hlen];exact List.take_left
 rcases hown.2 with⟨rfl,rfl⟩|⟨g,cap,cur,rfl,hbg,hg,hnc,hcm,hcs,htake⟩
 ·have hx:xs=[]:=List.eq_nil_of_length_eq_zero hxl;subst hx;have hr:=run_append_nil_zeros (P:=P) w t tn ty e i (.int .u8 0) kq kn ht htn hi hz k (by omega) (by omega) (by omega) (by rw[hby];omega);have hgr:=grown 0 (by omega) (Value.ownBlock (.slice none 0 0));simp only[Nat.zero_add,List.nil_append,Array.empty_append]at hgr⊢;exact⟨_,_,hr,hgr.1,hgr.2⟩
 ·by_cases hroom:n+k≤cap
  ·have hcs':cur.size=cap:=by simpa using hcs
   have hr:=run_append_room_zeros (P:=P) w t tn ty e i kq kn ht htn hi hz hsize hby g n cap cur hg k (by omega) (by omega) hroom (by omega);refine⟨_,_,hr,⟨hlen,.inr ⟨g,cap,_,rfl,hbg,setRow_heap w g cur _ e _ hg,hroom,hcm,?_,?_⟩⟩,⟨rfl,rfl,rfl,by simp,fun j _ hj=>setRow_other w g j _ (fun e=>hj (by simp[Value.ownBlock,e]))⟩⟩
   ·simp only[List.size_toArray,List.length_append,List.length_take,List.length_drop,Array.length_toList,hbl];omega
   ·have ht':cur.toList.take n=xs:=by simpa using htake
    rw[ht',←hlen];exact List.take_left
  ·have holds:∀j u,xs[j]? =some u→w.drew.cell? ((⟨g,0,none⟩:Addr).add j)=some u:=hown.cells (g:=g) rfl;have hf:=run_firstCells_some (P:=P) w.drew i.size n ⟨g,0,none⟩ n cap xs (by rw[hsize];simpa using hxl) holds;have hr:=run_append_grow_zeros (P:=P) w t tn ty e i (.int .u8 0) kq kn ht htn hi hz (some ⟨g,0,none⟩) n cap xs hf k (by omega) (by omega) (by omega) (by omega) (by rw[hby];omega) (by rw[hby];exact growslice_fits (by omega) (by omega));have hgr:=grown cap (by omega) (Value.ownBlock (.slice (some ⟨g,0,none⟩) n cap));exact⟨_,_,hr,hgr.1,hgr.2⟩
end
theorem intU:prog.underlying 3=some (.int .i64):=underlying3
theorem app_zeros{ops:Array Oper}{rest:List Oper}{o:Oper}{a:Act}{Q:Exit→Act→World→Prop}(hgd:o.guard=none)(s x:Operand)(ho:o.op= .call {callee:= .builtin .append,args:=#[s,x],argTypes:=#[23,3]})
 (B:Nat)(v:Value)(L:List UInt8)(w0:World)(hs:a.eval s=v)(hown:OwnB w0 B v L)(k:Nat)(ck:Int)(hx:a.eval x= .int .i64 ck)(hck:ck=k)(hlen:L.length+k≤1000000)(hB:B≤w0.heap.size)
 (h:∀v' w',OwnB w' B v' (L++List.replicate k 0)→Below B w0 w'→wpList prog ops Q rest (a.put o.dst v') w'):wpList prog ops Q (o::rest) a w0:=by
 subst hck;obtain⟨i0,hi,hz0,hz1,hz2⟩:=info_parts infoU8;have hb:=own_block hown;obtain⟨v',w',hr,h1,h2⟩:=run_append_own_zeros (P:=prog) w0 B 23 3 o.type 5 i0 .i64 .i64 underlying23 intU hi hz0 hz1 hz2 v L.length (Lib.byteCells L) hown k hlen hB;refine wpList_append_run w0 hgd s x _ _ ho v _ hs hx v' w' hr (h v' w' ?_ (below_grown h2 hB fun k hk=>(hb k hk).1));unfold OwnB;rw[List.length_append,List.length_replicate,←byteCells_app];exact h1
end
section
open Go.Shelf
attribute [local go_sem] Oper.semAt_some
theorem putn_any(v:Value)(L:List UInt8)(n k:Nat)(hk:Gd.wid k)(hn:n<256^k)(hn2:n≤9223372036854775807)(w:World)(h:BytesAt w v L)(hl:L.length≤900000):Calls prog 94 #[v,.int .i64 n,.int .i64 k] w (GivesB w (L++Gd.le n k)):=by
 have:=put_any v L n k hk (nat_I64 hn2) w h hl
 unfold Gd.put at this;rw[if_pos (by unfold Gd.fitsB;rw[decide_eq_true (show(0:Int)≤n by omega),Bool.true_and,decide_eq_true (show(n:Int)<((256^k:Nat):Int) by omega),Bool.or_true]),Int.toNat_natCast]at this;exact this
theorem strCells_bytes(L:List UInt8):Lib.strCells ⟨L.toArray⟩=Lib.byteCells L:=rfl
theorem app_str{ops:Array Oper}{rest:List Oper}{o:Oper}{a:Act}{Q:Exit→Act→World→Prop}(hgd:o.guard=none)(s x:Operand)(ho:o.op= .call {callee:= .builtin .append,args:=#[s,x],argTypes:=#[23,9]})
 (B:Nat)(v:Value)(L:List UInt8)(w0:World)(hs:a.eval s=v)(hown:OwnB w0 B v L)(M:List UInt8)(sM:ByteArray)(hsM:sM=⟨M.toArray⟩)(hx:a.eval x= .string sM)(hlen:L.length+M.length≤1000000)(hB:B≤w0.heap.size)
 (h:∀v' w',OwnB w' B v' (L++M)→Below B w0 w'→wpList prog ops Q rest (a.put o.dst v') w'):wpList prog ops Q (o::rest) a w0:=by
 obtain⟨i0,hi,hz0,hz1,hz2⟩:=info_parts infoU8;have hb:=own_block hown;subst hsM;have hsz:(⟨M.toArray⟩:ByteArray).size=M.length:=rfl;refine Lib.wpList_append_own_string w0 hgd s x _ _ ho B 5 i0 underlying23 underlying9 hi hz0 hz1 hz2 v L.length (Lib.byteCells L) hs hown ⟨M.toArray⟩ hx (by rw[hsz];unfold maxLen;omega) (by rw[hsz];omega) hB ?_;intro v' w' h1 h2 _;refine h v' w' ?_ (below_grown h2 hB fun k hk=>(hb k hk).1);unfold OwnB;rw[hsz,strCells_bytes]at h1;rw[List.length_append,←byteCells_app];exact h1
def PasAt(w:World)(v:Value)(P:List Gd.Pa):Prop:=∃A c,v= .slice A P.length c∧((A=none∧P=[])∨∃b,A=some ⟨b,0,none⟩∧b<w.heap.size∧∀(k:Nat) (p:Gd.Pa),P[k]? =some p→w.cell? ⟨b,k*2,none⟩=some (.int .i64 p.1)∧w.cell? ⟨b,k*2+1,none⟩=some (.string ⟨p.2.toArray⟩))
theorem pas_step{P:List Gd.Pa}{i:Nat}{p:Gd.Pa}(h:P[i]? =some p):Gd.pasB (P.take (i+1))=Gd.pasB (P.take i)++Gd.le p.1 4++Gd.le p.2.length 2++p.2:=by
 rw[Gd.take_next h,Gd.pasB_snoc];unfold Gd.paB;simp only[List.append_assoc]
theorem pas_len:∀{P:List Gd.Pa} (_:∀p∈P,Gd.PaMay p),(Gd.pasB P).length≤P.length*262
 |[],_=>Nat.le_refl _
 |p::r,h=>by
  have h1:=pas_len (P:=r) fun q hq=>h q (List.mem_cons_of_mem _ hq);have h2:=(h p (List.mem_cons_self ..)).2;show(Gd.paB p++Gd.pasB r).length≤_
  rw[List.length_append,Gd.paB_length,List.length_cons];omega
theorem encode_any(v:Value)(P:List Gd.Pa)(w:World)(h:PasAt w v P)(hP:∀p∈P,Gd.PaMay p)(hn:P.length≤64):
 Calls prog 90 #[v] w (Loads w (Gd.recB P)):=by
 obtain⟨A,c,rfl,hrow⟩:=h;have HR:=hid hrow;have HP:=hid hP;obtain⟨n,hnn⟩:=nm P.length;have HPl:=hid (pas_len hP);rw[←hnn]at hn⊢;have Hn:=hid hnn;have HPt:=hid (putn_any (.slice none 0 0) [] n 2 (Or.inr (Or.inl rfl)) (by omega) (by omega) w (OwnB.at_ (B:=0) (World.ownsRow_nil _ _ _ _)) (by simp));have HPl2:Hid (∀i,(Gd.pasB (P.take i)).length≤64*262):=hid fun i=>by
  have h1:=pas_len (P:=P.take i) fun q hq=>hP q (List.mem_of_mem_take hq);rw[List.length_take]at h1;have:min i P.length≤64:=by omega
  have:=Nat.mul_le_mul_right 262 this
  omega
 clear hrow hP hnn;go_enter func90,ntmps90;go_wp2_with fail
 refine HPt.o.mono ?_;rintro e w1 ⟨v1,rfl,ho1,hb1⟩;rw[List.nil_append]at ho1;have HO1:=hid ho1;have HB1:=hid hb1;clear ho1 hb1 HPt;go_upto_region 5 with fail
 go_loopw[4,15] (fun u z wr=>∃i:Nat,z= .int .i64 i∧i≤n∧Hid (OwnB wr w.heap.size u (Gd.le n 2++Gd.pasB (P.take i)))∧Hid (Below w.heap.size w wr)) (fun _ z _=>n-(intOf z).toNat)
 case atStart=>exact⟨0,rfl,by omega,hid (by rw[List.take_zero];show OwnB _ _ _ (Gd.le n 2++[]);rw[List.append_nil];exact HO1.o),HB1⟩
 case round=>
  obtain⟨i,rfl,hin,HO,HB⟩:=hrel;by_cases hlt:i<n
  ·obtain⟨p,hp⟩:∃p,P[i]? =some p:=⟨_,List.getElem?_eq_getElem (by have:=Hn.o;omega)⟩;rcases HR.o with⟨_,h0⟩|⟨b,rfl,hbl,hcell⟩
   ·rw[h0]at hp;simp at hp
   obtain⟨q0,q1⟩:=hcell i p hp;have r0:=(HB.o.cell (p:=⟨b,i*2,none⟩) hbl).trans q0;have r1:=(HB.o.cell (p:=⟨b,i*2+1,none⟩) hbl).trans q1;have h1:(i:Int)<n:=by omega
   have h0:(0:Int)≤i:=by omega
   have HX:=hid hp;have Hpm:=hid (HP.o p (List.mem_of_getElem? hp));clear hp hcell q0 q1 hlt;go_upto_region 7 with fail
   obtain⟨q,hq⟩:=nm p.1;obtain⟨s,hs⟩:∃s:ByteArray,s=⟨p.2.toArray⟩:=⟨_,rfl⟩;obtain⟨l,hl⟩:=nm p.2.length;have hsz:s.size=l:=by rw[hs,hl];rfl
   rw[←hq,←hs];obtain⟨wz,hwz⟩:=nm (wr.alloc (.cells #[.int .i64 q,.string s] 152));rw[←hwz];have hbz:Below wr.heap.size wr wz:=by rw[hwz];exact(Below.refl _ _).alloc (Nat.le_refl _) _
   have hz:wz.heap[wr.heap.size]? =some (.cells #[.int .i64 q,.string s] 152 (0,0)):=by rw[hwz];exact heap_alloc_new _ _
   obtain⟨zb,hzb⟩:=nm wr.heap.size;rw[←hzb]at hz⊢;have HZ:=hid hz;have z0:=cell_of_row wz zb 0 _ _ _ hz;have z1:=cell_of_row wz zb 1 _ _ _ hz;have HBz:Hid (Below w.heap.size w wz):=HB.t hbz;have HOz:=hid (HO.o.keep hbz);have HQ:=hid (And.intro hq (And.intro hs hl));have hl2:(l:Int)≤256:=by have:=Hpm.o.2;omega
   have HLn:Hid ((Gd.le n 2++Gd.pasB (P.take i)).length≤17000):=hid (by rw[List.length_append,Gd.le_length];have:=HPl2.o i;omega);have HFit:Hid (Calls prog 127 #[.int .i64 q,.int .i64 (4:Nat)] wz fun e w'=>e= .returned (.bool true)∧w'=wz):=hid (by
    have hp1:=Hpm.o.1;have:=fits_any (q:Int) 4 (Or.inr (Or.inr (Or.inl rfl))) (nat_I64 (by omega)) wz
    rw[show Gd.fitsB (q:Int) 4=true by unfold Gd.fitsB;simp;omega]at this;exact this)
   have HP1:=hid (putn_any u4 _ q 4 (Or.inr (Or.inr (Or.inl rfl))) (by have:=Hpm.o.1;omega) (by have:=Hpm.o.1;omega) wz HOz.o.at_ (by have:=HLn.o;omega));clear hwz hbz hz r0 r1 hq hs hl hzb;go_wp2_with fail
   refine HFit.o.mono ?_;rintro e w3 ⟨rfl,rfl⟩;clear HFit;go_wp2_with fail
   refine HP1.o.mono ?_;rintro e w4 ⟨v4,rfl,ho4,hb4⟩;have HO4:=hid (ho4.mono HBz.o.size);have HB4:=HBz.t hb4;have HZ4:=hid ((hb4.block zb (lt_get HZ.o)).trans HZ.o);clear ho4 hb4 HP1 z0 z1;have z0:=cell_of_row w4 zb 0 _ _ _ HZ4.o;have z1:=cell_of_row w4 zb 1 _ _ _ HZ4.o;have HP2:=hid (putn_any v4 _ l 2 (Or.inr (Or.inl rfl)) (by omega) (by omega) w4 HO4.o.at_ (by rw[List.length_append,Gd.le_length];have:=HLn.o;omega));go_wp2_with fail
   refine HP2.o.mono ?_;rintro e w5 ⟨v5,rfl,ho5,hb5⟩;have HO5:=hid (ho5.mono HB4.o.size);have HB5:=HB4.t hb5;have HZ5:=hid ((hb5.block zb (lt_get HZ4.o)).trans HZ4.o);clear ho5 hb5 HP2 z0 z1;have z0:=cell_of_row w5 zb 0 _ _ _ HZ5.o;have z1:=cell_of_row w5 zb 1 _ _ _ HZ5.o;go_wp2_with(at_builtin;refine app_str rfl _ _ rfl w.heap.size v5 _ w5 rfl HO5.o p.2 s HQ.o.2.1 rfl (by rw[List.length_append,List.length_append,Gd.le_length,Gd.le_length];have:=HLn.o;have:=Hpm.o.2;omega) HB5.o.size ?_;intro v6 w6 ho6 hb6)
   have HO6:Hid (OwnB w6 w.heap.size v6 (Gd.le n 2++Gd.pasB (P.take (i+1)))):=hid (by
    rw[pas_step HX.o];simp only[←List.append_assoc];rw[←HQ.o.1,←HQ.o.2.2];exact ho6)
   have HB6:=hid (HB5.o.trans hb6);clear ho6 hb6 z0 z1;go_wp2;go_roundw
   case rel=>exact⟨i+1,by go_num,by omega,HO6,HB6⟩
   case measure=>simp[intOf];omega
  ·obtain rfl:i=n:=by omega
   clear hlt;go_upto_region 13 with fail
   have HOb:Hid (OwnB wr w.heap.size u4 (Gd.recBody P)):=hid (by
    have:=HO.o
    rw[List.take_of_length_le (by have:=Hn.o;omega),Hn.o]at this;exact this)
   obtain⟨R,hR⟩:=nm (Gd.recBody P);rw[←hR]at HOb;have HLn:Hid (R.length≤17000):=hid (by
    rw[hR,Gd.recBody_length];unfold Gd.wt;have h1:=HPl.o;have h2:=Hn.o;have h3:P.length*262≤64*262:=Nat.mul_le_mul_right 262 (by omega);omega)
   have HE:Hid (Gd.recB P=R++Gd.le (Gd.crc R) 4++List.replicate (Gd.up8 (R.length+4)-(R.length+4)) 0):=hid (by rw[hR];rfl);have hcl:=Gd.crc_lt R;have HCr:=hid (crc_any u4 R wr HOb.o.at_ (by have:=HLn.o;omega));obtain⟨cc,hcc⟩:=nm (Gd.crc R);rw[←hcc]at HCr HE hcl;clear hR hcc HO;have hc2:(cc:Int)<4294967296:=by omega
   go_wp2_with fail
   refine HCr.o.mono ?_;rintro e w3 ⟨rfl,hb3⟩;have HB3:=HB.t hb3;have HO3:=hid (HOb.o.keep hb3);have HP3:=hid (putn_any u4 R cc 4 (Or.inr (Or.inr (Or.inl rfl))) (by omega) (by omega) w3 HO3.o.at_ (by have:=HLn.o;omega));clear hb3 HCr HOb;go_wp2_with fail
   refine HP3.o.mono ?_;rintro e w4 ⟨v4,rfl,ho4,hb4⟩;have HO4:=hid (ho4.mono HB3.o.size);have HB4:=HB3.t hb4;clear ho4 hb4 HP3 HO3;obtain⟨A4,c4,rfl,ht4⟩:=HO4.o.at_;have hl4:(R++Gd.le cc 4).length=R.length+4:=by rw[List.length_append,Gd.le_length]
   obtain⟨r,hr⟩:=nm ((R++Gd.le cc 4).length);rw[←hr]at hl4 HO4⊢;have hr2:r≤17004:=by have:=HLn.o;omega
   obtain⟨u,hu8⟩:=nm (Gd.up8 r);have hu:=Gd.up8_ge r;have HUp:=hid (up_any r (by omega) w4);rw[←hu8]at hu HUp;obtain⟨hu1,hu2,-⟩:=hu;have HRr:=hid hr;have HE2:Hid (Gd.recB P=R++Gd.le cc 4++List.replicate (u-r) 0):=hid (by rw[HE.o,←hl4,←hu8]);clear ht4 hl4 hu8 hr HE;go_wp2_with fail
   refine HUp.o.mono ?_;rintro e w5 ⟨rfl,rfl⟩;clear HUp;have f1:(r:Int)≤u:=by omega
   have f2:(u:Int)<r+8:=by omega
   go_wp2_with(at_builtin;refine app_zeros rfl _ _ rfl w.heap.size (.slice A4 r c4) _ w5 rfl HO4.o (u-r) _ rfl (by omega) (by have:=HRr.o;omega) HB4.o.size ?_;intro v6 w6 ho6 hb6)
   have HO6:=hid ho6;have HB6:=hid (HB4.o.trans hb6);clear ho6 hb6;go_wp2;go_ret2
   refine⟨v6,rfl,?_,HB6.o⟩;rw[HE2.o];exact HO6.o
end
namespace Gd
theorem dec_many{P:List Pa}(h:P.length≤64):getN (recB P) 0 2=P.length:=by
 have e:recB P=[]++(le P.length 2++(pasB P++(le (crc (recBody P)) 4++pad8 ((recBody P).length+4)))):=by
  unfold recB recBody;simp only[List.append_assoc,List.nil_append]
 rw[e];exact getN_mid [] _ P.length 2 (by omega)
theorem dec_at{P:List Pa}{k:Nat}{p:Pa}(h:P[k]? =some p)(hp:PaMay p):
 getN (recB P) (paOff P k) 4=p.1∧getN (recB P) (paOff P k+4) 2=p.2.length∧part (recB P) (paOff P k+4+2) p.2.length=p.2∧paOff P k+4+2+p.2.length≤(recB P).length:=by
 obtain⟨A,C,e,hA⟩:=recB_split h;have hp1:=hp.1;have hp2:=hp.2;have h4:(A++le p.1 4).length=paOff P k+4:=by rw[List.length_append,le_length,hA]
 have h6:(A++le p.1 4++le p.2.length 2).length=paOff P k+4+2:=by rw[List.length_append,h4,le_length]
 refine⟨?_,?_,?_,?_⟩
 ·rw[e,←hA];exact getN_mid A _ p.1 4 (by omega)
 ·rw[e,←h4,←List.append_assoc];exact getN_mid _ _ p.2.length 2 (by omega)
 ·rw[e,←h6,←List.append_assoc,←List.append_assoc];exact part_mid _ p.2 C
 ·rw[e,List.length_append,List.length_append,List.length_append,List.length_append,le_length,le_length,hA];omega
theorem dec_end(P:List Pa):getN (recB P) (recBody P).length 4=crc (recBody P)∧part (recB P) 0 (recBody P).length=recBody P∧(recB P).length=up8 ((recBody P).length+4)∧∀j,(recBody P).length+4≤j→j<(recB P).length→(recB P)[j]? =some 0:=by
 have e:recB P=recBody P++(le (crc (recBody P)) 4++pad8 ((recBody P).length+4)):=by
  unfold recB;rw[List.append_assoc]
 have hl:(recB P).length=up8 ((recBody P).length+4):=by
  rw[recB_length,recBody_length];congr 1
  omega
 refine⟨?_,?_,hl,fun j h1 h2=> ?_⟩
 ·rw[e];exact getN_mid _ _ _ 4 (by have:=crc_lt (recBody P);omega)
 ·rw[e];exact part_mid [] (recBody P) _
 ·have h3:=hl▸h2;rw[e,List.getElem?_append_right (by omega),List.getElem?_append_right (by rw[le_length];omega),le_length];unfold pad8;rw[List.getElem?_replicate,if_pos (by omega)]
end Gd
section
open Go.Shelf
attribute [local go_sem] Oper.semAt_some
structure DecSt(w0:World)(v:Value)(at_:Nat)(w:World):Prop where
 below:Below w0.heap.size w0 w
 c1:CellsAt w w0.heap.size 23 #[v]
 c2:CellsAt w (w0.heap.size+1) 3 #[.int .i64 at_]
 c3:CellsAt w (w0.heap.size+1+1) 4 #[.bool false]
theorem DecSt.read{w0 w w':World}{v:Value}{at_:Nat}(h:DecSt w0 v at_ w)(hb:Below w.heap.size w w'):DecSt w0 v at_ w':=
 ⟨h.below.trans (hb.mono h.below.size),(hb.block _ h.c1.lt).trans h.c1,(hb.block _ h.c2.lt).trans h.c2,(hb.block _ h.c3.lt).trans h.c3⟩
def Dec2(w0:World)(k:Nat):Prop:=k=w0.heap.size+1∨k=w0.heap.size+1+1
theorem next_any{w0:World}{v:Value}{at_:Nat}(L:List UInt8)(hv:BytesAt w0 v L)(k:Nat)(hk:Gd.wid k)(w:World)(h:DecSt w0 v at_ w)(hl:L.length≤1000000)(hat:at_+k≤L.length)(hg:Gd.getN L at_ k<9223372036854775808):
 Calls prog 158 #[.int .i64 k,.pointer (some ⟨w0.heap.size,0,none⟩),.pointer (some ⟨w0.heap.size+1,0,none⟩),.pointer (some ⟨w0.heap.size+1+1,0,none⟩)] w fun e w'=>e= .returned (.int .i64 (Gd.getN L at_ k))∧DecSt w0 v (at_+k) w'∧Only (Dec2 w0) w w':=by
 have hvw:=hv.keep h.below;have HGt:=hid (get_any v L at_ k hk (nat_I64 (by omega)) w hvw hl);have hgb:Gd.getB L at_ k=true:=by
  unfold Gd.getB;simp
  refine⟨by omega,hg⟩
 have hge:Gd.get L at_ k=(Gd.getN L at_ k:Int):=by
  unfold Gd.get;rw[if_pos hgb,Int.toNat_natCast]
 rw[hge,hgb]at HGt;obtain⟨N,hN⟩:=nm (Gd.getN L at_ k);rw[←hN]at HGt⊢;obtain⟨n0,hn0⟩:=nm w0.heap.size;have H:=hid h;have x1:=cell_of_row w _ 0 _ _ _ h.c1;have x2:=cell_of_row w _ 0 _ _ _ h.c2;have x3:=cell_of_row w _ 0 _ _ _ h.c3;have y2:=frozen_of_row w _ 0 _ _ h.c2;have y3:=frozen_of_row w _ 0 _ _ h.c3;rw[←hn0]at x1 x2 x3 y2 y3⊢;have Hn0:=hid hn0;have hk8:(k:Int)≤8:=by rcases hk with rfl|rfl|rfl|rfl<;>omega
 have ha:(at_:Int)≤1000000:=by omega
 clear hvw hge hgb hN hn0 h hg hat;go_enter func158,ntmps158;go_wp2_with fail
 refine HGt.o.mono ?_;rintro e w1 ⟨rfl,rfl⟩;clear HGt;go_wp2;go_ret
 have e0:=Hn0.o;subst e0;have hc:((at_:Int)+k)=((at_+k:Nat):Int):=by omega
 rw[hc];refine⟨rfl,⟨(H.o.below.setCell (show w0.heap.size≤w0.heap.size+1+1 by omega) _).setCell (show w0.heap.size≤w0.heap.size+1 by omega) _,?_,?_,?_⟩,?_⟩
 ·exact(Go.heap_setCell_other _ _ _ _ (by simp)).trans ((Go.heap_setCell_other _ _ _ _ (by simp;omega)).trans H.o.c1)
 ·exact Go.heap_setCell_same _ _ 0 _ _ _ ((Go.heap_setCell_other _ _ _ _ (by simp)).trans H.o.c2)
 ·exact(Go.heap_setCell_other _ _ _ _ (by simp)).trans (Go.heap_setCell_same _ _ 0 _ _ _ H.o.c3)
 ·exact(only_setCell _ _ _ (Or.inr rfl)).trans (only_setCell _ _ _ (F:=Dec2 w0) (Or.inl rfl)) fun _ _ e=>e
end
end Go.Proofs.YtckoobkjpndgnaaGreatDoor
