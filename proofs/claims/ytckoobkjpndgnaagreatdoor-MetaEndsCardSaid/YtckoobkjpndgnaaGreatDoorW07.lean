/- Walk: plog.Append, behind no record. -/
import Derived.Test.YtckoobkjpndgnaaGreatDoorW06
import Derived.Lib.ConvBytes
set_option linter.unusedVariables false
set_option linter.unusedSimpArgs false
set_option linter.unusedSectionVars false
set_option maxHeartbeats 8000000
set_option maxRecDepth 100000
namespace Go.Proofs.YtckoobkjpndgnaaGreatDoor
open Go.RowKit
open Lib(hid)
open Go.Proofs.Tryz
section
open Go.Shelf
attribute [local go_sem] Oper.semAt_some
theorem MemAt.toF{w:World}{m sb lb ab n K:Nat}{S:List UInt8}(h:MemAt w m sb lb ab n S K):MemF m S K w (fun _=>True):=⟨sb,lb,ab,n,h,trivial,trivial,trivial,trivial⟩
theorem MemX.below{w w':World}{m sb lb ab n K:Nat}{S:List UInt8}{X:Nat→Prop}(h:MemX w m sb lb ab n S K X)(hb:Below w.heap.size w w'):MemX w' m sb lb ab n S K X:=h.keep fun k hk=>hb.block k (h.lts k hk)
theorem MemAt.below{w w':World}{m sb lb ab n K:Nat}{S:List UInt8}(h:MemAt w m sb lb ab n S K)(hb:Below w.heap.size w w'):MemAt w' m sb lb ab n S K:=h.keep fun k hk=>hb.block k (h.lts k hk)
theorem append_at{g m sb lb ab n K:Nat}{S:List UInt8}(v:Value)(P:List Gd.Pa)(w:World)(h:MemAt w m sb lb ab n S K)(hL:LogAt w g m 2688 4096)(hv:PasAt w v P)(hP:∀p∈P,Gd.PaMay p)(hn:P.length≤64)(hS:S.length=23168)(he:Gd.part S 2688 8=Gd.le 0 8)(hfit:(Gd.recB P).length≤4088)(hK:K<800000000000):
 Calls prog 45 #[.pointer (some ⟨g,0,none⟩),v] w fun e w'=>e= .returned (.int .i64 0)∧MemAt w' m sb lb ab n (Gd.splice (Gd.splice S 2696 (Gd.recB P)) 2688 (Gd.le (Gd.recB P).length 8)) (K+20000+20000)∧Only (Mem3 sb lb ab) w w':=by
 have HEn:=hid (encode_any v P w hv hP hn);obtain⟨R,hR⟩:=nm (Gd.recB P);rw[←hR]at HEn hfit⊢;have HM:=hid h;have HL:=hid hL;have HNo:=hid (hL.apart h);have HS:=hid (And.intro hS he);have HK:=hid hK;have hr2:R.length≤4088:=hfit;clear h hL hv hP hn hS he hfit hR hK;go_enter func45,ntmps45;go_wp2_with fail
 refine HEn.o.mono ?_;rintro e w1 ⟨v1,rfl,ho1,hb1⟩;have HO1:=hid ho1;have HB1:=hid hb1;have HM1:=hid (HM.o.below hb1);have HL1:Hid (LogAt w1 g m 2688 4096):=hid ((hb1.block g (lt_get HL.o)).trans HL.o);clear ho1 hb1 HEn;go_wp2_with fail
 refine(each_zero _ w1 HM1.o.toF HL1.o HS.o.1 HS.o.2).mono ?_
 rintro e w2 ⟨rfl,hb2⟩;have HO2:=hid (HO1.o.keep hb2);have HB2:=HB1.t hb2;have HM2:=hid (HM1.o.below hb2);have HL2:Hid (LogAt w2 g m 2688 4096):=hid ((hb2.block g (lt_get HL1.o)).trans HL1.o);clear hb2 HM1 HL1;have HKp:=hid (lkeep_at 2696 v1 R w2 HM2.o HL2.o HO2.o.at_ (fun q hq=>by
  have h1:=(own_block HO2.o q hq).1;have h2:=HM.o.lts sb (by simp);have h3:=HM.o.lts ab (by simp);omega) (by have:=HS.o.1;omega) (by omega) (by have:=HK.o;omega))
 obtain⟨A1,cap1,rfl,-⟩:=HO2.o.at_;obtain⟨r,hr⟩:=nm R.length;rw[←hr]at HKp hr2 HO2 HO1⊢;have Hr:=hid hr;obtain⟨c0,c1,c2⟩:=cell2 HL2.o;clear hr;go_wp2_with fail
 refine HKp.o.mono ?_;rintro e w3 ⟨rfl,hM3,hO3⟩;have hbd:=(Below.refl w3.heap.size w3).drew;have hL3:=HL2.o.keep hO3 (HL2.o.apart HM2.o);have hLd:LogAt w3.drew g m 2688 4096:=(hbd.block g (lt_get hL3)).trans hL3;have hMd:=hM3.below hbd;have HO3:Hid (Only (Mem3 sb lb ab) w w3.drew):=hid (((below_only HB2.o _).trans hO3 fun _ _ e=>e).trans (below_only hbd _) fun _ _ e=>e);have hS1:(Gd.splice S 2696 R).length=23168:=by rw[Gd.splice_length (by have:=HS.o.1;have:=Hr.o;omega)];exact HS.o.1
 have HPt:=hid (putn_any (.slice none 0 0) [] r 8 (Or.inr (Or.inr (Or.inr rfl))) (by omega) (by omega) w3.drew (OwnB.at_ (B:=0) (World.ownsRow_nil _ _ _ _)) (by simp));have HKq:Hid (∀W u,OwnB W w3.drew.heap.size u ([]++Gd.le r 8)→Below w3.drew.heap.size w3.drew W→Calls prog 93 #[.pointer (some ⟨g,0,none⟩),.int .i64 2688,u] W fun e w'=>e= .returned (.tuple #[])∧MemAt w' m sb lb ab n (Gd.splice (Gd.splice S 2696 R) 2688 (Gd.le r 8)) (K+20000+20000)∧Only (Mem3 sb lb ab) w w'):=hid fun W u hu hb=>by
  rw[List.nil_append]at hu;refine(lkeep_at 2688 u (Gd.le r 8) W (hMd.below hb) ((hb.block g (lt_get hLd)).trans hLd) hu.at_ (fun q hq=> ?_) (by rw[Gd.le_length,hS1];omega) (by rw[Gd.le_length];omega) (by have:=HK.o;omega)).mono ?_
  ·have h1:=(own_block hu q hq).1;have h2:=hMd.lts sb (by simp);have h3:=hMd.lts ab (by simp);omega
  ·rintro e w' ⟨e1,e2,e3⟩;exact⟨e1,e2,(HO3.o.trans (below_only hb _) fun _ _ e=>e).trans e3 fun _ _ e=>e⟩
 have HLd:=hid hLd;obtain⟨d0,d1,d2⟩:=cell2 hLd;clear hM3 hO3 hbd hL3 hLd hMd hS1 c0 c1 c2 HKp HM HL HO1 HB1 HM2 HL2 HO2 HB2;have hw1:IntKind.i64.wrap (r:Int)=r:=by rw[IntKind.wrap_i64];omega
 have hw2:wrap64 (r:Int)=r:=by unfold wrap64;omega
 have hr3:(r:Int)≤4088:=by omega
 go_wp2_with fail
 go_region_with (first|(go_at_call 93;refine(HKq.o w5 v5 HO5.o HB5.o).mono ?_;rintro e w6 ⟨rfl,hM6,hO6⟩;have H6:=hid (And.intro hM6 hO6);clear hM6 hO6)|(go_at_call 94;refine HPt.o.mono ?_;rintro e w5 ⟨v5,rfl,ho5,hb5⟩;have HO5:=hid ho5;have HB5:=hid hb5;obtain⟨x0,x1,x2⟩:=cell2 ((hb5.block g (lt_get HLd.o)).trans HLd.o);clear ho5 hb5))
 all_goals
  try simp only[Exit.then]
  (first|(refine(by assumption:∀(a:Act) (w:World),_) _ _ ?_)|skip)
  go_wp2;go_ret
  exact⟨rfl,by rw[←Hr.o];exact H6.o.1,H6.o.2⟩
end
section
open Go.Shelf
attribute [local go_sem] Oper.semAt_some
theorem tnew_any(m g:Nat)(w:World):Calls prog 14 #[.pointer (some ⟨m,0,none⟩),.pointer (some ⟨g,0,none⟩)] w fun e w'=>e= .returned (.pointer (some ⟨w.heap.size,0,none⟩))∧w'=w.alloc (.cells #[.pointer (some ⟨m,0,none⟩),.pointer (some ⟨g,0,none⟩),.slice none 0 0] 89):=by
 go_enter func14,ntmps14;go_wp2;go_ret
 exact⟨rfl,rfl⟩
theorem lnew_any{m sb lb ab n K:Nat}{S:List UInt8}(w:World)(h:MemAt w m sb lb ab n S K)(hS:S.length=23168):Calls prog 13 #[.pointer (some ⟨m,0,none⟩),.int .i64 2688,.int .i64 4096] w fun e w'=>e= .returned (.pointer (some ⟨w.heap.size,0,none⟩))∧w'=w.alloc (.cells #[.pointer (some ⟨m,0,none⟩),.int .i64 2688,.int .i64 4096] 92):=by
 have HSz:=size_any w h.toMemX;rw[hS]at HSz;have HSz:=hid HSz;clear h;go_enter func13,ntmps13;go_wp2_with fail
 refine HSz.o.mono ?_;rintro e w1 ⟨rfl,rfl⟩;go_wp2;go_ret
 exact⟨rfl,rfl⟩
theorem size_any5(w:World):Calls prog 38 #[] w fun e W'=>e= .returned (.int .i64 23168)∧Below w.heap.size w W':=
 callsIn_wide.1 (size_in Fence.wide 6 trivial trivial trivial rfl (by omega) w)
theorem find_any5(k m:Int)(w:World):Calls prog 86 #[.int .i64 k,.int .i64 m] w fun e W'=>e= .returned (.tuple #[ptO (Gd.ptAt k m),.bool (Gd.ptAt k m).isSome])∧Below w.heap.size w W':=by
 rw[←Gd.findP_at];exact callsIn_wide.1 (find_in Fence.wide 6 trivial trivial trivial rfl (by omega) k m w)
theorem xnew_any[MemNo]{t K:Nat}{S:List UInt8}{P:List Gd.Pa}{F:Nat→Prop}(w:World)(h:TxnF t S P K w F)(hS:S.length=23168):Calls prog 15 #[.pointer (some ⟨t,0,none⟩)] w fun e w'=>∃x,e= .returned (.pointer (some ⟨x,0,none⟩))∧w.heap.size≤x∧w'.heap[x]? =some (.cells #[.pointer (some ⟨t,0,none⟩)] 96 (0,0))∧Below w.heap.size w w':=by
 have H:=hid h;have HS:=hid hS;clear h hS;go_enter func15,ntmps15;go_wp2_with fail
 refine(size_any5 _).mono ?_
 rintro e w1 ⟨rfl,hb1⟩;have HB1:=hid hb1;have H1:=hid ((TxnF.held t S P K).below H.o hb1);clear hb1;go_wp2_with fail
 refine(tload_any 0 23168 w1 H1.o (by have:=HS.o;omega) (by have:=HS.o;omega) (by omega)).mono ?_
 rintro e w2 ⟨v2,rfl,-,hb2⟩;have HB2:=HB1.t hb2;have H2:=hid ((TxnF.held t S P K).below H1.o hb2);clear hb2;go_wp2_with fail
 refine(size_any5 _).mono ?_
 rintro e w3 ⟨rfl,hb3⟩;have HB3:=HB2.t hb3;have H3:=hid ((TxnF.held t S P K).below H2.o hb3);clear hb3;go_wp2_with fail
 refine(tload_bad 23168 1 (nat_I64 (n:=23168) (by omega)) (nat_I64 (n:=1) (by omega)) w3 H3.o (by have:=HS.o;omega)).mono ?_
 rintro e w4 ⟨rfl,rfl⟩;go_wp2;go_ret
 exact⟨_,rfl,HB3.o.size,heap_alloc_new _ _,HB3.o.alloc HB3.o.size _⟩
theorem commit_none[MemNo]{t K:Nat}{S:List UInt8}{F:Nat→Prop}(w:World)(h:TxnF t S [] K w F):Calls prog 17 #[.pointer (some ⟨t,0,none⟩)] w fun e w'=>e= .returned (.int .i64 0)∧w'=w:=by
 obtain⟨m,g,pv,hM,hT,hL,ft,fg,fq,hP,-⟩:=h;obtain⟨A,c,rfl,-⟩:=row_pa hT.row;obtain⟨c0,c1,c2⟩:=cell2 hT.obj;clear hM hT hL ft fg fq hP;go_enter func17,ntmps17;go_wp2;go_ret
 exact⟨rfl,rfl⟩
end
section
attribute [local go_sem] Oper.semAt_some
theorem inoin_any(n:Int)(m:Nat)(w:World):Calls prog 153 #[.int .i64 n,.int .i64 m] w fun e w'=>e= .returned (.bool (decide (0≤n)&&decide (n≤m)))∧w'=w:=by
 by_cases h0:0≤n
 ·go_enter func153,ntmps153;go_wp2;go_ret
  exact⟨by simp[h0],rfl⟩
 ·have h0':n<0:=by omega
  go_enter func153,ntmps153;go_wp2;go_ret
  exact⟨by simp[h0];intro h;omega,rfl⟩
end
section
attribute [local go_sem] Oper.semAt_some
theorem place_no(n:Int)(h:Gd.isBlk n=false)(w:World):Calls prog 141 #[.int .i64 n] w fun e w'=>e= .returned (.tuple #[.int .i64 0,.int .u8 0,.bool false])∧w'=w:=by
 unfold Gd.isBlk at h;by_cases h0:n<1
 ·go_enter func141,ntmps141;go_wp2;go_ret3
  exact⟨rfl,rfl⟩
 ·have h1:128<n:=by simp at h;omega
  have h2:1≤n:=by omega
  clear h;go_enter func141,ntmps141;go_wp2;go_ret3
  exact⟨rfl,rfl⟩
end
namespace Gd
theorem view_agree:∀{P:List Pa} {S T:List UInt8},T.length=S.length→Fit S.length P→∀i:Nat,S[i]? =T[i]? →(view S P)[i]? =(view T P)[i]?
 |[],S,T,_,_,i,h=>h
 |p::r,S,T,hl,hf,i,h=>by
  have hp:=hf p (List.mem_cons_self ..);have hp2:p.1+p.2.length≤T.length:=by rw[hl];exact hp
  have h1:=splice_length hp;have h2:=splice_length hp2;show(view (splice S p.1 p.2) r)[i]? =(view (splice T p.1 p.2) r)[i]?
  refine view_agree (by rw[h1,h2];exact hl) (fun q hq=>by rw[h1];exact hf q (List.mem_cons_of_mem _ hq)) i ?_;rw[splice_get hp,splice_get hp2,h]
theorem fit_take{n:Nat}{P:List Pa}(h:Fit n P)(k:Nat):Fit n (P.take k):=fun p hp=>h p (List.mem_of_mem_take hp)
def done(S:List UInt8)(P:List Pa)(R:List UInt8):List UInt8:=splice (view (splice (splice S 2696 R) 2688 (le R.length 8)) P) 2688 (List.replicate 8 0)
theorem logged_length{S R:List UInt8}(hS:S.length=23168)(hR:R.length≤4088):(splice (splice S 2696 R) 2688 (le R.length 8)).length=23168:=by
 rw[splice_length (by rw[splice_length (by omega),le_length];omega),splice_length (by omega)];exact hS
theorem done_length{S R:List UInt8}{P:List Pa}(hS:S.length=23168)(hR:R.length≤4088)(hP:Fit 23168 P):(done S P R).length=23168:=by
 have h1:=logged_length hS hR;have h2:=view_length (P:=P) (S:=splice (splice S 2696 R) 2688 (le R.length 8)) (by rw[h1];exact hP);unfold done;rw[splice_length (by rw[h2,h1,List.length_replicate];omega),h2,h1]
theorem done_get{S R:List UInt8}{P:List Pa}(hS:S.length=23168)(hR:R.length≤4088)(hP:Fit 23168 P)(i:Nat)(hi:i<2688∨6784≤i):(done S P R)[i]? =(view S P)[i]? :=by
 have h1:=logged_length hS hR;have h2:=view_length (P:=P) (S:=splice (splice S 2696 R) 2688 (le R.length 8)) (by rw[h1];exact hP);unfold done;rw[splice_get (by rw[h2,h1,List.length_replicate];omega),if_neg (by rw[List.length_replicate];omega)];refine view_agree (by rw[h1];exact hS) (by rw[h1];exact hP) i ?_;rw[splice_get (by rw[splice_length (by omega),le_length];omega),if_neg (by rw[le_length];omega),splice_get (by omega),if_neg (by omega)]
theorem done_end{S R:List UInt8}{P:List Pa}(hS:S.length=23168)(hR:R.length≤4088)(hP:Fit 23168 P):part (done S P R) 2688 8=le 0 8:=by
 have h1:=logged_length hS hR;have h2:=view_length (P:=P) (S:=splice (splice S 2696 R) 2688 (le R.length 8)) (by rw[h1];exact hP);unfold done;have:=part_splice_same (S:=view (splice (splice S 2696 R) 2688 (le R.length 8)) P) (k:=2688) (b:=List.replicate 8 0) (by rw[h2,h1,List.length_replicate];omega)
 rw[List.length_replicate]at this;rw[this];rfl
theorem logged_end{S R:List UInt8}(hS:S.length=23168)(hR:R.length≤4088):part (splice (splice S 2696 R) 2688 (le R.length 8)) 2688 8=le R.length 8:=by
 have:=part_splice_same (S:=splice S 2696 R) (k:=2688) (b:=le R.length 8) (by rw[splice_length (by omega),le_length];omega)
 rw[le_length]at this;exact this
theorem logged_rec{S R:List UInt8}(hS:S.length=23168)(hR:R.length≤4088):part (splice (splice S 2696 R) 2688 (le R.length 8)) 2696 R.length=R:=by
 rw[part_splice_apart (by rw[splice_length (by omega)];omega) (by rw[splice_length (by omega),le_length];omega) (by rw[le_length];omega)];exact part_splice_same (by omega)
end Gd
section
open Go.Shelf
attribute [local go_sem] Oper.semAt_some
theorem str_bytes(w:World)(L:List UInt8):∃v w',(convert 9 23 (.string ⟨L.toArray⟩)).run prog w= .ok v w'∧BytesAt w' v L∧Below w.heap.size w w'∧v.ownBlock=some w.heap.size∧∃c,v= .slice (some ⟨w.heap.size,0,none⟩) L.length c:=by
 have hs:(⟨L.toArray⟩:ByteArray).size=L.length:=by simp[ByteArray.size]
 refine⟨_,_,Lib.run_convert_string_bytes w 9 23 5 ⟨L.toArray⟩ underlying9 underlying23 underlying5,⟨_,_,by rw[hs],Or.inr ⟨_,0,rfl,by rw[Lib.bytesWorld_size];omega,fun j x hx=> ?_⟩⟩,⟨rfl,rfl,rfl,by rw[Lib.bytesWorld_size];omega,fun k hk=>Lib.bytesWorld_at_old w _ _ k hk⟩,rfl,_,by rw[hs]⟩;have hj:=(List.getElem?_eq_some_iff.1 hx).1;rw[Nat.zero_add,Lib.bytesWorld_cell w _ _ j (by rw[hs];exact hj)];simp only[List.getD,hx,Option.getD_some]
structure LowAt(m sb lb ab g B:Nat):Prop where
 m:m<B
 sb:sb<B
 lb:lb<B
 ab:ab<B
 g:g<B
theorem LowAt.mem3{m sb lb ab g B:Nat}(h:LowAt m sb lb ab g B){k:Nat}(hk:B≤k):¬Mem3 sb lb ab k:=by
 rintro(e|e|e)
 ·have:=h.sb;omega
 ·have:=h.lb;omega
 ·have:=h.ab;omega
theorem redo1_at{g m sb lb ab n K B bm bl c:Nat}{S:List UInt8}(v:Value)(P:List Gd.Pa)(w:World)(h:MemT w m sb lb ab n S K)(hL:LogAt w g m 2688 4096)(hB:LowAt m sb lb ab g B)(hv:PasAt w v P)(hvb:∀q,v.ownBlock=some q→B≤q∧q≠bm)(hf:Gd.Fit S.length P)(hp2:∀p∈P,p.2.length≤256)(hn:P.length≤64)
 (hbm:CellsAt w bm 3 #[.int .i64 c])(hbl:CellsAt w bl 53 #[.pointer (some ⟨g,0,none⟩)])(hm:B≤bm∧B≤bl∧bl≠bm)(hc:c≤1000)(hK:K<800000000000):
 Calls prog 95 #[v,.pointer (some ⟨bm,0,none⟩),.pointer (some ⟨bl,0,none⟩)] w fun e w'=>e= .returned (.tuple #[])∧MemT w' m sb lb ab n (Gd.view S P) (K+20000*P.length)∧Only (fun k=>Mem3 sb lb ab k∨k=bm) w w'∧CellsAt w' bm 3 #[.int .i64 (c+1:Nat)]:=by
 obtain⟨A,cap,rfl,hrow⟩:=hv;have x0:=cell_of_row w bm 0 _ _ _ hbm;have x1:=frozen_of_row w bm 0 _ _ hbm;obtain⟨w1,hw1⟩:=nm (w.setCell ⟨bm,0,none⟩ (.int .i64 ((c:Int)+1)));have hO1:Only (fun k=>k=bm) w w1:=by rw[hw1];exact only_setCell w _ _ rfl
 have hM1:MemT w1 m sb lb ab n S K:=h.keep fun k hk=>hO1.block k (h.lts k hk) fun e=>by
  subst e;rcases hk with e|e|e|e
  ·have:=hB.m;omega
  ·have:=hB.sb;omega
  ·have:=hB.lb;omega
  ·have:=hB.ab;omega
 have hL1:LogAt w1 g m 2688 4096:=hL.keep hO1 fun e=>by have:=hB.g;omega
 have hbl1:CellsAt w1 bl 53 #[.pointer (some ⟨g,0,none⟩)]:=(hO1.block bl hbl.lt hm.2.2).trans hbl;have hbm1:CellsAt w1 bm 3 #[.int .i64 (c+1:Nat)]:=by
  rw[hw1];exact Go.heap_setCell_same _ _ 0 _ _ _ hbm
 have hrow1:(A=none∧P=[])∨∃b,A=some ⟨b,0,none⟩∧b<w1.heap.size∧B≤b∧∀(k:Nat) (p:Gd.Pa),P[k]? =some p→w1.cell? ⟨b,k*2,none⟩=some (.int .i64 p.1)∧w1.cell? ⟨b,k*2+1,none⟩=some (.string ⟨p.2.toArray⟩):=by
  rcases hrow with h0|⟨b,rfl,hb,hcl⟩
  ·exact Or.inl h0
  ·obtain⟨h1,h2⟩:=hvb b rfl;exact Or.inr ⟨b,rfl,Nat.lt_of_lt_of_le hb hO1.size,h1,fun k p hp=>⟨(hO1.cell (p:=⟨b,k*2,none⟩) hb h2).trans (hcl k p hp).1,(hO1.cell (p:=⟨b,k*2+1,none⟩) hb h2).trans (hcl k p hp).2⟩⟩
 have HM1:=hid hM1;have HL1:=hid hL1;have Hbl:=hid hbl1;have Hbm:=hid hbm1;have HR:=hid hrow1;have HB:=hid hB;have Hm:=hid hm;have HP:=hid (And.intro hf hp2);have HO1:=hid hO1;have HW1:=hid hw1;obtain⟨r,hr⟩:=nm P.length;rw[←hr]at hn⊢;have Hr:=hid hr;have hS1:=h.len;have hS2:=h.small;have HS:Hid (S.length≤1048576):=hid (by omega);have hc1:(c:Int)≤1000:=by omega
 clear h hL hB hvb hf hp2 hbm hbl hm hw1 hO1 hM1 hL1 hbl1 hbm1 hrow hrow1 hr hS1 hS2;go_enter func95,ntmps95;go_upto_region 2 with fail
 rw[←HW1.o];clear x0 x1;go_loopw[10] (fun z wr=>∃i:Nat,z= .int .i64 i∧i≤r∧Hid (MemT wr m sb lb ab n (Gd.view S (P.take i)) (K+20000*i))∧Hid (Only (Mem3 sb lb ab) w1 wr)) (fun z _=>r-(intOf z).toNat)
 case atStart=>exact⟨0,rfl,by omega,HM1,hid (Only.refl _ _)⟩
 case round=>
  obtain⟨i,rfl,hi,HM,HO⟩:=hrel;by_cases hlt:i<r
  ·obtain⟨p,hp⟩:∃p,P[i]? =some p:=⟨_,List.getElem?_eq_getElem (by have:=Hr.o;omega)⟩;rcases HR.o with⟨_,h0⟩|⟨b,rfl,hbl,hbB,hcell⟩
   ·rw[h0]at hp;simp at hp
   obtain⟨q0,q1⟩:=hcell i p hp;have r0:=(HO.o.cell (p:=⟨b,i*2,none⟩) hbl (HB.o.mem3 hbB)).trans q0;have r1:=(HO.o.cell (p:=⟨b,i*2+1,none⟩) hbl (HB.o.mem3 hbB)).trans q1;have h1:(i:Int)<r:=by omega
   have h0:(0:Int)≤i:=by omega
   have HX:=hid hp;have Hpm:=hid (List.mem_of_getElem? hp);clear hp hcell q0 q1 hlt;go_upto_region 4 with fail
   obtain⟨s,hs⟩:∃s:ByteArray,s=⟨p.2.toArray⟩:=⟨_,rfl⟩;obtain⟨q,hq⟩:=nm p.1;rw[←hs,←hq];obtain⟨wz,hwz⟩:=nm (wr.alloc (.cells #[.int .i64 q,.string s] 152));rw[←hwz];have hbz:Below wr.heap.size wr wz:=by rw[hwz];exact(Below.refl _ _).alloc (Nat.le_refl _) _
   have hz:CellsAt wz wr.heap.size 152 #[.int .i64 q,.string s]:=by rw[hwz];exact heap_alloc_new _ _
   obtain⟨px,hpx⟩:=nm wr.heap.size;rw[←hpx]at hz⊢;have hbd:Below wr.heap.size wr wz.drew:=hbz.trans (((Below.refl wz.heap.size wz).drew).mono hbz.size);have hMd:=HM.o.below hbd;have hOd:Only (Mem3 sb lb ab) w1 wz.drew:=HO.o.trans (below_only hbd _) fun _ _ e=>e;have hbld:CellsAt wz.drew bl 53 #[.pointer (some ⟨g,0,none⟩)]:=(hOd.block bl Hbl.o.lt (HB.o.mem3 Hm.o.2.1)).trans Hbl.o;have hgd:LogAt wz.drew g m 2688 4096:=HL1.o.keep hOd (HL1.o.apartX HM1.o);have hzd:CellsAt wz.drew px 152 #[.int .i64 q,.string s]:=((Below.refl wz.heap.size wz).drew.block px hz.lt).trans hz;obtain⟨v2,wm,hcv,hb2,hbel,hob,-⟩:=str_bytes wz.drew p.2;rw[←hs]at hcv;have hMm:=hMd.below hbel;have hblm:CellsAt wm bl 53 #[.pointer (some ⟨g,0,none⟩)]:=(hbel.block bl hbld.lt).trans hbld;have hgm:LogAt wm g m 2688 4096:=(hbel.block g (lt_get hgd)).trans hgd
   have hzm:CellsAt wm px 152 #[.int .i64 q,.string s]:=(hbel.block px hzd.lt).trans hzd;have hlen:(Gd.view S (P.take i)).length=S.length:=Gd.view_length (Gd.fit_take HP.o.1 i);have HSt:=hid (mstore_at q v2 p.2 wm hMm hb2 (fun j hj=>by
    rw[hob]at hj
    cases hj
    have h1:=hMd.lts sb (by simp);have h2:=hMd.lts ab (by simp);omega) (by rw[hlen,hq];exact HP.o.1 p Hpm.o) (by have:=HP.o.2 p Hpm.o;omega))
   have HOm:Hid (Only (Mem3 sb lb ab) w1 wm):=hid (hOd.trans (below_only hbel _) fun _ _ e=>e);have Hzm:=hid hzm;have d0:=cell_of_row wz.drew _ 0 _ _ _ hbld;obtain⟨d1,-,-⟩:=cell2 hgd;have d2:=cell_of_row wz.drew _ 0 _ _ _ hzd;have d3:=cell_of_row wz.drew _ 1 _ _ _ hzd;have e0:=cell_of_row wm _ 0 _ _ _ hblm;obtain⟨e1,-,-⟩:=cell2 hgm;have e2:=cell_of_row wm _ 0 _ _ _ hzm;have e3:=cell_of_row wm _ 1 _ _ _ hzm;have HQ:=hid (And.intro hq hs);have HPx:=hid hpx;have hs1:=And.intro d0 (And.intro d1 (And.intro d2 d3));have hs2:=And.intro e0 (And.intro e1 (And.intro e2 e3));have HT5:Hid (∀w5,Only (fun k=>k=sb∨k=ab) wm w5→w5.cell? ⟨bl,0,none⟩=some (.pointer (some ⟨g,0,none⟩))∧w5.cell? ⟨g,0,none⟩=some (.pointer (some ⟨m,0,none⟩))∧w5.cell? ⟨px,0,none⟩=some (.int .i64 q)∧w5.cell? ⟨px,1,none⟩=some (.string s)):=hid fun w5 hO5=>by
    have hsb:=hMm.lts sb (by simp);have hab:=hMm.lts ab (by simp);have h3:∀k,k=sb∨k=ab→Mem3 sb lb ab k:=fun k e=>e.elim (fun e=>Or.inl e) fun e=>Or.inr (Or.inr e);have hpn:¬Mem3 sb lb ab px:=HB.o.mem3 (by have:=HO.o.size;have:=HR.o;rw[hpx];omega);have y1:=cell_of_row w5 _ 0 _ _ _ ((hO5.block bl hblm.lt fun e=>HB.o.mem3 Hm.o.2.1 (h3 _ e)).trans hblm);obtain⟨y2,-,-⟩:=cell2 ((hO5.block g (lt_get hgm) fun e=>HL1.o.apartX HM1.o (h3 _ e)).trans hgm);have hz5:=(hO5.block px hzm.lt fun e=>hpn (h3 _ e)).trans hzm;exact⟨y1,y2,cell_of_row w5 _ 0 _ _ _ hz5,cell_of_row w5 _ 1 _ _ _ hz5⟩
   clear hbz hz hbd hMd hOd hbld hgd hzd hb2 hbel hob hMm hblm hgm hzm hlen hq hs hpx hwz r0 r1;go_cut[10,24] from 10 to 35 (fun s10 s24 wx=>s10= .int .i64 i∧s24= .bool true∧Hid (MemX wx m sb lb ab n (Gd.splice (Gd.view S (P.take i)) q p.2) (K+20000*i) (fun j=>NoX j∨touched q p.2.length j))∧Hid (Only (fun k=>k=sb∨k=ab) wm wx))
   case first=>
    refine wp_region_held_drew (S:=(fun W=>W.cell? ⟨bl,0,none⟩=some (.pointer (some ⟨g,0,none⟩))∧W.cell? ⟨g,0,none⟩=some (.pointer (some ⟨m,0,none⟩))∧W.cell? ⟨px,0,none⟩=some (.int .i64 q)∧W.cell? ⟨px,1,none⟩=some (.string s))) (by kernel_rfl) ?_ (fun hHeld=> ?_)
    ·exact hs1
    refine tk 0 ?_;refine tk 1 ?_;refine tk 2 ?_;refine tk 3 ?_;refine tk 4 ?_;refine tk 5 ?_;refine tk 6 ?_;refine tk 7 ?_;refine rd 8 (fun K hK=> ?_);go_simp
    try dsimp only
    refine hK.o _ _ hs2 (fun hHeld=> ?_);clear hK K;try simp only[put]
    refine rd 9 (fun K hK=> ?_);go_simp
    refine HSt.o.mono ?_;rintro e w5 ⟨rfl,hM5,hO5⟩;have HM5:=hid hM5;have HO5:=hid hO5;have hs5:=HT5.o w5 hO5;clear hM5 hO5;dsimp only;refine hK.o _ _ hs5 (fun hHeld=> ?_);clear hK K;try simp only[put]
    refine tk 10 ?_;refine dn ?_
    (try simp only[Exit.then])
    clear hs5 hs1 hs2;go_wp2;go_meet
    exact⟨rfl,rfl,HM5,HO5⟩
   case rest=>
    obtain⟨rfl,rfl,HM6,HO6⟩:=hcut;obtain⟨w6,rfl⟩:=nm wc;have hb6:=(Below.refl w6.heap.size w6).drew;have hs6:=HT5.o w6 HO6.o;have hl6:bl<w6.heap.size∧g<w6.heap.size∧px<w6.heap.size:=by
     have h1:=HO6.o.size;have h2:=HOm.o.size;have h3:=Hbl.o.lt;have h4:=lt_get HL1.o;have h5:=Hzm.o.lt;omega
    have hs7:w6.drew.cell? ⟨bl,0,none⟩=some (.pointer (some ⟨g,0,none⟩))∧w6.drew.cell? ⟨g,0,none⟩=some (.pointer (some ⟨m,0,none⟩))∧w6.drew.cell? ⟨px,0,none⟩=some (.int .i64 q)∧w6.drew.cell? ⟨px,1,none⟩=some (.string s):=
     ⟨(hb6.cell (p:=⟨bl,0,none⟩) hl6.1).trans hs6.1,(hb6.cell (p:=⟨g,0,none⟩) hl6.2.1).trans hs6.2.1,(hb6.cell (p:=⟨px,0,none⟩) hl6.2.2).trans hs6.2.2.1,(hb6.cell (p:=⟨px,1,none⟩) hl6.2.2).trans hs6.2.2.2⟩
    have hle:Gd.splice (Gd.view S (P.take i)) q p.2=Gd.view S (P.take (i+1)):=by
     rw[Gd.take_next HX.o,Gd.view_snoc,HQ.o.1]
    have hM7:=HM6.o.below hb6;rw[hle]at hM7;have hlen:(Gd.view S (P.take (i+1))).length=S.length:=Gd.view_length (Gd.fit_take HP.o.1 (i+1));have hsz:s.size=p.2.length:=by rw[HQ.o.2];simp[ByteArray.size]
    have HFl:=hid (flush_at q s.size w6.drew hM7 (fun j hj=>hj.elim (fun e=>e.elim) fun e=>by rw[hsz];exact touched_line e) (by rw[hlen,hsz,HQ.o.1];exact HP.o.1 p Hpm.o) (by have:=HP.o.2 p Hpm.o;omega) (by omega));have HO7:Hid (Only (Mem3 sb lb ab) w1 w6.drew):=hid ((HOm.o.trans (HO6.o.mono (G:=Mem3 sb lb ab) fun _ _ e=>e.elim (fun e=>Or.inl e) fun e=>Or.inr (Or.inr e)) fun _ _ e=>e).trans (below_only hb6 _) fun _ _ e=>e);have HT8:Hid (∀w8,Only (fun k=>k=ab) w6.drew w8→w8.cell? ⟨bl,0,none⟩=some (.pointer (some ⟨g,0,none⟩))∧w8.cell? ⟨g,0,none⟩=some (.pointer (some ⟨m,0,none⟩))∧w8.cell? ⟨px,0,none⟩=some (.int .i64 q)∧w8.cell? ⟨px,1,none⟩=some (.string s)):=hid fun w8 hO8=>by
     have h3:∀k,k=ab→Mem3 sb lb ab k:=fun k e=>Or.inr (Or.inr e);have hpn:¬Mem3 sb lb ab px:=HB.o.mem3 (by have:=HO.o.size;have:=HR.o;rw[HPx.o];omega);exact⟨(hO8.cell (p:=⟨bl,0,none⟩) (Nat.lt_of_lt_of_le hl6.1 hb6.size) fun e=>HB.o.mem3 Hm.o.2.1 (h3 _ e)).trans hs7.1,(hO8.cell (p:=⟨g,0,none⟩) (Nat.lt_of_lt_of_le hl6.2.1 hb6.size) fun e=>HL1.o.apartX HM1.o (h3 _ e)).trans hs7.2.1,(hO8.cell (p:=⟨px,0,none⟩) (Nat.lt_of_lt_of_le hl6.2.2 hb6.size) fun e=>hpn (h3 _ e)).trans hs7.2.2.1,(hO8.cell (p:=⟨px,1,none⟩) (Nat.lt_of_lt_of_le hl6.2.2 hb6.size) fun e=>hpn (h3 _ e)).trans hs7.2.2.2⟩
    clear hb6 hs6 hl6 hle hM7 hlen hsz HT5 HSt hcv hs1 hs2 d0 d1 d2 d3 e0 e1 e2 e3;go_upto_region 5 with fail
    refine wp_region_held_drew (S:=(fun W=>W.cell? ⟨bl,0,none⟩=some (.pointer (some ⟨g,0,none⟩))∧W.cell? ⟨g,0,none⟩=some (.pointer (some ⟨m,0,none⟩))∧W.cell? ⟨px,0,none⟩=some (.int .i64 q)∧W.cell? ⟨px,1,none⟩=some (.string s))) (by kernel_rfl) ?_ (fun hHeld=> ?_)
    ·exact hs7
    refine tk 0 ?_;refine tk 1 ?_;refine tk 2 ?_;refine tk 3 ?_;refine tk 4 ?_;refine tk 5 ?_;refine tk 6 ?_;refine tk 7 ?_;refine tk 8 ?_;refine rd 9 (fun K hK=> ?_);go_simp
    refine HFl.o.mono ?_;rintro e w8 ⟨rfl,hM8,hO8⟩;have HM8:=hid hM8;have HO8:=hid hO8;have hs8:=HT8.o w8 hO8;clear hM8 hO8;dsimp only;refine hK.o _ _ hs8 (fun hHeld=> ?_);clear hK K;try simp only[put]
    refine dn ?_
    (try simp only[Exit.then])
    have HM9:Hid (MemT w8 m sb lb ab n (Gd.view S (P.take (i+1))) (K+20000*(i+1))):=hid (by
     have:=HM8.o
     rw[show K+20000*(i+1)=K+20000*i+20000 by omega];exact this)
    have HO9:=hid (HO7.o.trans (HO8.o.mono (G:=Mem3 sb lb ab) fun _ _ e=>Or.inr (Or.inr e)) fun _ _ e=>e);clear hs8 hs7;go_wp2;go_roundw
    case rel=>exact⟨i+1,by go_num,by omega,HM9,HO9⟩
    case measure=>simp[intOf];omega
  ·obtain rfl:i=r:=by omega
   clear hlt;go_wp2;go_end0
   refine⟨rfl,?_,?_,?_⟩
   ·have:=HM.o
    rw[List.take_of_length_le (by have:=Hr.o;omega)]at this;exact this
   ·exact(HO1.o.mono fun _ _ e=>Or.inr e).trans (HO.o.mono fun _ _ e=>Or.inl e) fun _ _ e=>e
   ·exact(HO.o.block bm Hbm.o.lt (HB.o.mem3 Hm.o.1)).trans Hbm.o
end
end Go.Proofs.YtckoobkjpndgnaaGreatDoor
