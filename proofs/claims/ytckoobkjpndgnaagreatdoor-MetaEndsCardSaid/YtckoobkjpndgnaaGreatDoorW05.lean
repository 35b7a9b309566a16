/- Walk: plog.Decode, of a record. -/
import Derived.Test.YtckoobkjpndgnaaGreatDoorW04
set_option linter.unusedVariables false
set_option linter.unusedSimpArgs false
set_option linter.unusedSectionVars false
set_option maxHeartbeats 8000000
set_option maxRecDepth 100000
namespace Go.Proofs.YtckoobkjpndgnaaGreatDoor
open Go.RowKit
open Lib(hid)
open Go.Proofs.Tryz
open Go.Shelf
attribute [local go_sem] Oper.semAt_some
theorem row_only{w w':World}{B e s n:Nat}{v:Value}{xs:List Value}{F:Nat→Prop}(h:w.ownsRow B e s v n xs)(hO:Only F w w')(hF:∀k,B≤k→¬F k):w'.ownsRow B e s v n xs:=
 ⟨h.1,h.2.imp id fun⟨q,cap,cur,hv,hB,hg,hr⟩=>⟨q,cap,cur,hv,hB,(hO.block q (lt_get hg) (hF q hB)).trans hg,hr⟩⟩
theorem row_below{w w':World}{B e s n:Nat}{v:Value}{xs:List Value}(h:w.ownsRow B e s v n xs)(hb:Below w.heap.size w w'):w'.ownsRow B e s v n xs:=
 ⟨h.1,h.2.imp id fun⟨q,cap,cur,hv,hB,hg,hr⟩=>⟨q,cap,cur,hv,hB,(hb.block q (lt_get hg)).trans hg,hr⟩⟩
theorem row_set{w:World}{B e s n:Nat}{v:Value}{xs:List Value}(h:w.ownsRow B e s v n xs)(a:Addr)(u:Value)(hne:∀k,v.ownBlock=some k→k≠a.block):(w.setCell a u).ownsRow B e s v n xs:=
 ⟨h.1,h.2.imp id fun⟨q,cap,cur,hv,hB,hg,hr⟩=>⟨q,cap,cur,hv,hB,(Go.heap_setCell_other w a q u (hne q (by rw[hv];rfl))).trans hg,hr⟩⟩
theorem dec2_not(w0:World):∀k,w0.heap.size+3≤k→¬Dec2 w0 k:=fun k h e=>by rcases e with e|e<;>omega
theorem decode_any(v:Value)(P:List Gd.Pa)(B:Nat)(w:World)(hv:OwnB w B v (Gd.recB P))(hP:∀p∈P,Gd.PaMay p)(hn:P.length≤64):
 Calls prog 130 #[v] w fun e w'=>∃u,e= .returned (.tuple #[u,.int .i64 (Gd.recB P).length,.int .i64 0])∧w'.ownsRow w.heap.size 152 2 u P.length (flatP P)∧Below w.heap.size w w':=by
 obtain⟨i0,hi,hz0,hz1,hz2⟩:=info_parts infoPa;have HP:=hid hP;have HAt:=hid fun k p (h:P[k]? =some p)=>Gd.dec_at h (hP p (List.mem_of_getElem? h));have HStep:=hid fun k p (h:P[k]? =some p)=>Gd.paOff_succ h;have HEnd:=hid (Gd.dec_end P);have HEo:=hid (Gd.paOff_end P);have HMany:=hid (Gd.dec_many hn);have HLen:Hid ((Gd.recB P).length≤17000):=hid (by
  rw[Gd.recB_length];have h1:=pas_len hP;have h2:=Gd.up8_ge (6+Gd.wt P);have h3:P.length*262≤64*262:=Nat.mul_le_mul_right 262 hn;unfold Gd.wt at*;omega)
 obtain⟨E,hE⟩:=nm ((Gd.recBody P).length);have HLe:Hid (∀k,Gd.paOff P k≤E):=hid fun k=>by rw[hE,Gd.recBody_length];exact Gd.paOff_le P k
 rw[←hE]at HEnd HEo;obtain⟨L,hL⟩:=nm (Gd.recB P);rw[←hL]at HAt HEnd HMany HLen hv⊢;have HN:=hid fun at_ k hk w1 h=>next_any (w0:=w) (at_:=at_) L hv.at_ k hk w1 h (by have:=HLen.o;omega);obtain⟨A,c,hve,hA⟩:=hv.at_;have hcap:L.length≤c:=by
  rcases hv.2 with⟨_,h0⟩|⟨g,cap,cur,e,_,_,hc,_⟩
  ·omega
  ·rw[e]at hve
   cases hve
   exact hc
 obtain⟨ll,hll⟩:=nm L.length;have Hll:=hid hll;rw[←hll]at hve hcap⊢;obtain⟨n,hnn⟩:=nm P.length;rw[←hnn]at hn⊢;have Hn:=hid hnn;subst hve;have hll2:ll≤17000:=by rw[hll];exact HLen.o
 obtain⟨W,hW⟩:=nm (((w.alloc (.cells #[.slice A ll c] 23)).alloc (.cells #[.int .i64 0] 3)).alloc (.cells #[.bool false] 4));have HD:Hid (DecSt w (.slice A ll c) 0 W):=hid (by
  rw[hW];refine⟨(((Below.refl _ w).alloc (Nat.le_refl _) _).alloc (by simp) _).alloc (by simp;omega) _,CellsAt.alloc (CellsAt.alloc (heap_alloc_new w _) _) _,?_,?_⟩
  ·have:=heap_alloc_new (w.alloc (.cells #[.slice A ll c] 23)) (.cells #[.int .i64 0] 3)
   rw[World.size_alloc]at this;exact CellsAt.alloc this _
  ·have:=heap_alloc_new ((w.alloc (.cells #[.slice A ll c] 23)).alloc (.cells #[.int .i64 0] 3)) (.cells #[.bool false] 4)
   rw[World.size_alloc,World.size_alloc]at this;exact this)
 have HSz:Hid (W.heap.size=w.heap.size+3):=hid (by rw[hW];simp);have hmf:∀(fn:Fn) (first cap:Array Value) (w:World),(Instr.makeFunc fn first cap).run prog w= .ok (.func fn first cap) w:=fun _ _ _ _=>rfl;have HA:=hid hA;obtain⟨b,o,rfl,hbl,hbc⟩:∃b o,A=some ⟨b,o,none⟩∧b<w.heap.size∧∀(j:Nat) (x:UInt8),L[j]? =some x→w.cell? ⟨b,o+j,none⟩=some (.int .u8 x.toNat):=by
  rcases hA with⟨_,h0,_⟩|h
  ·have h1:=HEnd.o.2.2.1;have h2:=Gd.up8_ge (E+4);rw[h0]at h1;simp at h1
   omega
  ·exact h
 have HBc:=hid (And.intro hbl hbc);have hcap2:(ll:Int)≤c:=by omega
 clear hA hP hll hnn hE hL hbl hbc HA hv hcap;go_enter func130,ntmps130;go_upto_region 3 with fail
 rw[←hW];clear hW;have HN0:=hid (HN.o 0 2 (Or.inr (Or.inl rfl)) W HD.o (by have:=HMany.o;have:=HLen.o;have:=HEnd.o.2.2.1;have:=Gd.up8_ge (E+4);omega) (by rw[HMany.o,←Hn.o];omega));rw[HMany.o,←Hn.o]at HN0;go_wp2_with fail
 refine HN0.o.mono ?_;rintro e W1 ⟨rfl,hD1,hO1⟩;rw[show(0+2:Nat)=Gd.paOff P 0 from rfl]at hD1;have HD1:=hid hD1;have HS1:Hid (w.heap.size+3≤W1.heap.size):=hid (by have:=hO1.size;have:=HSz.o;omega);clear hD1 hO1 HN0;go_upto_region 8 with fail
 go_loopw[8,10] (fun u z wr=>∃i:Nat,z= .int .i64 i∧i≤n∧Hid (wr.ownsRow (w.heap.size+3) 152 2 u i (flatP (P.take i)))∧Hid (DecSt w (.slice (some ⟨b,o,none⟩) ll c) (Gd.paOff P i) wr)∧Hid (w.heap.size+3≤wr.heap.size)) (fun _ z _=>n-(intOf z).toNat)
 case atStart=>exact⟨0,rfl,by omega,hid (World.ownsRow_nil _ _ _ _),HD1,HS1⟩
 case round=>
  obtain⟨i,rfl,hin,HO,HDr,HSr⟩:=hrel;by_cases hlt:i<n
  ·obtain⟨p,hp⟩:∃p,P[i]? =some p:=⟨_,List.getElem?_eq_getElem (by have:=Hn.o;omega)⟩;obtain⟨g1,g2,g3,g4⟩:=HAt.o i p hp;have g5:=HStep.o i p hp;have HX:=hid hp;have Hpm:=HP.o p (List.mem_of_getElem? hp);have h1:(i:Int)<n:=by omega
   obtain⟨at_,hat⟩:=nm (Gd.paOff P i);rw[←hat]at g1 g2 g3 g4 g5 HDr;have HNa:=hid (HN.o at_ 4 (Or.inr (Or.inr (Or.inl rfl))) wr HDr.o (by omega) (by rw[g1];have:=Hpm.1;omega));rw[g1]at HNa;have x3:=cell_of_row wr _ 0 _ _ _ HDr.o.c3;have HG:=hid (And.intro g2 (And.intro g3 (And.intro g4 g5)));have HPm:=hid Hpm;clear hp hlt g1 g2 g3 g4 g5 Hpm;obtain⟨q,hq⟩:=nm p.1;rw[←hq]at HNa;have HQ:=hid hq;have HAi:=hid hat;clear hq hat;go_wp2_with fail
   refine HNa.o.mono ?_;rintro e w3 ⟨rfl,hD3,hO3⟩;have HD3:=hid hD3;have HO3:=hid (row_only HO.o hO3 (dec2_not w));have HS3:Hid (w.heap.size+3≤w3.heap.size):=hid (by have:=hO3.size;have:=HSr.o;omega);clear hD3 hO3 HNa x3;go_upto_region 11 with fail
   obtain⟨w4,hw4⟩:=nm (w3.alloc (.cells #[.int .i64 q,.string ⟨#[]⟩] 152));rw[←hw4];obtain⟨pb,hpb⟩:=nm w3.heap.size;rw[←hpb];have hb4:Below w3.heap.size w3 w4:=by rw[hw4];exact(Below.refl _ _).alloc (Nat.le_refl _) _
   have HC4:Hid (CellsAt w4 pb 152 #[.int .i64 q,.string ⟨#[]⟩]):=hid (by rw[hw4,hpb];exact heap_alloc_new _ _);have HD4:=hid (HD3.o.read hb4);have HO4:=hid (row_below HO3.o hb4);have HOb:Hid (∀k,u8.ownBlock=some k→w.heap.size+3≤k∧k<pb):=hid fun k hk=>by rw[hpb];exact own_block HO3.o k hk
   have HS4:Hid (w.heap.size+3≤pb):=hid (by rw[hpb];exact HS3.o);have HS4':Hid (w.heap.size+3≤w4.heap.size):=hid (by have:=hb4.size;have:=HS3.o;omega);clear hw4 hpb hb4;have HNb:=hid (HN.o (at_+4) 2 (Or.inr (Or.inl rfl)) w4 HD4.o (by have:=HG.o.2.2.1;omega) (by rw[HG.o.1];have:=HPm.o.2;omega));rw[HG.o.1]at HNb;obtain⟨l,hl⟩:=nm p.2.length;rw[←hl]at HNb;have HLl:=hid hl;have hl2:(l:Int)≤256:=by have:=HPm.o.2;omega
   clear hl;go_wp2_with fail
   refine HNb.o.mono ?_;rintro e w5 ⟨rfl,hD5,hO5⟩;have HO5:=hid (row_only HO4.o hO5 (dec2_not w));have HC5:Hid (CellsAt w5 pb 152 #[.int .i64 q,.string ⟨#[]⟩]):=hid ((hO5.block pb HC4.o.lt (dec2_not w pb HS4.o)).trans HC4.o);have HS5:Hid (w.heap.size+3≤w5.heap.size):=hid (by have:=hO5.size;have:=HS4'.o;omega);obtain⟨a6,ha6⟩:=nm (at_+4+2);rw[←ha6]at hD5;have HD5:=hid hD5;have ha7:a6+l≤ll:=by have:=HG.o.2.2.1;have:=HLl.o;have:=Hll.o;omega
   have ha8:a6+l+4≤ll:=by
    have h1:=HLe.o (i+1);have h2:=HG.o.2.2.2;have h3:=HLl.o;have h4:=Gd.up8_ge (E+4);have h5:=HEnd.o.2.2.1;have h6:=Hll.o;have h7:=HAi.o;omega
   have f3:¬a6=c:=by omega
   have f4:(a6:Int)<c:=by omega
   have HA6:=hid ha6;have hcv:(convert 23 9 (.slice (some ⟨b,o+a6,none⟩) l (c-a6))).run prog w5= .ok (.string ⟨p.2.toArray⟩) w5:=by
    have hbb:=HD5.o.below;have hg3:=HG.o.2.1;rw[←HLl.o]at hg3;refine conv_any _ p.2 w5 ⟨_,_,by rw[HLl.o],Or.inr ⟨b,o+a6,rfl,Nat.lt_of_lt_of_le HBc.o.1 hbb.size,fun j x hx=> ?_⟩⟩;have hj:j<l:=by rw[HLl.o];exact(List.getElem?_eq_some_iff.1 hx).1
    rw[←hg3,←ha6,Gd.part_get hj]at hx;rw[Nat.add_assoc];exact(hbb.cell (p:=⟨b,o+(a6+j),none⟩) HBc.o.1).trans (HBc.o.2 _ _ hx)
   have x1:=cell_of_row w5 _ 0 _ _ _ HD5.o.c1;have x2:=cell_of_row w5 _ 0 _ _ _ HD5.o.c2;have x3:=cell_of_row w5 _ 0 _ _ _ HD5.o.c3;have f1:(l:Int)≤ll-a6:=by omega
   have f2:(a6:Int)+l≤ll:=by omega
   clear hD5 hO5 HNb ha6 ha7 ha8;go_upto_region 12 with fail
   have p0:=cell_of_row w5 pb 0 _ _ _ HC5.o;have p1:=cell_of_row w5 pb 1 _ _ _ HC5.o;have p2:=frozen_of_row w5 pb 1 _ _ HC5.o;obtain⟨s,hs⟩:∃s:ByteArray,s=⟨p.2.toArray⟩:=⟨_,rfl⟩;rw[←hs]at hcv;have Hs:=hid hs;clear hs;go_upto_region 13 with fail
   obtain⟨w6,hw6⟩:=nm (w5.setCell ⟨pb,1,none⟩ (.string s));rw[←hw6];have HD6:Hid (DecSt w (.slice (some ⟨b,o,none⟩) ll c) a6 w6):=hid (by
    have h1:=HS4.o;rw[hw6];exact⟨HD5.o.below.setCell (show w.heap.size≤pb by omega) _,(Go.heap_setCell_other _ _ _ _ (by simp;omega)).trans HD5.o.c1,(Go.heap_setCell_other _ _ _ _ (by simp;omega)).trans HD5.o.c2,(Go.heap_setCell_other _ _ _ _ (by simp;omega)).trans HD5.o.c3⟩)
   have HC6:Hid (CellsAt w6 pb 152 #[.int .i64 q,.string s]):=hid (by rw[hw6];exact Go.heap_setCell_same _ _ 1 _ _ _ HC5.o);have HO6:=hid (row_set HO5.o ⟨pb,1,none⟩ (.string s) fun k hk=>by have:=HOb.o k hk;show k≠pb;omega);rw[←hw6]at HO6;have HS6:Hid (w.heap.size+3≤w6.heap.size):=hid (by rw[hw6];simp;exact HS5.o);clear x1 x2 x3 p0 p1 p2 hcv hw6;have x2:=cell_of_row w6 _ 0 _ _ _ HD6.o.c2;have y2:=frozen_of_row w6 _ 0 _ _ HD6.o.c2;go_upto_region 14 with fail
   rw[show((a6:Int)+l)=((a6+l:Nat):Int) by omega];obtain⟨w7,hw7⟩:=nm (w6.setCell ⟨w.heap.size+1,0,none⟩ (.int .i64 ((a6+l:Nat):Int)));rw[←hw7];have HD7:Hid (DecSt w (.slice (some ⟨b,o,none⟩) ll c) (a6+l) w7):=hid (by
    rw[hw7];exact⟨HD6.o.below.setCell (show w.heap.size≤w.heap.size+1 by omega) _,(Go.heap_setCell_other _ _ _ _ (by simp)).trans HD6.o.c1,Go.heap_setCell_same _ _ 0 _ _ _ HD6.o.c2,(Go.heap_setCell_other _ _ _ _ (by simp)).trans HD6.o.c3⟩)
   have HC7:Hid (CellsAt w7 pb 152 #[.int .i64 q,.string s]):=hid (by rw[hw7];exact(Go.heap_setCell_other _ _ _ _ (by have:=HS4.o;show pb≠w.heap.size+1;omega)).trans HC6.o);have HO7:=hid (row_set HO6.o ⟨w.heap.size+1,0,none⟩ (.int .i64 ((a6+l:Nat):Int)) fun k hk=>by have:=HOb.o k hk;show k≠w.heap.size+1;omega);rw[←hw7]at HO7;have HS7:Hid (w.heap.size+3≤w7.heap.size):=hid (by rw[hw7];simp;exact HS6.o);clear x2 y2 hw7;have p0:=cell_of_row w7 pb 0 _ _ _ HC7.o;have p1:=cell_of_row w7 pb 1 _ _ _ HC7.o;have hi64:i≤64:=by omega
   go_wp2_with(at_builtin;refine wpList_append_own _ rfl _ _ 87 rfl (w.heap.size+3) 152 i0 _ 2 24 underlying87 hi hz0 hz1 hz2 rfl (by decide) u8 i (flatP (P.take i)) rfl (row_below HO7.o ((Below.refl _ _).alloc (Nat.le_refl _) _)) ⟨w7.heap.size,0,none⟩ 1 1 [.int .i64 q,.string s] rfl rfl (cells_new2 w7 _ _ _) (by intro u hu;simp at hu;rcases hu with rfl|rfl<;>rfl) (by unfold maxLen;omega) (by omega) (by have:=HS7.o;simp;omega) ?_;intro v' w8 h1 h2 h3)
   have hba:Below w7.heap.size w7 (w7.alloc (.cells #[.int .i64 q,.string s] 152)):=(Below.refl _ _).alloc (Nat.le_refl _) _;have HO8:Hid (w8.ownsRow (w.heap.size+3) 152 2 v' (i+1) (flatP (P.take (i+1)))):=hid (by
    rw[Gd.take_next HX.o,←flatP_snoc];unfold paC;rw[←HQ.o,←Hs.o];exact h1)
   have hO8:Only (fun k=>u8.ownBlock=some k) w7 w8:=(below_only hba _).trans (grown_only h2 (F:=fun k=>u8.ownBlock=some k) fun k e=>e) fun _ _ e=>e;have HD8:Hid (DecSt w (.slice (some ⟨b,o,none⟩) ll c) (Gd.paOff P (i+1)) w8):=hid (by
    have e1:Gd.paOff P (i+1)=a6+l:=by rw[HG.o.2.2.2,HA6.o,HLl.o]
    rw[e1];have hne:∀k,k<w.heap.size+3→¬u8.ownBlock=some k:=fun k hk e=>by have:=HOb.o k e;omega
    exact⟨HD7.o.below.trans (hO8.below (by have:=HS7.o;omega) fun k hk=>hne k (by omega)),(hO8.block _ HD7.o.c1.lt (hne _ (by omega))).trans HD7.o.c1,(hO8.block _ HD7.o.c2.lt (hne _ (by omega))).trans HD7.o.c2,(hO8.block _ HD7.o.c3.lt (hne _ (by omega))).trans HD7.o.c3⟩)
   have HS8:Hid (w.heap.size+3≤w8.heap.size):=hid (by have:=hO8.size;have:=HS7.o;omega);clear h1 h2 h3 hO8 hba;refine⟨⟨i+1,by go_num,by omega,HO8,HD8,HS8⟩,?_⟩;simp[intOf];omega
  ·obtain rfl:i=n:=by omega
   clear hlt;obtain⟨cc,hcc⟩:=nm (Gd.crc (Gd.recBody P));have hcl:cc<4294967296:=by rw[hcc];exact Gd.crc_lt _
   have hc2:(cc:Int)<4294967296:=by omega
   have hup:=Gd.up8_ge (E+4);have hll3:ll=Gd.up8 (E+4):=by rw[Hll.o];exact HEnd.o.2.2.1
   rw[←hll3]at hup;obtain⟨hu1,hu2,-⟩:=hup;have hDe:=HDr.o;rw[Hn.o,HEo.o]at hDe;have HDe:=hid hDe;have HOe:Hid (wr.ownsRow (w.heap.size+3) 152 2 u8 P.length (flatP P)):=hid (by
    have:=HO.o
    rw[Hn.o,List.take_length]at this;exact this)
   have HNc:=hid (HN.o E 4 (Or.inr (Or.inr (Or.inl rfl))) wr hDe (by have:=Hll.o;omega) (by rw[HEnd.o.1,←hcc];omega));rw[HEnd.o.1,←hcc]at HNc;have x2:=cell_of_row wr _ 0 _ _ _ hDe.c2;have x3:=cell_of_row wr _ 0 _ _ _ hDe.c3;have HCc:=hid hcc;have HU3:=hid hll3;clear hDe HDr HO hcc hll3;go_wp2_with fail
   refine HNc.o.mono ?_;rintro e w3 ⟨rfl,hD3,hO3⟩;have HD3:=hid hD3;have HO3:=hid (row_only HOe.o hO3 (dec2_not w));have HS3:Hid (w.heap.size+3≤w3.heap.size):=hid (by have:=hO3.size;have:=HSr.o;omega);clear hD3 hO3 HNc x2 x3;obtain⟨e4,he4⟩:=nm (E+4);rw[←he4]at HD3 HU3 hu1 hu2;have HUp:=hid (up_any e4 (by omega) w3);rw[←HU3.o]at HUp;have x1:=cell_of_row w3 _ 0 _ _ _ HD3.o.c1;have x2:=cell_of_row w3 _ 0 _ _ _ HD3.o.c2;have x3:=cell_of_row w3 _ 0 _ _ _ HD3.o.c3;have HE4:=hid he4;have HBy:Hid (BytesAt w3 (.slice (some ⟨b,o,none⟩) E c) (Gd.recBody P)):=hid (by
    have hE2:(Gd.recBody P).length=E:=by
     rw[←HEnd.o.2.1,Gd.part_length (by have:=Hll.o;omega)]
    refine⟨_,c,by rw[hE2],Or.inr ⟨b,o,rfl,Nat.lt_of_lt_of_le HBc.o.1 HD3.o.below.size,fun j x hx=> ?_⟩⟩;have hj:j<E:=by rw[←hE2];exact(List.getElem?_eq_some_iff.1 hx).1
    rw[←HEnd.o.2.1,Gd.part_get hj,Nat.zero_add]at hx;exact(HD3.o.below.cell (p:=⟨b,o+j,none⟩) HBc.o.1).trans (HBc.o.2 _ _ hx))
   have HCr:=hid (crc_any _ (Gd.recBody P) w3 HBy.o (by have h2:=HEnd.o.2.1;have h3:=congrArg List.length h2;rw[Gd.part_length (by have:=Hll.o;omega)]at h3;omega));rw[←HCc.o]at HCr;have hEc:(E:Int)≤c:=by omega
   have he5:(e4:Int)≤ll:=by omega
   have he6:(E:Int)+4=e4:=by omega
   clear he4 HBy;go_wp2_with fail
   refine HUp.o.mono ?_;rintro e w4 ⟨rfl,rfl⟩;clear HUp;go_wp2_with fail
   refine HCr.o.mono ?_;rintro e w5 ⟨rfl,hb5⟩;have HD5:=hid (HD3.o.read hb5);have HO5:=hid (row_below HO3.o hb5);have HS5:Hid (w.heap.size+3≤w5.heap.size):=hid (by have:=hb5.size;have:=HS3.o;omega);clear hb5 HCr x1 x2 x3;have x1:=cell_of_row w5 _ 0 _ _ _ HD5.o.c1;have x2:=cell_of_row w5 _ 0 _ _ _ HD5.o.c2;have x3:=cell_of_row w5 _ 0 _ _ _ HD5.o.c3;have HZ:Hid (∀j,j<ll-e4→w5.cell? ⟨b,o+e4+j,none⟩=some (.int .u8 0)):=hid fun j hj=>by
    rw[Nat.add_assoc];have h1:=HEnd.o.2.2.2 (e4+j) (by omega) (by have:=Hll.o;omega);exact(HD5.o.below.cell (p:=⟨b,o+(e4+j),none⟩) HBc.o.1).trans (HBc.o.2 _ _ h1)
   have HFin:Hid (w5.ownsRow w.heap.size 152 2 u8 i (flatP P)):=hid <| by
    rw[Hn.o];exact⟨HO5.o.1,HO5.o.2.imp id fun⟨q,cap,cur,hv,hB,r⟩=>⟨q,cap,cur,hv,by omega,r⟩⟩
   by_cases hce:e4=c
   ·obtain rfl:ll=e4:=by omega
    subst hce;go_upto_region 30 with fail
    go_loopw[17,89] (fun y z wx=>z= .int .i64 0∧wx=w5) (fun _ _ _=>0)
    case atStart=>exact⟨rfl,rfl⟩
    case round=>
     obtain⟨rfl,rfl⟩:=hrel;go_wp2;go_ret3
     exact⟨u8,rfl,HFin.o,HD5.o.below⟩
   ·have hce':(e4:Int)<c:=by omega
    obtain⟨m,hm⟩:∃m,ll=e4+m:=⟨ll-e4,by omega⟩;have hm2:(ll:Int)-e4=m:=by omega
    have hm3:ll-e4=m:=by omega
    have HM:=hid hm;rw[hm3]at HZ;clear hm;go_upto_region 30 with fail
    go_loopw[17,89] (fun y z wx=>∃j:Nat,z= .int .i64 j∧j≤m∧wx=w5) (fun _ z _=>m-(intOf z).toNat)
    case atStart=>exact⟨0,rfl,by omega,rfl⟩
    case round=>
     obtain⟨j,rfl,hj,rfl⟩:=hrel;by_cases hjm:j<m
     ·have z0:=HZ.o j hjm;have j1:(j:Int)<m:=by omega
      have j0:(0:Int)≤j:=by omega
      go_wp2;go_roundw
      case rel=>exact⟨j+1,by go_num,by omega,trivial⟩
      case measure=>simp[intOf];omega
     ·obtain rfl:j=m:=by omega
      go_wp2;go_ret3
      exact⟨u8,rfl,HFin.o,HD5.o.below⟩
end Go.Proofs.YtckoobkjpndgnaaGreatDoor
