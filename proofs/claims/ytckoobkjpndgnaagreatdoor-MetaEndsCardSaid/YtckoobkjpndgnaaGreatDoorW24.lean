/- Walks: the document's file: a cut, a close. -/
import Derived.Test.YtckoobkjpndgnaaGreatDoorW23
set_option linter.unusedVariables false
set_option linter.unusedSimpArgs false
set_option linter.unusedSectionVars false
set_option maxHeartbeats 8000000
set_option maxRecDepth 100000
namespace Go.Proofs.YtckoobkjpndgnaaGreatDoor
open Go.RowKit
open Lib(hid)
open Go.Proofs.Tryz
theorem rfile_close(r:Nat)(S:Pz.Fil)(cl:Int)(m:Nat)(flags fd off n:Int)(p p2 data:ByteArray)(w:World)(F:Nat→Prop)(hpre:Pz.Good 1000 S)(hm:m<S.N.length)(hR:RefF r S w F):
 Calls prog 50 #[.pointer (some ⟨r,0,none⟩),.int .i64 cl,.int .i64 m,callV 2 p p2 flags fd off n data] w (Does (RefF r) ({S with O:=Pz.shut S.O cl fd},Pz.er 0) w F):=by
 have hE:=hpre.e;have hOl:=hpre.o;have hdl:=Pz.nodeD_data hpre hm;have FX:=pst hR 2 p p2 flags fd off n data;obtain⟨b,c,g,g0,g1,g2,hrl,hbl⟩:=hR.dirLow hm;obtain⟨D,hD⟩:∃D:ByteArray,D=⟨(Pz.nodeD S.N m).data.toArray⟩:=⟨_,rfl⟩;have hDs:D.size≤256:=by rw[hD,Lib.size_eq];exact hdl
 obtain⟨q,hq⟩:=nm S.N.length;rw[←hD]at g1;rw[←hq]at g;have hm1:(0:Int)≤m:=by omega
 have hm2:(m:Int)<q:=by omega
 have Hq:=hid hq;have HDD:=hid hD;have HR:=hid hR;obtain⟨i0,hi,hz0,hz1,hz2⟩:=info_parts infoO;obtain⟨WW,hWW⟩:=nm (((w.alloc (.cells #[.int .i64 2,.string p,.string p2,.int .i64 flags,.int .i64 fd,.int .i64 off,.int .i64 n,.string data] 28)).alloc (.cells #[.int .i64 0,.int .i64 0,.string ⟨#[]⟩,.slice none 0 0,.int .i64 0,.int .i64 0,.int .i64 0] 47)));rw[←hWW]at FX;have hWs:WW.heap.size=w.heap.size+2:=by rw[hWW];simp
 have HWW:=hid hWW;obtain⟨vN,vE,vO,hA,hr,hiN,hiE,hiO⟩:=FX.o.inv;have HA:=hid hA;have HI:=hid (And.intro hr (And.intro hiN (And.intro hiE hiO)));obtain⟨AO,co,rfl,hco,hrow⟩:=row3 hA.oO;have hc2:=hA.c2;have hrW:=hA.lt;have hfr:=hA.fr 2;have HRow:=hid hrow;obtain⟨nO,hnO⟩:=nm S.O.length;rw[←hnO]at hc2 hOl;have HnO:=hid hnO;obtain⟨b0,b1,b2,b3,b4,b5,b6,b7⟩:=FX.o.c8;have hbw0:w.heap.size<WW.heap.size:=by omega
 clear hA hr hiN hiE hiO hrow hco hnO hpre hR hE hdl hD hq hm hWW b0 b1 b2 b3 b5 b6 b7;unfold callV;go_enter func50,ntmps50;go_wp2;rw[←HWW.o];go_loopw[10,11] (fun u v wr=>∃(k:Nat) (T:List Pz.Op),k≤nO∧T.length≤k∧v= .int .i64 k∧wr.ownsRow WW.heap.size 117 3 u T.length (cO T)∧Hid (T=Pz.shut (S.O.take k) cl fd)∧Below WW.heap.size WW wr) (fun _ v _=>nO-(intOf v).toNat)
 case atStart=>exact⟨0,[],by omega,by simp,rfl,World.ownsRow_nil _ _ _ _,by show[]=Pz.shut (S.O.take 0) cl fd;rfl,Below.refl _ _⟩
 case round=>
  obtain⟨k,T,hk,hT,rfl,hown,hok,hbw⟩:=hrel;have hc2':wr.cell? ⟨r,2,none⟩=some (.slice AO nO co):=(hbw.cell (p:=⟨r,2,none⟩) hrW).trans hc2;have b4':=(hbw.cell (p:=⟨w.heap.size,4,none⟩) hbw0).trans b4;obtain⟨A',c',hv,hc',_⟩:=row3 hown;rw[hv]at hown;rw[hv];by_cases hkn:k<nO
  ·obtain⟨e,he⟩:∃e,S.O[k]? =some e:=⟨_,List.getElem?_eq_getElem (by have:=HnO.o;omega)⟩;obtain⟨b,rfl,_,hb,h0,h1,h2,_⟩:=HRow.o k e he;have hst:=Pz.shut_step (c:=cl) (fd:=fd) he;rw[←hok.o]at hst;have Hst:=hid hst;have HC:=hid (And.intro h0 (And.intro h1 (And.intro h2 (And.intro hc2 b4))));have g0:=(hbw.cell (p:=⟨b,k*3,none⟩) hb).trans h0;have g1:=(hbw.cell (p:=⟨b,k*3+1,none⟩) hb).trans h1;have g2:=(hbw.cell (p:=⟨b,k*3+2,none⟩) hb).trans h2;clear h0 h1 h2 he hst hc2 b4;have hk1:(0:Int)≤k:=by omega
   have hk2:(k:Int)<nO:=by omega
   have hsn:cO T++[.int .i64 e.client,.int .i64 e.fd,.int .i64 e.node]=cO (T++[e]):=by
    unfold cO;rw[Pz.three_snoc]
   have Hsn:=hid hsn;clear hsn;by_cases hd:e.client=cl∧e.fd=fd
   ·have hps:=hid hd;obtain⟨rfl,rfl⟩:=hd;go_wp2;go_quiet (fail)
    have hbq:=below_drewN hbw nq;have hoq:(wr.drewN nq).ownsRow WW.heap.size 117 3 (.slice A' T.length c') T.length (cO T):=hown;clear hc2' b4' g0 g1 g2 hbw hown;generalize wr.drewN nq=wq at hbq hoq⊢;go_wp2;go_roundw
    case rel=>exact⟨k+1,T,by omega,by omega,by go_num,hoq,by show T=_;rw[Hst.o,if_pos hps.o];simp,hbq⟩
    case measure=>simp[intOf];omega
   ·have Hne:=hid hd;by_cases hd1:e.client=cl
    ·have hd3:(e.fd==fd)=false:=by rw[beq_eq_false_iff_ne];exact fun h=>hd ⟨hd1,h⟩
     clear hd;subst hd1;go_wp2;go_quiet (fail)
     have hbq:=below_drewN hbw nq;have hoq:(wr.drewN nq).ownsRow WW.heap.size 117 3 (.slice A' T.length c') T.length (cO T):=hown;clear hc2' b4' g0 g1 g2 hbw hown;generalize wr.drewN nq=wq at hbq hoq⊢;obtain⟨h0,h1,h2,hc2,b4⟩:=HC.o;have g0:=(hbq.cell (p:=⟨b,k*3,none⟩) hb).trans h0;have g1:=(hbq.cell (p:=⟨b,k*3+1,none⟩) hb).trans h1;have g2:=(hbq.cell (p:=⟨b,k*3+2,none⟩) hb).trans h2;have hc2':=(hbq.cell (p:=⟨r,2,none⟩) hrW).trans hc2;clear h0 h1 h2 hc2 b4
     go_wp2_with(at_builtin;refine wpList_append_own _ rfl _ _ 111 rfl WW.heap.size 117 i0 _ 3 24 underlying111 hi hz0 hz1 hz2 rfl (by decide) (.slice A' T.length c') T.length (cO T) rfl (hoq.alloc _) ⟨wq.heap.size,0,none⟩ 1 1 [.int .i64 e.client,.int .i64 e.fd,.int .i64 e.node] rfl rfl (pcells_new3 _ _ _ _ _) (by intro u hu;simp at hu;rcases hu with rfl|rfl|rfl<;>rfl) (by unfold maxLen;omega) (by omega) (by have:=hbq.size;simp;omega) ?_;intro v' w1 hown' hgrow _)
     rw[Hsn.o,show T.length+1=(T++[e]).length by simp]at hown';have hB1:Below WW.heap.size WW w1:=(hbq.alloc hbq.size _).grown hgrow (by have:=hbq.size;simp;omega) (fun q hq=>(hoq.lt q hq).1);obtain⟨A2,c2,hv',_,_⟩:=row3 hown';rw[hv']at hown';rw[hv'];have HO:=hid hown';clear hown' hoq hv' hv;go_wp2;go_roundw
     case rel=>exact⟨k+1,T++[e],by omega,by simp;omega,by go_num,HO.o,by show T++[e]=_;rw[Hst.o,if_neg Hne.o],hB1⟩
     case measure=>simp[intOf];omega
    ·have hd2:(e.client !=cl)=true:=by rw[bne_iff_ne];exact hd1
     clear hd hd1;go_wp2;go_quiet (fail)
     have hbq:=below_drewN hbw nq;have hoq:(wr.drewN nq).ownsRow WW.heap.size 117 3 (.slice A' T.length c') T.length (cO T):=hown;clear hc2' b4' g0 g1 g2 hbw hown;generalize wr.drewN nq=wq at hbq hoq⊢;obtain⟨h0,h1,h2,hc2,b4⟩:=HC.o;have g0:=(hbq.cell (p:=⟨b,k*3,none⟩) hb).trans h0;have g1:=(hbq.cell (p:=⟨b,k*3+1,none⟩) hb).trans h1;have g2:=(hbq.cell (p:=⟨b,k*3+2,none⟩) hb).trans h2;have hc2':=(hbq.cell (p:=⟨r,2,none⟩) hrW).trans hc2;clear h0 h1 h2 hc2 b4
     go_wp2_with(at_builtin;refine wpList_append_own _ rfl _ _ 111 rfl WW.heap.size 117 i0 _ 3 24 underlying111 hi hz0 hz1 hz2 rfl (by decide) (.slice A' T.length c') T.length (cO T) rfl (hoq.alloc _) ⟨wq.heap.size,0,none⟩ 1 1 [.int .i64 e.client,.int .i64 e.fd,.int .i64 e.node] rfl rfl (pcells_new3 _ _ _ _ _) (by intro u hu;simp at hu;rcases hu with rfl|rfl|rfl<;>rfl) (by unfold maxLen;omega) (by omega) (by have:=hbq.size;simp;omega) ?_;intro v' w1 hown' hgrow _)
     rw[Hsn.o,show T.length+1=(T++[e]).length by simp]at hown';have hB1:Below WW.heap.size WW w1:=(hbq.alloc hbq.size _).grown hgrow (by have:=hbq.size;simp;omega) (fun q hq=>(hoq.lt q hq).1);obtain⟨A2,c2,hv',_,_⟩:=row3 hown';rw[hv']at hown';rw[hv'];have HO:=hid hown';clear hown' hoq hv' hv;go_wp2;go_roundw
     case rel=>exact⟨k+1,T++[e],by omega,by simp;omega,by go_num,HO.o,by show T++[e]=_;rw[Hst.o,if_neg Hne.o],hB1⟩
     case measure=>simp[intOf];omega
  ·have hk2:(nO:Int)≤k:=by omega
   have hTE:T=Pz.shut S.O cl fd:=by rw[hok.o,List.take_of_length_le (by have:=HnO.o;omega)]
   have hat:Lies WW (.slice AO S.O.length co) (.slice A' T.length c'):=by
    cases hv:(Value.slice A' T.length c').ownBlock with
    |none=>exact Or.inr (Or.inl hv)
    |some q=>exact Or.inr (Or.inr ⟨q,(hown.lt q hv).1,hv⟩)
   obtain⟨hr,hiN,hiE,hiO⟩:=HI.o;obtain⟨hR',hb'⟩:=HA.o.putO hr hiN hiE hiO (gbut (grown_of hbw)) (row_low hown (Nat.zero_le _)) hat;have f1':wr.frozen? ⟨r,2,none⟩=false:=(hbw.frozen (p:=⟨r,2,none⟩) hrW).trans hfr;have FX1:=hid (FX.o.write (RefF.held _ _) hR' hb');have HTE:Hid ((({S with O:=Pz.shut S.O cl fd}:Pz.Fil),Pz.er 0)=({S with O:=T},Pz.er 0)):=hid (by rw[hTE]);clear hR' hb' hown hat hr hiN hiE hiO hTE;obtain⟨c0,c1,c2,c3,c4,c5,c6,f0,f1,f2,f3,f4,f5,f6⟩:=pcells FX1.o.res;go_wp2;try simp only[Exit.inBlock,Exit.then]
   exact pret HTE.o FX1.o none 0 (Or.inl rfl)
namespace Pz
theorem namesOf_step{E:List En}{k:Nat}{e:En}{i:Nat}(he:E[k]? =some e):namesOf (E.take (k+1)) i=if e.dir=i then ins e.name (namesOf (E.take k) i)else namesOf (E.take k) i:=by
 unfold namesOf;rw[List.take_add_one,he,List.filter_append,List.map_append,List.foldl_append];by_cases h:e.dir=i
 ·simp[h]
 ·simp[h]
theorem ins_len(x:List UInt8):∀L:List (List UInt8),(ins x L).length=L.length+1
 |[]=>rfl
 |y::r=>by
  rw[ins];split
  ·rfl
  ·simp[ins_len x r]
theorem namesOf_le(E:List En)(i:Nat):(namesOf E i).length≤E.length:=by
 have h:∀(M:List (List UInt8)) (L:List (List UInt8)),(M.foldl (fun l x=>ins x l) L).length=L.length+M.length:=by
  intro M;induction M with
  |nil=>intro L;simp
  |cons a r ih=>intro L;rw[List.foldl_cons,ih,ins_len];simp;omega
 unfold namesOf;rw[h];have:=List.length_filter_le (fun e:En=>e.dir==i) E
 simp;omega
end Pz
theorem less_eq:∀(x y:List UInt8),Op.bytesLess x y=decide (x<y)
 |[],[]=>by simp[Op.bytesLess]
 |_::_,[]=>by simp[Op.bytesLess]
 |[],_::_=>by simp[Op.bytesLess]
 |a::x,b::y=>by
  rw[Op.bytesLess,less_eq x y,Bool.eq_iff_iff];simp[List.cons_lt_cons_iff]
theorem own_snoc{w:World}{B:Nat}{v:Value}{M:List (List UInt8)}{x:ByteArray}{l:List UInt8}(hx:x.data.toList=l)(h:w.ownsRow B 9 1 v (M.length+1) (cellsL M++[.string x])):∃A c,w.ownsRow B 9 1 (.slice A (M.length+1) c) (M.length+1) (cellsL (M++[l]))∧v= .slice A (M.length+1) c:=by
 rw[cellsL_snoc M x l hx,show M.length+1=(M++[l]).length by simp]at h;obtain⟨A,c,hv,_⟩:=owns_strs h;rw[hv]at h;have e:(M++[l]).length=M.length+1:=by simp
 rw[e]at h hv;exact⟨A,c,h,hv⟩
def NamesYes(L:List (List UInt8))(w:World)(e:Ending)(w':World):Prop:=∃A c,e= .returned (.slice A L.length c)∧Strs w' w.heap.size A L∧Below w.heap.size w w'
theorem rnames_any(r:Nat)(S:Pz.Fil)(i:Nat)(w:World)(hE:S.E.length≤1000)(hR:RefIs w 0 r S):
 Calls prog 106 #[.pointer (some ⟨r,0,none⟩),.int .i64 i] w (NamesYes (Pz.namesOf S.E i) w):=by
 obtain⟨vN,vE,vO,hA⟩:=hR;obtain⟨A,c,rfl,hc,hrow⟩:=row3 hA.oE;have hc1:=hA.c1;have hlt:=hA.lt;have HR:=hid hrow;clear hrow hA hc;obtain⟨n,hn⟩:=nm S.E.length;rw[←hn]at hc1 hE;have Hn:=hid hn;clear hn;obtain⟨i0,hi,hz0,hz1,hz2⟩:=info_parts infoS;obtain⟨RR,hRR⟩:=nm (Pz.namesOf S.E i);rw[←hRR];have HRR:=hid hRR;clear hRR;go_enter func106,ntmps106;go_wp2;go_loopw[5,6] (fun u v wr=>∃(k:Nat) (T:List (List UInt8)),k≤n∧T.length≤k∧v= .int .i64 k∧wr.ownsRow w.heap.size 9 1 u T.length (cellsL T)∧Hid (T=Pz.namesOf (S.E.take k) i)∧Below w.heap.size w wr) (fun _ v _=>n-(intOf v).toNat)
 case atStart=>exact⟨0,[],by omega,by simp,rfl,World.ownsRow_nil _ _ _ _,by show[]=Pz.namesOf (S.E.take 0) i;rfl,Below.refl _ _⟩
 case round=>
  obtain⟨k,T,hk,hT,rfl,hown,hok,hbw⟩:=hrel;obtain⟨w1,rfl⟩:=nm wr;have hc1':w1.cell? ⟨r,1,none⟩=some (.slice A n c):=(hbw.cell (p:=⟨r,1,none⟩) hlt).trans hc1;obtain⟨A',c',hv,_,hc',hS⟩:=owns_strs hown;rw[hv]at hown;rw[hv];by_cases hkn:k<n
  ·obtain⟨e,he⟩:∃e,S.E[k]? =some e:=⟨_,List.getElem?_eq_getElem (by have:=Hn.o;omega)⟩;obtain⟨b,rfl,_,hb,h0,h1,h2,_⟩:=HR.o k e he;have hst:=Pz.namesOf_step (i:=i) he;rw[←hok.o]at hst;have Hst:=hid hst;obtain⟨x,hx⟩:∃x:ByteArray,x=⟨e.name.toArray⟩:=⟨_,rfl⟩;rw[←hx]at h1;have Hx:=hid hx;have HC:=hid (And.intro h0 (And.intro h1 hc1));have g0:=(hbw.cell (p:=⟨b,k*3,none⟩) hb).trans h0;clear h0 h1 h2 he hst hc1 hx;have hk1:(0:Int)≤k:=by omega
   have hk2:(k:Int)<n:=by omega
   by_cases hd:e.dir=i
   ·subst hd;rw[if_pos rfl]at Hst;have HS:=hid hS;clear hS;have HO:=hid hown;clear hown;have HI0:Hid (Pz.ins e.name T=[]++(if false=true then T.drop 0 else Pz.ins e.name (T.drop 0))):=hid rfl;go_wp2;go_loopw[7,8,9] (fun u pv v w2=>∃(m:Nat) (pb:Bool) (M:List (List UInt8)),m≤T.length∧Hid (M.length≤m+pb.toNat)∧v= .int .i64 m∧pv= .bool pb∧w2.ownsRow w1.heap.size 9 1 u M.length (cellsL M)∧Hid (Pz.ins e.name T=M++(if pb=true then T.drop m else Pz.ins e.name (T.drop m)))∧Below w1.heap.size w1 w2) (fun _ _ v _=>T.length-(intOf v).toNat)
    case atStart=>exact⟨0,false,[],by omega,Nat.le_refl 0,rfl,rfl,World.ownsRow_nil _ _ _ _,HI0.o,Below.refl _ _⟩
    case round=>
     obtain⟨m,pb,M,hm,hM,rfl,rfl,hown2,hok2,hbw2⟩:=hrel;obtain⟨w2,rfl⟩:=nm wr;obtain⟨A2,c2,hv2,_,hc2,hS2⟩:=owns_strs hown2;rw[hv2]at hown2;rw[hv2];by_cases hmn:m<T.length
     ·obtain⟨y,hy⟩:∃y,T[m]? =some y:=⟨_,List.getElem?_eq_getElem hmn⟩;have hcy:∃b o,A'=some ⟨b,o,none⟩∧w2.cell? ⟨b,o+m,none⟩=some (.string ⟨y.toArray⟩):=by
       rcases HS.o with h|⟨b,o,h1,_,h3,h4,_⟩
       ·rw[h]at hy;cases hy
       ·exact⟨b,o,h1,(hbw2.cell (p:=⟨b,o+m,none⟩) h3).trans (h4 m y hy)⟩
      obtain⟨b2,o2,rfl,hcy⟩:=hcy;obtain⟨h0,h1,hc1⟩:=HC.o;have g1:=((hbw.trans (hbw2.mono hbw.size)).cell (p:=⟨b,k*3+1,none⟩) hb).trans h1;have gc:=((hbw.trans (hbw2.mono hbw.size)).cell (p:=⟨r,1,none⟩) hlt).trans hc1;clear h0 h1 hc1 hc1';have hm1:(0:Int)≤m:=by omega
      have hm2:(m:Int)<T.length:=by omega
      have hdr:T.drop m=y::T.drop (m+1):=by
       obtain⟨h,h2⟩:=List.getElem?_eq_some_iff.1 hy;rw[List.drop_eq_getElem_cons h,h2]
      obtain⟨ys,hys⟩:∃ys:ByteArray,ys=⟨y.toArray⟩:=⟨_,rfl⟩;rw[←hys]at hcy;have Hys:Hid (ys.data.toList=y):=hid (by rw[hys]);have Hxl:Hid (x.data.toList=e.name):=hid (by rw[Hx.o]);have HCy:=hid hcy;have HB12:=hid (hbw.trans (hbw2.mono hbw.size));have hb2l:b2<w1.heap.size:=by
       rcases HS.o with h|⟨b,o,h1,_,h3,_⟩
       ·rw[h]at hmn;simp at hmn
       ·cases h1;exact h3
      rw[hdr]at hok2;clear hdr hy hys hS2
      cases pb with
      |true=>
       have hM:M.length≤m+1:=hM.o;rw[if_pos rfl]at hok2;have HOk:Hid (Pz.ins e.name T=(M++[y])++(if true=true then T.drop (m+1)else Pz.ins e.name (T.drop (m+1)))):=hid (by rw[hok2.o,if_pos rfl];simp);clear hok2;go_wp2;go_quiet (fail)
       have hbq:=below_drewN hbw2 nq;have hoq:(w2.drewN nq).ownsRow w1.heap.size 9 1 (.slice A2 M.length c2) M.length (cellsL M):=hown2;clear hown2 g1 gc hcy;generalize w2.drewN nq=wq at hbq hoq⊢;obtain⟨h0,h1,hc1⟩:=HC.o;have hbq0:=hbw.trans (hbq.mono hbw.size);have g1:=(hbq0.cell (p:=⟨b,k*3+1,none⟩) hb).trans h1;have gc:=(hbq0.cell (p:=⟨r,1,none⟩) hlt).trans hc1;have hcy:=(hbq.cell (p:=⟨b2,o2+m,none⟩) hb2l).trans ((hbw2.cell (p:=⟨b2,o2+m,none⟩) hb2l).symm.trans HCy.o);clear h0 h1 hc1
       go_wp2_with(at_builtin;refine wpList_append_own _ rfl _ _ 43 rfl w1.heap.size 9 i0 (.string ByteArray.empty) 1 16 underlying43 hi hz0 hz1 hz2 rfl (by decide) (.slice A2 M.length c2) M.length (cellsL M) rfl (hoq.alloc _) ⟨wq.heap.size,0,none⟩ 1 1 [.string ys] rfl rfl (cell_one_new _ _ _) (by intro u hu;simp only[List.mem_singleton]at hu;subst hu;rfl) (by unfold maxLen;omega) (by omega) (by have:=hbq.size;simp;omega) ?_;intro v' w3 hown' hgrow _)
       rw[cellsL_snoc _ ys y Hys.o,show M.length+1=(M++[y]).length by simp]at hown';have hB1:Below w1.heap.size w1 w3:=(hbq.alloc hbq.size _).grown hgrow (by have:=hbq.size;simp;omega) (fun q hq=>(hoq.lt q hq).1);obtain⟨A3,c3,hv',_,_,_⟩:=owns_strs hown';rw[hv']at hown';rw[hv'];have HO:=hid hown';clear hown' hoq hv';go_wp2;go_roundw
       case rel=>exact⟨m+1,true,M++[y],by omega,by show(M++[y]).length≤m+1+1;simp;omega,by go_num,rfl,HO.o,HOk.o,hB1⟩
       case measure=>simp[intOf];omega
      |false=>
       have hM:M.length≤m:=hM.o;rw[if_neg (by decide),Pz.ins]at hok2;by_cases hxy:e.name<y
       ·rw[if_pos hxy]at hok2;have hl:Op.bytesLess x.toList ys.toList=true:=by rw[less_eq,Lib.toList_data,Lib.toList_data,Hxl.o,Hys.o];exact decide_eq_true hxy
        have HOk:Hid (Pz.ins e.name T=((M++[e.name])++[y])++(if true=true then T.drop (m+1)else Pz.ins e.name (T.drop (m+1)))):=hid (by rw[hok2.o,if_pos rfl];simp);clear hok2 hxy;go_wp2;go_quiet (fail)
        have hbq:=below_drewN hbw2 nq;have hoq:(w2.drewN nq).ownsRow w1.heap.size 9 1 (.slice A2 M.length c2) M.length (cellsL M):=hown2;clear hown2 g1 gc hcy;generalize w2.drewN nq=wq at hbq hoq⊢;obtain⟨h0,h1,hc1⟩:=HC.o;have hbq0:=hbw.trans (hbq.mono hbw.size);have g1:=(hbq0.cell (p:=⟨b,k*3+1,none⟩) hb).trans h1;have gc:=(hbq0.cell (p:=⟨r,1,none⟩) hlt).trans hc1;have hcy:=(hbq.cell (p:=⟨b2,o2+m,none⟩) hb2l).trans ((hbw2.cell (p:=⟨b2,o2+m,none⟩) hb2l).symm.trans HCy.o);clear h0 h1 hc1;clear hl
        go_wp2_with(first|(at_builtin;refine wpList_append_own _ rfl _ _ 43 rfl w1.heap.size 9 i0 (.string ByteArray.empty) 1 16 underlying43 hi hz0 hz1 hz2 rfl (by decide) (.slice A2 M.length c2) M.length (cellsL M) rfl (hoq.alloc _) ⟨wq.heap.size,0,none⟩ 1 1 [.string x] rfl rfl (cell_one_new _ _ _) (by intro u hu;simp only[List.mem_singleton]at hu;subst hu;rfl) (by unfold maxLen;omega) (by omega) (by have:=hbq.size;simp;omega) ?_;intro v' w4 hown4 hgrow4 _;obtain⟨A4,c4,ho4,rfl⟩:=own_snoc (Hxl.o) hown4;have hB4:Below w1.heap.size w1 w4:=(hbq.alloc hbq.size _).grown hgrow4 (by have:=hbq.size;simp;omega) (fun q hq=>(hoq.lt q hq).1);have hcy4:=(hB4.cell (p:=⟨b2,o2+m,none⟩) hb2l).trans ((hbw2.cell (p:=⟨b2,o2+m,none⟩) hb2l).symm.trans HCy.o))|(at_builtin;refine wpList_append_own _ rfl _ _ 43 rfl w1.heap.size 9 i0 (.string ByteArray.empty) 1 16 underlying43 hi hz0 hz1 hz2 rfl (by decide) (.slice A4 (M.length+1) c4) (M.length+1) (cellsL (M++[e.name])) rfl (ho4.alloc _) ⟨w4.heap.size,0,none⟩ 1 1 [.string ys] rfl rfl (cell_one_new _ _ _) (by intro u hu;simp only[List.mem_singleton]at hu;subst hu;rfl) (by unfold maxLen;omega) (by omega) (by have:=hB4.size;simp;omega) ?_;intro v' w3 hown' hgrow _))
        rw[cellsL_snoc _ ys y Hys.o,show M.length+1+1=((M++[e.name])++[y]).length by simp]at hown';have hB1:Below w1.heap.size w1 w3:=(hB4.alloc hB4.size _).grown hgrow (by have:=hB4.size;simp;omega) (fun q hq=>(ho4.lt q hq).1);obtain⟨A3,c3,hv',_,_,_⟩:=owns_strs hown';rw[hv']at hown';rw[hv'];have HO:=hid hown';clear hown' hv' ho4;go_wp2;go_roundw
        case rel=>exact⟨m+1,true,(M++[e.name])++[y],by omega,by show((M++[e.name])++[y]).length≤m+1+1;simp;omega,by go_num,rfl,HO.o,HOk.o,hB1⟩
        case measure=>simp[intOf];omega
       ·rw[if_neg hxy]at hok2;have hl:Op.bytesLess x.toList ys.toList=false:=by rw[less_eq,Lib.toList_data,Lib.toList_data,Hxl.o,Hys.o];exact decide_eq_false hxy
        have HOk:Hid (Pz.ins e.name T=(M++[y])++(if false=true then T.drop (m+1)else Pz.ins e.name (T.drop (m+1)))):=hid (by rw[hok2.o,if_neg (by decide)];simp);clear hok2 hxy;go_wp2;go_quiet (fail)
        have hbq:=below_drewN hbw2 nq;have hoq:(w2.drewN nq).ownsRow w1.heap.size 9 1 (.slice A2 M.length c2) M.length (cellsL M):=hown2;clear hown2 g1 gc hcy;generalize w2.drewN nq=wq at hbq hoq⊢;obtain⟨h0,h1,hc1⟩:=HC.o;have hbq0:=hbw.trans (hbq.mono hbw.size);have g1:=(hbq0.cell (p:=⟨b,k*3+1,none⟩) hb).trans h1;have gc:=(hbq0.cell (p:=⟨r,1,none⟩) hlt).trans hc1;have hcy:=(hbq.cell (p:=⟨b2,o2+m,none⟩) hb2l).trans ((hbw2.cell (p:=⟨b2,o2+m,none⟩) hb2l).symm.trans HCy.o);clear h0 h1 hc1;clear hl
        go_wp2_with(at_builtin;refine wpList_append_own _ rfl _ _ 43 rfl w1.heap.size 9 i0 (.string ByteArray.empty) 1 16 underlying43 hi hz0 hz1 hz2 rfl (by decide) (.slice A2 M.length c2) M.length (cellsL M) rfl (hoq.alloc _) ⟨wq.heap.size,0,none⟩ 1 1 [.string ys] rfl rfl (cell_one_new _ _ _) (by intro u hu;simp only[List.mem_singleton]at hu;subst hu;rfl) (by unfold maxLen;omega) (by omega) (by have:=hbq.size;simp;omega) ?_;intro v' w3 hown' hgrow _)
        rw[cellsL_snoc _ ys y Hys.o,show M.length+1=(M++[y]).length by simp]at hown';have hB1:Below w1.heap.size w1 w3:=(hbq.alloc hbq.size _).grown hgrow (by have:=hbq.size;simp;omega) (fun q hq=>(hoq.lt q hq).1);obtain⟨A3,c3,hv',_,_,_⟩:=owns_strs hown';rw[hv']at hown';rw[hv'];have HO:=hid hown';clear hown' hoq hv';go_wp2;go_roundw
        case rel=>exact⟨m+1,false,M++[y],by omega,by show(M++[y]).length≤m+1;simp;omega,by go_num,rfl,HO.o,HOk.o,hB1⟩
        case measure=>simp[intOf];omega
     ·have hm2:(T.length:Int)≤m:=by omega
      rw[List.drop_of_length_le (by omega)]at hok2;have HS2:=hid hS2;clear hS2
      cases pb with
      |true=>
       have hM:M.length≤m+1:=hM.o;have HM:Hid (M=Pz.ins e.name T):=hid (by rw[hok2.o,if_pos rfl,List.append_nil]);have hlen:M.length≤k+1:=by rw[HM.o,Pz.ins_len];omega
       have hB:=hbw.trans (hbw2.mono hbw.size);have ho2:=row_low hown2 hbw.size;clear hok2 hown2;go_wp2;go_roundw
       case rel=>exact⟨k+1,M,by omega,hlen,by go_num,ho2,HM.o.trans Hst.o.symm,hB⟩
       case measure=>simp[intOf];omega
      |false=>
       have hM:M.length≤m:=hM.o;have HM:Hid (M++[e.name]=Pz.ins e.name T):=hid (by rw[hok2.o,if_neg (by decide),Pz.ins]);have hlen:(M++[e.name]).length≤k+1:=by rw[HM.o,Pz.ins_len];omega
       have Hxl:Hid (x.data.toList=e.name):=hid (by rw[Hx.o]);obtain⟨h0,h1,hc1⟩:=HC.o;have g1:=((hbw.trans (hbw2.mono hbw.size)).cell (p:=⟨b,k*3+1,none⟩) hb).trans h1;have gc:=((hbw.trans (hbw2.mono hbw.size)).cell (p:=⟨r,1,none⟩) hlt).trans hc1;have hb2':=hbw2;clear h0 h1 hc1 hc1' hok2;go_wp2_with(at_builtin;refine wpList_append_own _ rfl _ _ 43 rfl w1.heap.size 9 i0 (.string ByteArray.empty) 1 16 underlying43 hi hz0 hz1 hz2 rfl (by decide) (.slice A2 M.length c2) M.length (cellsL M) rfl (hown2.alloc _) ⟨w2.heap.size,0,none⟩ 1 1 [.string x] rfl rfl (cell_one_new _ _ _) (by intro u hu;simp only[List.mem_singleton]at hu;subst hu;rfl) (by unfold maxLen;omega) (by omega) (by have:=hbw2.size;simp;omega) ?_;intro v' w3 hown' hgrow _)
       rw[cellsL_snoc _ x e.name Hxl.o,show M.length+1=(M++[e.name]).length by simp]at hown';have hB1:Below w1.heap.size w1 w3:=(hbw2.alloc hbw2.size _).grown hgrow (by have:=hbw2.size;simp;omega) (fun q hq=>(hown2.lt q hq).1);obtain⟨A3,c3,hv',_,_,_⟩:=owns_strs hown';rw[hv']at hown';rw[hv'];have HO:=hid hown';clear hown' hown2 hv';have hB:=hbw.trans (hB1.mono hbw.size);have ho2:=row_low HO.o hbw.size;have HO2:=hid ho2;clear ho2 HO;go_wp2;go_roundw
       case rel=>exact⟨k+1,M++[e.name],by omega,hlen,by go_num,HO2.o,HM.o.trans Hst.o.symm,hB⟩
       case measure=>simp[intOf];omega
   ·have hd1:((e.dir:Int) !=i)=true:=by rw[bne_iff_ne];omega
    rw[if_neg hd]at Hst;go_wp2;go_roundw
    case rel=>exact⟨k+1,T,by omega,by omega,by go_num,hown,Hst.o.symm,hbw⟩
    case measure=>simp[intOf];omega
  ·have hk2:(n:Int)≤k:=by omega
   have hTE:Hid (T=RR):=hid (by rw[hok.o,List.take_of_length_le (by have:=Hn.o;omega),HRR.o]);have HS:=hid hS;clear hS;go_wp2;go_ret
   rw[←hTE.o];exact⟨A',c',rfl,HS.o,hbw⟩
theorem rtells_any(r:Nat)(S:Pz.Fil)(kind flags fd off n:Int)(p p2 data:ByteArray)(w:World)(F:Nat→Prop)(hp:p.size≤100000)(hG:Pz.Good 1000 S)(hR:RefF r S w F):
 Calls prog 59 #[.pointer (some ⟨r,0,none⟩),callV kind p p2 flags fd off n data] w (Does (RefF r) (Pz.tells S kind p.data.toList) w F):=by
 have hE:=hG.e;have hN:=hG.n;have h1:=fun W G (hR:RefF r S W G)=>pfind_any 0 r S p W hp (by omega) (by omega) hG.ok hR.is;have FX:=pst hR kind p p2 flags fd off n data;unfold callV
 cases hf:Pz.find S p.data.toList with
 |error v=>
  have HResF:Hid (Pz.tells S kind p.data.toList=(S,Pz.er v)):=hid (by unfold Pz.tells;rw[hf]);rw[HResF.o];obtain⟨hv1,hv2,hv3⟩:=ne_of_err (Pz.find_err hf);rw[hf]at h1;simp only[toT]at h1;have HF:=hid h1;clear h1 hR hG hE hN hf HResF;go_enter func59,ntmps59;go_wp2_with fail
  refine prd FX HF fun w1 FX1=> ?_;go_wp2_with fail
  refine pfail FX1.o v fun wf FXF=> ?_;obtain⟨c0,c1,c2,c3,c4,c5,c6,f0,f1,f2,f3,f4,f5,f6⟩:=pcells FXF.o.res;go_wp2;try simp only[Exit.inBlock,Exit.then]
  exact pret rfl FXF.o none 0 (Or.inl rfl)
 |ok m=>
  have hm:=Pz.find_lt hG.ok hf;rw[hf]at h1;simp only[toT]at h1;have HF:=hid h1;have HD:=hid fun W G (h:RefF r S W G)=>h.dirAt hm;have HC:=hid fun W G (h:RefF r S W G)=>pcount_any 0 r S m W (by omega) h.is;have HNm:=hid fun W G (h:RefF r S W G)=>rnames_any r S m W (by omega) h.is;obtain⟨R,hres⟩:=nm (Pz.tells S kind p.data.toList);rw[←hres];obtain⟨q,hq⟩:=nm S.N.length;obtain⟨D,hD⟩:=nm (Pz.isDir S.N m);obtain⟨C,hC⟩:=nm (Pz.count S.E m);obtain⟨l,hl⟩:=nm ((Pz.nodeD S.N m).links);obtain⟨dd,hdd⟩:∃dd:ByteArray,dd=⟨(Pz.nodeD S.N m).data.toArray⟩:=⟨_,rfl⟩;have hds:dd.size≤256:=by rw[hdd,Lib.size_eq];exact Pz.nodeD_data hG hm
  have HRes:Hid (R=(S,if kind=13 then(if D=true then Pz.infoR 2 1 C else Pz.infoR 1 l dd.size)else if D=true then Pz.namesR (Pz.namesOf S.E m)else Pz.er 12)):=hid (by
   rw[hres,hD,hC,hl,hdd,Lib.size_eq];unfold Pz.tells;rw[hf])
  rw[←hq,←hD,←hdd,←hl]at HD;rw[←hC]at HC;rw[←hq]at hm;have hm1:(0:Int)≤m:=by omega
  have hm2:(m:Int)<q:=by omega
  clear h1 hR hG hf hE hN hq hD hC hl hdd hres;by_cases hk:kind=13
  ·have hk1:(kind==13)=true:=by rw[beq_iff_eq];exact hk
   cases D with
   |true=>
    have HResF:Hid (R=(S,Pz.infoR 2 1 C)):=hid (by rw[HRes.o,if_pos hk,if_pos rfl]);clear hk;go_enter func59,ntmps59;go_wp2_with fail
    refine prd FX HF fun w1 FX1=> ?_;obtain⟨b,c,g,g0,g1,g2⟩:=HD.o _ _ FX1.o.inv;have hsz:w.heap.size<w1.heap.size:=by have:=FX1.o.st.size;omega
    obtain⟨b0,b1,b2,b3,b4,b5,b6,b7⟩:=FX1.o.c8;have FX2:=hid (FX1.o.read (RefF.held _ _) ((Below.refl w1.heap.size w1).alloc (Nat.le_refl _) (.cells #[.bool true,.string dd,.int .i64 l] 115)));go_wp2_with fail
    refine prd FX2 HC fun w3 FX3=> ?_;clear b0 b1 b2 b3 b4 b5 b6 b7;clear g g0 g1 g2;obtain⟨c0,c1,c2,c3,c4,c5,c6,f0,f1,f2,f3,f4,f5,f6⟩:=pcells FX3.o.res;go_wp2;try simp only[Exit.inBlock,Exit.then]
    exact pret HResF.o FX3.o none 0 (Or.inl rfl)
   |false=>
    have HResF:Hid (R=(S,Pz.infoR 1 l dd.size)):=hid (by rw[HRes.o,if_pos hk,if_neg (by decide)]);clear hk;go_enter func59,ntmps59;go_wp2_with fail
    refine prd FX HF fun w1 FX1=> ?_;obtain⟨b,c,g,g0,g1,g2⟩:=HD.o _ _ FX1.o.inv;have hsz:w.heap.size<w1.heap.size:=by have:=FX1.o.st.size;omega
    obtain⟨b0,b1,b2,b3,b4,b5,b6,b7⟩:=FX1.o.c8;have FX2:=hid (FX1.o.read (RefF.held _ _) ((Below.refl w1.heap.size w1).alloc (Nat.le_refl _) (.cells #[.bool false,.string dd,.int .i64 l] 115)));obtain⟨c0,c1,c2,c3,c4,c5,c6,f0,f1,f2,f3,f4,f5,f6⟩:=pcells FX2.o.res;go_wp2;try simp only[Exit.inBlock,Exit.then]
    exact pret HResF.o FX2.o none 0 (Or.inl rfl)
  ·have hk1:(kind==13)=false:=by rw[beq_eq_false_iff_ne];exact hk
   cases D with
   |true=>
    have HResF:Hid (R=(S,Pz.namesR (Pz.namesOf S.E m))):=hid (by rw[HRes.o,if_neg hk,if_pos rfl]);clear hk;go_enter func59,ntmps59;go_wp2_with fail
    refine prd FX HF fun w1 FX1=> ?_;obtain⟨b,c,g,g0,g1,g2⟩:=HD.o _ _ FX1.o.inv;have hsz:w.heap.size<w1.heap.size:=by have:=FX1.o.st.size;omega
    have hsz2:w.heap.size+2≤w1.heap.size:=FX1.o.st.size;obtain⟨b0,b1,b2,b3,b4,b5,b6,b7⟩:=FX1.o.c8;have FX2:=hid (FX1.o.read (RefF.held _ _) ((Below.refl w1.heap.size w1).alloc (Nat.le_refl _) (.cells #[.bool true,.string dd,.int .i64 l] 115)));go_wp2_with fail
    refine(HNm.o _ _ FX2.o.inv).mono ?_
    rintro e w3 ⟨A3,cn,rfl,hS3,hb3⟩;have FX3:=hid (FX2.o.read (RefF.held _ _) hb3);have HS3:=hid (hS3.low (B':=w.heap.size+2) (by simp;omega));clear hS3 hb3 hsz2;clear b0 b1 b2 b3 b4 b5 b6 b7;clear g g0 g1 g2;obtain⟨c0,c1,c2,c3,c4,c5,c6,f0,f1,f2,f3,f4,f5,f6⟩:=pcells FX3.o.res;go_wp2;try simp only[Exit.inBlock,Exit.then]
    exact pret HResF.o FX3.o A3 cn HS3.o
   |false=>
    have HResF:Hid (R=(S,Pz.er 12)):=hid (by rw[HRes.o,if_neg hk,if_neg (by decide)]);clear hk;go_enter func59,ntmps59;go_wp2_with fail
    refine prd FX HF fun w1 FX1=> ?_;obtain⟨b,c,g,g0,g1,g2⟩:=HD.o _ _ FX1.o.inv;have hsz:w.heap.size<w1.heap.size:=by have:=FX1.o.st.size;omega
    obtain⟨b0,b1,b2,b3,b4,b5,b6,b7⟩:=FX1.o.c8;have FX2:=hid (FX1.o.read (RefF.held _ _) ((Below.refl w1.heap.size w1).alloc (Nat.le_refl _) (.cells #[.bool false,.string dd,.int .i64 l] 115)));go_wp2_with fail
    clear b0 b1 b2 b3 b4 b5 b6 b7;clear g g0 g1 g2;go_wp2_with fail
    refine pfail FX2.o 12 fun wf FXF=> ?_;obtain⟨c0,c1,c2,c3,c4,c5,c6,f0,f1,f2,f3,f4,f5,f6⟩:=pcells FXF.o.res;go_wp2;try simp only[Exit.inBlock,Exit.then]
    exact pret HResF.o FXF.o none 0 (Or.inl rfl)
end Go.Proofs.YtckoobkjpndgnaaGreatDoor
