/- Walks: metadata: walk. -/
import Derived.Test.YtckoobkjpndgnaaGreatDoorW13
set_option linter.unusedVariables false
set_option linter.unusedSimpArgs false
set_option linter.unusedSectionVars false
set_option maxHeartbeats 8000000
set_option maxRecDepth 100000
namespace Go.Proofs.YtckoobkjpndgnaaGreatDoor
open Go.RowKit
open Lib(hid)
open Go.Proofs.Tryz
section
open Go.Shelf
attribute [local go_sem] Oper.semAt_some
namespace Gd
def hN(s:List UInt8):Nat:=Np.hashN s/268435456
structure Tree(M:Vol)(T:Nat→Tab):Prop where
 root:(M.ino 1).k=2
 dir:∀d,1≤d→d≤32→(M.ino d).k=2→DirOf M d (T d)
 ent:∀d,1≤d→d≤32→(M.ino d).k=2→∀e∈T d,e≠noEnt→(M.ino e.i).k≠0
def walkT(M:Vol)(T:Nat→Tab):List (List UInt8)→Nat→Nat×Nat
 |[],i=>(i,0)
 |s::r,i=>if(M.ino i).k=2 then(match findT (T i) s (hN s)with|none=>(0,10)|some j=>walkT M T r (entAt (T i) j.val).i)else(0,12)
theorem find_ent{M:Vol}{T:Nat→Tab}(hT:Tree M T){d:Nat}(h1:1≤d)(h2:d≤32)(hk:(M.ino d).k=2){s:List UInt8}{h:Nat}{j:Fin 16}(hj:findT (T d) s h=some j):
 1≤(entAt (T d) j.val).i∧(entAt (T d) j.val).i≤32∧(M.ino (entAt (T d) j.val).i).k≠0∧(T d)[j.val]? =some (entAt (T d) j.val):=by
 have hD:=hT.dir d h1 h2 hk;have hg:=entAt_get hD.ok.len j.isLt;have hm:=List.find?_some hj;simp only[Bool.and_eq_true,decide_eq_true_eq]at hm;have hne:entAt (T d) j.val≠noEnt:=by
  intro h;rw[h]at hm;obtain⟨h3,h4⟩:=hm;rw[←h3]at h4;exact absurd h4 (by decide)
 have hi:=hT.ent d h1 h2 hk _ (List.mem_of_getElem? hg) hne;rcases entAt_may hD.ok j.val with h|⟨_,h3,h4⟩
 ·exact absurd h hne
 ·exact⟨h3,h4,hi,hg⟩
end Gd
theorem walk_any[MemNo]{x t c K:Nat}{S:List UInt8}{M:Gd.Vol}{T:Nat→Gd.Tab}{F:Nat→Prop}(A:Option Addr)(L:List (List UInt8))(cc B:Nat)(w:World)(h:MetaV x t S M c K w F)(hT:Gd.Tree M T)(hS:Strs w B A L)(hL:∀s∈L,s≠[]∧s.length≤1000)(hl:L.length≤1000):
 Calls prog 113 #[.pointer (some ⟨x,0,none⟩),.slice A L.length cc] w fun e w'=>e= .returned (.tuple #[.int .i64 (Gd.walkT M T L 1).1,.int .i64 (Gd.walkT M T L 1).2])∧Below w.heap.size w w':=by
 obtain⟨R,hR⟩:=nm (Gd.walkT M T L 1);rw[←hR];have HR:=hid hR;have H:=hid h;have HT:=hid hT;have HS:=hid hS;have HL:=hid hL;clear hR h hT hS hL;go_enter func113,ntmps113;go_upto_region 3 with fail
 go_loopw[6,16] (fun v z wr=>∃(i d:Nat),z= .int .i64 i∧v= .int .i64 d∧i≤L.length∧Hid (R=Gd.walkT M T (L.drop i) d∧1≤d∧d≤32)∧Hid (Below w.heap.size w wr)) (fun _ z _=>L.length-(intOf z).toNat)
 case atStart=>exact⟨0,1,rfl,rfl,by omega,hid ⟨by rw[HR.o];rfl,by omega,by omega⟩,hid (Below.refl _ _)⟩
 case round=>
  obtain⟨i,d,rfl,rfl,hi,HW,HB⟩:=hrel;by_cases hlt:i<L.length
  ·obtain⟨s,hs⟩:∃s,L[i]? =some s:=⟨_,List.getElem?_eq_getElem hlt⟩;rcases HS.o with h|⟨b,o,rfl,hb1,hb2,hcell,-⟩
   ·subst h;simp at hlt
   have c0:=(HB.o.cell (p:=⟨b,o+i,none⟩) hb2).trans (hcell i s hs);have hdrop:L.drop i=s::L.drop (i+1):=by
    rw[List.drop_eq_getElem_cons hlt,(List.getElem?_eq_some_iff.1 hs).2]
   have hsl:=HL.o s (List.mem_of_getElem? hs);have hW:=HW.o.1;rw[hdrop]at hW;unfold Gd.walkT at hW;have h1:(i:Int)<L.length:=by omega
   have h0:(0:Int)≤i:=by omega
   by_cases hk:(M.ino d).k=2
   ·rw[if_pos hk]at hW;have hD:=HT.o.dir d HW.o.2.1 HW.o.2.2 hk;have HTb:=hid (tableI_dir wr (H.o.below HB.o) hD);have HTs:=hid (tabC_size hD.ok.len);have HFd:=hid fun W=>tfind_any (T d) hD.ok.len ⟨s.toArray⟩ (by rw[Lib.size_eq];show s.length≤_;omega) hsl.1 (Gd.hN s) rfl W;rw[show(⟨s.toArray⟩:ByteArray).data.toList=s from rfl]at HFd;obtain⟨sb,hsb⟩:∃sb:ByteArray,sb=⟨s.toArray⟩:=⟨_,rfl⟩;rw[←hsb]at c0 HFd;obtain⟨f,hf⟩:=nm (Gd.findT (T d) s (Gd.hN s));rw[←hf]at hW HFd;obtain⟨D,hDe⟩:=nm (T d);have HDe:=hid hDe;rw[←hDe]at HTb HTs HFd;have Hf:=hid hf;have HW2:=hid hW;have Hk:=hid hk;unfold tabV at HTb HFd;clear hs hcell hdrop hsl hW hk hD hsb hDe hlt hf
    go_upto_region 8 with(first|(go_at_call 70;refine HTb.o.mono ?_;rintro e w2 ⟨rfl,hb2⟩;have HB2:=HB.t hb2;clear hb2)|(rw[←zTab];refine wpList_store_mid rfl 141 _ _ rfl w2.heap.size 0 (tabC D) rfl rfl (there_at (heap_alloc_new _ _) (by rw[noTab_size,HTs.o])) (by rw[HTs.o];exact sizeTab) (tabC_one _) ?_;obtain⟨hbw,hbg⟩:=new_whole2 w2 (tabC Gd.noTab) 141 (tabC D).toList (by rw[noTab_size,Array.length_toList,HTs.o]);generalize (World.setCells _ _ _ _)=w3 at hbw hbg⊢;have HN3:Hid (w3.heap[w2.heap.size]? =some (.cells (tabC D) 141 (0,0))):=hid hbg;have HB3:=HB2.t hbw;clear hbw hbg))
    go_upto_region 9 with(first|(refine wpList_load_row rfl 141 _ rfl w2.heap.size rfl 141 (tabC D) (0,0) _ HN3.o underlying141 rfl (by rw[HTs.o];exact sizeTab) ?_)|(go_at_call 116;refine(HFd.o w3).mono ?_;rintro e w4 ⟨rfl,hb4⟩;have HB4:=HB3.t hb4;have HN4:=HN3.r hb4;clear hb4))
    cases f with
    |none=>
     have HR0:Hid (R=(0,10)):=HW2;have hn1:numO none= -1:=rfl;rw[hn1];go_wp2;go_ret2
     refine⟨?_,HB4.o⟩;rw[HR0.o];rfl
    |some j=>
     have HR0:Hid (R=Gd.walkT M T (L.drop (i+1)) (Gd.entAt (T d) j.val).i):=HW2;have hfe:=Gd.find_ent HT.o HW.o.2.1 HW.o.2.2 Hk.o Hf.o.symm;rw[←HDe.o]at hfe HR0;obtain⟨q,hq⟩:=nm ((Gd.entAt D j.val).i);obtain⟨-,n1⟩:=tab_cells HN4.o hfe.2.2.2;rw[←hq]at hfe HR0 n1;have hj16:=j.isLt;obtain⟨k,hk⟩:=nm j.val;have hnk:numO (some j)=(k:Int):=by rw[hk];rfl
     rw[←hk]at n1 hj16;rw[hnk];have HNd:=hid (node_ok q w4 (H.o.below HB4.o) hfe.1 hfe.2.1 hfe.2.2.1);have HSq:Hid ((inoC (M.ino q)).size=15):=hid (by
      obtain⟨P,h3,h4⟩:=H.o;exact inoC_size2 h4 hfe.1 hfe.2.1)
     have HQ:=hid (And.intro hfe.1 hfe.2.1);obtain⟨y,hy⟩:=nm (M.ino q);rw[←hy]at HNd HSq;unfold inoV at HNd;have hk16:(k:Int)<16:=by omega
     have hk0:(0:Int)≤k:=by omega
     clear hfe hq hk hnk hy HFd hj16;go_upto_region 13 with(first|(go_at_call 117;refine HNd.o.mono ?_;rintro e w5 ⟨rfl,hb5⟩;have HB5:=HB4.t hb5;clear hb5)|(rw[←zIno_lit];refine wpList_store_mid rfl 72 _ _ rfl w5.heap.size 0 (inoC y) rfl rfl (there_at (heap_alloc_new _ _) (by rw[zIno_size,HSq.o])) (by rw[HSq.o];exact sizeIno) (inoC_one _) ?_;obtain⟨hbw,hbg⟩:=new_whole2 w5 zIno 72 (inoC y).toList (by rw[zIno_size,Array.length_toList,HSq.o]);generalize (World.setCells _ _ _ _)=w6 at hbw hbg⊢;have HB6:=HB5.t hbw;clear hbw hbg))
     go_wp2;go_roundw
     case rel=>exact⟨i+1,q,by go_num,rfl,by omega,hid ⟨HR0.o,HQ.o⟩,HB6⟩
     case measure=>simp[intOf];omega
   ·rw[if_neg hk]at hW;have HR0:=hid hW;have HTb:=hid (tableI_not wr (H.o.below HB.o) HW.o.2.1 HW.o.2.2 hk);unfold tabV at HTb;clear hs hcell hdrop hsl hW hk hlt;go_wp2_with(first|(go_at_call 70;refine HTb.o.mono ?_;rintro e w2 ⟨rfl,hb2⟩;have HB2:=HB.t hb2;clear hb2)|(rw[←zTab];refine wpList_store_mid rfl 141 _ _ rfl w2.heap.size 0 (tabC Gd.noTab) rfl rfl (there_at (heap_alloc_new _ _) noTab_size) (by rw[noTab_size];exact sizeTab) (tabC_one _) ?_;obtain⟨hbw,hbg⟩:=new_whole2 w2 (tabC Gd.noTab) 141 (tabC Gd.noTab).toList (by rw[Array.length_toList]);generalize (World.setCells _ _ _ _)=w3 at hbw hbg⊢;have HB3:=HB2.t hbw;clear hbw hbg))
    go_ret2
    refine⟨?_,HB3.o⟩;rw[HR0.o];rfl
  ·obtain rfl:i=L.length:=by omega
   have HR0:Hid (R=(d,0)):=hid (by
    have:=HW.o.1
    rw[List.drop_length]at this;exact this)
   clear hlt;go_wp2_with fail
   go_ret2
   refine⟨?_,HB.o⟩;rw[HR0.o];rfl
end
section
open Go.Shelf
attribute [local go_sem] Oper.semAt_some
theorem pathL_ok{l:List UInt8}{L:List (List UInt8)}(h:Np.pathL l=some L):(∀s∈L,s≠[]∧s.length≤1000)∧L.length≤1000:=by
 have h1:=(Np.pathL_some h).1;simp only[Bool.and_eq_true,decide_eq_true_eq,List.all_eq_true]at h1;refine⟨fun s hs=> ?_,by omega⟩;have hn:=h1.2 s hs;refine⟨Np.name_ne hn,?_⟩;unfold Np.nameB at hn;simp only[Bool.and_eq_true,decide_eq_true_eq]at hn;omega
theorem mwalk_yes[MemNo]{x t c K:Nat}{S:List UInt8}{M:Gd.Vol}{T:Nat→Gd.Tab}{F:Nat→Prop}(s:ByteArray)(L:List (List UInt8))(m:Int)(w:World)(h:MetaV x t S M c K w F)(hT:Gd.Tree M T)(hs:s.size≤100000)(hm:w.cell? ⟨0,0,none⟩=some (.int .i64 m))(hp:Np.pathL s.data.toList=some L):
 Calls prog 65 #[.pointer (some ⟨x,0,none⟩),.string s] w fun e w'=>e= .returned (.tuple #[.int .i64 (Gd.walkT M T L 1).1,.int .i64 (Gd.walkT M T L 1).2])∧Below w.heap.size w w':=by
 have HP:=hid (path_yes s L m w hs hm hp);have hok:=pathL_ok hp;have HW:=hid fun A cc W (hW:Below w.heap.size w W) (hS:Strs W w.heap.size A L)=>walk_any A L cc w.heap.size W (h.below hW) hT hS hok.1 hok.2;obtain⟨R,hR⟩:=nm (Gd.walkT M T L 1);rw[←hR]at HW⊢;clear h hT hs hm hp hok hR;go_enter func65,ntmps65;go_wp2_with fail
 refine HP.o.mono ?_;rintro e w2 ⟨A,cc,rfl,-,hS2,hb2⟩;have HW2:=hid (HW.o A cc w2 hb2 hS2);have HB2:=hid hb2;clear hS2 hb2 HP HW;go_wp2_with fail
 refine HW2.o.mono ?_;rintro e w3 ⟨rfl,hb3⟩;go_wp2;go_ret2
 exact⟨rfl,HB2.o.trans (hb3.mono HB2.o.size)⟩
theorem mwalk_no(xv:Value)(s:ByteArray)(m:Int)(w:World)(hs:s.size≤100000)(hm:w.cell? ⟨0,0,none⟩=some (.int .i64 m))(hp:Np.pathL s.data.toList=none):
 Calls prog 65 #[xv,.string s] w fun e w'=>e= .returned (.tuple #[.int .i64 0,.int .i64 15])∧Below w.heap.size w w':=by
 have HP:=hid (path_no s m w hs hm hp);clear hs hm hp;go_enter func65,ntmps65;go_wp2_with fail
 refine HP.o.mono ?_;rintro e w2 ⟨rfl,hb2⟩;go_wp2;go_ret2
 exact⟨rfl,hb2⟩
theorem mplace_no(xv:Value)(s:ByteArray)(m:Int)(w:World)(hs:s.size≤100000)(hm:w.cell? ⟨0,0,none⟩=some (.int .i64 m))(hp:Np.pathL s.data.toList=none∨Np.pathL s.data.toList=some []):
 Calls prog 66 #[xv,.string s] w fun e w'=>e= .returned (.tuple #[.int .i64 0,.string ⟨#[]⟩,.int .i64 15])∧Below w.heap.size w w':=by
 have HP:=hid (parent_no s m w hs hm hp);clear hs hm hp;go_enter func66,ntmps66;go_wp2_with fail
 refine HP.o.mono ?_;rintro e w2 ⟨rfl,hb2⟩;go_wp2;go_ret3
 exact⟨rfl,hb2⟩
namespace Gd
def placeP(M:Vol)(T:Nat→Tab)(L:List (List UInt8))(s:List UInt8):Nat×List UInt8×Nat:=
 if(walkT M T L 1).2≠0 then(0,[],(walkT M T L 1).2)
 else if(M.ino (walkT M T L 1).1).k=2 then((walkT M T L 1).1,s,0)else(0,[],12)
theorem walkT_in{M:Vol}{T:Nat→Tab}(hT:Tree M T):∀(L:List (List UInt8)) (d:Nat),1≤d→d≤32→(walkT M T L d).2=0→1≤(walkT M T L d).1∧(walkT M T L d).1≤32
 |[],d,h1,h2,_=>⟨h1,h2⟩
 |s::r,d,h1,h2,h=>by
  unfold walkT at h⊢;by_cases hk:(M.ino d).k=2
  ·rw[if_pos hk]at h⊢
   cases hf:findT (T d) s (hN s)with
   |none=>
    rw[hf]at h
    cases h
   |some j=>
    rw[hf]at h;have hfe:=find_ent hT h1 h2 hk hf;exact walkT_in hT r _ hfe.1 hfe.2.1 h
  ·rw[if_neg hk]at h
   cases h
end Gd
theorem mplace_yes[MemNo]{x t c K:Nat}{S:List UInt8}{M:Gd.Vol}{T:Nat→Gd.Tab}{F:Nat→Prop}(s:ByteArray)(L:List (List UInt8))(n:List UInt8)(m:Int)(w:World)(h:MetaV x t S M c K w F)(hT:Gd.Tree M T)(hs:s.size≤100000)(hm:w.cell? ⟨0,0,none⟩=some (.int .i64 m))(hp:Np.pathL s.data.toList=some (L++[n])):
 Calls prog 66 #[.pointer (some ⟨x,0,none⟩),.string s] w fun e w'=>e= .returned (.tuple #[.int .i64 (Gd.placeP M T L n).1,.string ⟨(Gd.placeP M T L n).2.1.toArray⟩,.int .i64 (Gd.placeP M T L n).2.2])∧Below w.heap.size w w':=by
 have HP:=hid (parent_yes s L n m w hs hm hp);have hok:=pathL_ok hp;have HW:=hid fun A W (hW:Below w.heap.size w W) (hS:Strs W w.heap.size A L)=>walk_any A L L.length w.heap.size W (h.below hW) hT hS (fun y hy=>hok.1 y (List.mem_append_left _ hy)) (by have:=hok.2;rw[List.length_append]at this;omega);have hin:=Gd.walkT_in hT L 1 (by omega) (by omega);have hTd:=fun W (hW:Below w.heap.size w W) d h1 h2 hk=>tableI_dir W (h.below hW) (hT.dir d h1 h2 hk);have hTn:=fun W (hW:Below w.heap.size w W) d h1 h2 hk=>tableI_not (d:=d) W (h.below hW) h1 h2 hk;have hTl:=fun d h1 h2 hk=>(hT.dir d h1 h2 hk).ok.len;obtain⟨R,hR⟩:=nm (Gd.placeP M T L n);rw[←hR];unfold Gd.placeP at hR;obtain⟨d,hd⟩:=nm ((Gd.walkT M T L 1).1);obtain⟨e0,he⟩:=nm ((Gd.walkT M T L 1).2);rw[←hd,←he]at HW hR hin;have HR:=hid hR;have Hin:=hid hin;have HTd:=hid hTd;have HTn:=hid hTn;have HTl:=hid hTl
 clear h hT hs hm hp hok hR hd he hin hTd hTn hTl;go_enter func66,ntmps66;go_upto_region 1 with fail
 go_wp2_with fail
 refine HP.o.mono ?_;rintro e w2 ⟨A,rfl,hS2,hb2⟩;have HW2:=hid (HW.o A w2 hb2 hS2);have HB2:=hid hb2;clear hS2 hb2 HP HW;go_wp2_with fail
 refine HW2.o.mono ?_;rintro e w3 ⟨rfl,hb3⟩;have HB3:=HB2.t hb3;clear hb3 HW2;by_cases h0:e0=0
 ·subst h0;obtain⟨hd1,hd2⟩:=Hin.o rfl;have hR:=HR.o;rw[if_neg (by omega)]at hR;by_cases hk:(M.ino d).k=2
  ·rw[if_pos hk]at hR;have HR2:=hid hR;have HTb:=hid (HTd.o w3 HB3.o d hd1 hd2 hk);have HTs:=hid (tabC_size (HTl.o d hd1 hd2 hk));obtain⟨D,hDe⟩:=nm (T d);rw[←hDe]at HTb HTs;unfold tabV at HTb;clear hd1 hd2 hR hk hDe HTd HTn HTl Hin HR;go_upto_region 8 with(first|(go_at_call 70;refine HTb.o.mono ?_;rintro e w4 ⟨rfl,hb4⟩;have HB4:=HB3.t hb4;clear hb4)|(rw[←zTab];refine wpList_store_mid rfl 141 _ _ rfl w4.heap.size 0 (tabC D) rfl rfl (there_at (heap_alloc_new _ _) (by rw[noTab_size,HTs.o])) (by rw[HTs.o];exact sizeTab) (tabC_one _) ?_;obtain⟨hbw,hbg⟩:=new_whole2 w4 (tabC Gd.noTab) 141 (tabC D).toList (by rw[noTab_size,Array.length_toList,HTs.o]);generalize (World.setCells _ _ _ _)=w5 at hbw hbg⊢;have HB5:=HB4.t hbw;clear hbw hbg))
   go_wp2;go_ret3
   refine⟨?_,HB5.o⟩;rw[HR2.o];rfl
  ·rw[if_neg hk]at hR;have HR2:=hid hR;have HTb:=hid (HTn.o w3 HB3.o d hd1 hd2 hk);unfold tabV at HTb;clear hd1 hd2 hR hk HTd HTn HTl Hin HR;go_upto_region 8 with(first|(go_at_call 70;refine HTb.o.mono ?_;rintro e w4 ⟨rfl,hb4⟩;have HB4:=HB3.t hb4;clear hb4)|(rw[←zTab];refine wpList_store_mid rfl 141 _ _ rfl w4.heap.size 0 (tabC Gd.noTab) rfl rfl (there_at (heap_alloc_new _ _) noTab_size) (by rw[noTab_size];exact sizeTab) (tabC_one _) ?_;obtain⟨hbw,hbg⟩:=new_whole2 w4 (tabC Gd.noTab) 141 (tabC Gd.noTab).toList (by rw[Array.length_toList]);generalize (World.setCells _ _ _ _)=w5 at hbw hbg⊢;have HB5:=HB4.t hbw;clear hbw hbg))
   go_wp2;go_ret3
   refine⟨?_,HB5.o⟩;rw[HR2.o];rfl
 ·have hR:=HR.o;rw[if_pos h0]at hR;have HR2:=hid hR;have hne:¬(e0:Int)=0:=by omega
  clear hR h0 HTd HTn HTl Hin HR;go_wp2;go_ret3
  refine⟨?_,HB3.o⟩;rw[HR2.o];rfl
end
section
open Go.Shelf
attribute [local go_sem] Oper.semAt_some
theorem free_ok[MemNo]{x t c K:Nat}{S:List UInt8}{M:Gd.Vol}{F:Nat→Prop}(f:Nat)(w:World)(h:MetaV x t S M c K w F)(h1:1≤f)(h2:f≤32)(hk:(M.ino f).k=0)(hl:∀i,1≤i→i<f→(M.ino i).k≠0):
 Calls prog 115 #[.pointer (some ⟨x,0,none⟩)] w fun e w'=>e= .returned (.tuple #[.int .i64 f,.int .i64 0])∧Below w.heap.size w w':=by
 have H:=hid h;have HK:=hid hk;have HL:=hid hl;clear h hk hl;go_enter func115,ntmps115;go_upto_region 2 with fail
 go_loopw[7] (fun z wr=>∃i:Nat,z= .int .i64 i∧i+1≤f∧Hid (Below w.heap.size w wr)) (fun z _=>32-(intOf z).toNat)
 case atStart=>exact⟨0,rfl,by omega,hid (Below.refl _ _)⟩
 case round=>
  obtain⟨i,rfl,hi,HB⟩:=hrel;have hi1:(i:Int)<32:=by omega
  have hi0:(0:Int)≤i:=by omega
  have HIn:=hid (inode_ok ((i:Int)+1) wr (H.o.below HB.o) (by omega) (by omega));have HS:Hid ((inoC (M.ino (i+1))).size=15):=hid (by
   obtain⟨P,h3,h4⟩:=H.o;exact inoC_size2 h4 (by omega) (by omega))
  rw[show((i:Int)+1).toNat=i+1 by omega]at HIn;obtain⟨y,hy⟩:=nm (M.ino (i+1));rw[←hy]at HIn HS;have Hy:=hid hy;unfold inoV at HIn;clear hy;go_upto_region 5 with(first|(go_at_call 24;refine HIn.o.mono ?_;rintro e w2 ⟨rfl,hb2⟩;have HB2:=HB.t hb2;clear hb2)|(rw[←zIno_lit];refine wpList_store_mid rfl 72 _ _ rfl w2.heap.size 0 (inoC y) rfl rfl (there_at (heap_alloc_new _ _) (by rw[zIno_size,HS.o])) (by rw[HS.o];exact sizeIno) (inoC_one _) ?_;obtain⟨hbw,hbg⟩:=new_whole2 w2 zIno 72 (inoC y).toList (by rw[zIno_size,Array.length_toList,HS.o]);generalize (World.setCells _ _ _ _)=w3 at hbw hbg⊢;have HN3:Hid (w3.heap[w2.heap.size]? =some (.cells (inoC y) 72 (0,0))):=hid hbg;have HB3:=HB2.t hbw;clear hbw hbg))
  have n0:w3.cell? ⟨w2.heap.size,0,none⟩=some (.int .i64 y.k):=(cell_of_row w3 w2.heap.size 0 _ _ _ HN3.o).trans (inoC_get rfl);by_cases he:i+1=f
  ·have hk0:y.k=0:=by rw[Hy.o,he];exact HK.o
   rw[hk0]at n0;have Hfi:Hid ((f:Int)=i+1):=hid (by omega);clear he hk0;go_wp2;go_ret2
   exact⟨by rw[Hfi.o];rfl,HB3.o⟩
  ·have hk0:y.k≠0:=by rw[Hy.o];exact HL.o (i+1) (by omega) (by omega)
   obtain⟨k,hkk⟩:=nm y.k;rw[←hkk]at n0 hk0;have hi2:i+1+1≤f:=by omega
   clear he hkk hi;go_wp2;go_roundw
   case rel=>exact⟨i+1,by go_num,by omega,HB3⟩
   case measure=>simp[intOf];omega
namespace Gd
def Ino.setB(x:Ino)(k:Nat)(n:Int):Ino:={x with B:=x.B.set k n}
def Ino.setS(x:Ino)(n:Int):Ino:={x with s:=n}
def Ino.setO(x:Ino)(k:Nat)(n:Int):Ino:={x with O:=x.O.set k n}
def Ino.setL(x:Ino)(n:Int):Ino:={x with l:=n}
theorem Ino.setB_shape{x:Ino}(h:x.Shape)(k:Nat)(n:Int):(x.setB k n).Shape:=⟨by show(x.B.set k n).length=4;rw[List.length_set];exact h.1,h.2⟩
theorem Ino.setS_shape{x:Ino}(h:x.Shape)(n:Int):(x.setS n).Shape:=⟨h.1,h.2⟩
theorem Ino.setO_shape{x:Ino}(h:x.Shape)(k:Nat)(n:Int):(x.setO k n).Shape:=⟨h.1,by show(x.O.set k n).length=8;rw[List.length_set];exact h.2⟩
end Gd
theorem inoC_set{x y:Gd.Ino}{j:Nat}{n:Int}(h:inoL y=(inoL x).set j n):(inoC x).setIfInBounds j (.int .i64 n)=inoC y:=by
 rw[←Array.toList_inj,Array.toList_setIfInBounds];show((inoL x).map _).set j _=(inoL y).map _
 rw[h,List.map_set]
theorem InoAt.turn{w:World}{b:Nat}{x y:Gd.Ino}{j:Nat}{n:Int}(h:InoAt w b x)(hy:y.Shape)(e:inoL y=(inoL x).set j n):InoAt (w.setCell ⟨b,j,none⟩ (.int .i64 n)) b y:=
 ⟨by rw[←inoC_set e];exact Go.heap_setCell_same w b j _ _ _ h.row,hy⟩
theorem inoL_setS(x:Gd.Ino)(n:Int):inoL (x.setS n)=(inoL x).set 2 n:=rfl
theorem inoL_setL(x:Gd.Ino)(n:Int):inoL (x.setL n)=(inoL x).set 1 n:=rfl
theorem inoL_setB{x:Gd.Ino}(h:x.Shape){k:Nat}(hk:k<4)(n:Int):inoL (x.setB k n)=(inoL x).set (3+k) n:=by
 show x.k::x.l::x.s::(x.B.set k n++x.O)=_
 unfold inoL;rw[show 3+k=k+3 by omega,List.set_cons_succ,List.set_cons_succ,List.set_cons_succ,List.set_append_left _ _ (by rw[h.1];exact hk)]
theorem inoL_setO{x:Gd.Ino}(h:x.Shape){k:Nat}(hk:k<8)(n:Int):inoL (x.setO k n)=(inoL x).set (7+k) n:=by
 show x.k::x.l::x.s::(x.B++x.O.set k n)=_
 unfold inoL;rw[show 7+k=(4+k)+3 by omega,List.set_cons_succ,List.set_cons_succ,List.set_cons_succ,List.set_append_right _ _ (by rw[h.1];omega),h.1,show 4+k-4=k by omega]
theorem InoAt.cB{w:World}{b:Nat}{x:Gd.Ino}(h:InoAt w b x){k:Nat}{n:Int}(hn:x.B[k]? =some n):w.cell? ⟨b,3+k,none⟩=some (.int .i64 n)∧w.frozen? ⟨b,3+k,none⟩=false:=
 ⟨h.blocks k _ (intC_get hn),frozen_of_row w b (3+k) _ _ h.row⟩
theorem InoAt.cO{w:World}{b:Nat}{x:Gd.Ino}(h:InoAt w b x){k:Nat}{n:Int}(hn:x.O[k]? =some n):w.cell? ⟨b,7+k,none⟩=some (.int .i64 n)∧w.frozen? ⟨b,7+k,none⟩=false:=
 ⟨h.opens k _ (intC_get hn),frozen_of_row w b (7+k) _ _ h.row⟩
theorem InoAt.f{w:World}{b:Nat}{x:Gd.Ino}(h:InoAt w b x)(k:Nat):w.frozen? ⟨b,k,none⟩=false:=frozen_of_row w b k _ _ h.row
end
section
open Go.Shelf
attribute [local go_sem] Oper.semAt_some
def Tl[MemNo](x t:Nat)(S:List UInt8)(M:Gd.Vol)(c K:Nat)(F:Nat→Prop)(w a:World)(Ls:List (Nat×Obj)):Prop:=
 ∃F',Step (MetaV x t S M c K) F w F' a∧∀p∈Ls,w.heap.size≤p.1∧¬F' p.1∧a.heap[p.1]? =some p.2
section
variable {x t c K:Nat} {S:List UInt8} {M:Gd.Vol} {F:Nat→Prop} {w a b:World} {Ls:List (Nat×Obj)}
theorem Tl.start[MemNo](h:MetaV x t S M c K w F):Tl x t S M c K F w w []:=⟨F,Step.refl h,fun p hp=>by simp at hp⟩
theorem Tl.turns[MemNo](h:Tl x t S M c K F w a Ls):Turns x t S M c K F w a:=by
 obtain⟨F',h1,_⟩:=h;exact⟨F',h1⟩
theorem Tl.size[MemNo](h:Tl x t S M c K F w a Ls):w.heap.size≤a.heap.size:=by
 obtain⟨F',h1,_⟩:=h;exact h1.only.size
theorem Tl.get[MemNo](h:Tl x t S M c K F w a Ls){k:Nat}{o:Obj}(hk:(k,o)∈Ls):a.heap[k]? =some o:=by
 obtain⟨F',_,h2⟩:=h;exact(h2 _ hk).2.2
theorem Tl.below[MemNo](h:Tl x t S M c K F w a Ls)(hb:Below a.heap.size a b):Tl x t S M c K F w b Ls:=by
 obtain⟨F',h1,h2⟩:=h;refine⟨F',⟨h1.inv.below hb,h1.old,h1.only.trans (below_only hb F') fun j hj e=>h1.old j hj e⟩,fun p hp=> ?_⟩;obtain⟨q1,q2,q3⟩:=h2 p hp;exact⟨q1,q2,(hb.block _ (lt_get q3)).trans q3⟩
theorem Tl.new[MemNo](h:Tl x t S M c K F w a Ls)(hb:Below a.heap.size a b){k:Nat}{o:Obj}(hk:a.heap.size≤k)(ho:b.heap[k]? =some o):Tl x t S M c K F w b ((k,o)::Ls):=by
 obtain⟨F',h1,h2⟩:=h;refine⟨F',⟨h1.inv.below hb,h1.old,h1.only.trans (below_only hb F') fun j hj e=>h1.old j hj e⟩,fun p hp=> ?_⟩;rcases List.mem_cons.1 hp with rfl|hp
 ·refine⟨Nat.le_trans h1.only.size hk,fun e=> ?_,ho⟩;have:=h1.inv.tight _ e
  dsimp only at this;omega
 ·obtain⟨q1,q2,q3⟩:=h2 p hp;exact⟨q1,q2,(hb.block _ (lt_get q3)).trans q3⟩
theorem Tl.set[MemNo](h:Tl x t S M c K F w a Ls){k j:Nat}{C:Array Value}{ty:TypeId}{v:Value}(hk:(k,Obj.cells C ty (0,0))∈Ls)(Ls':List (Nat×Obj))(hL:∀p∈Ls',p=(k,Obj.cells (C.setIfInBounds j v) ty (0,0))∨(p∈Ls∧p.1≠k)):
 Tl x t S M c K F w (a.setCell ⟨k,j,none⟩ v) Ls':=by
 obtain⟨F',h1,h2⟩:=h;obtain⟨k1,k2,k3⟩:=h2 _ hk;dsimp only at k1 k2 k3;have hbl:Below k a (a.setCell ⟨k,j,none⟩ v):=(Below.refl k a).setCell (Nat.le_refl k) v;have hoth:∀i,i≠k→(a.setCell ⟨k,j,none⟩ v).heap[i]? =a.heap[i]? :=fun i hi=>Go.heap_setCell_other a ⟨k,j,none⟩ i v hi;have hO:Only (fun i=>i=k) a (a.setCell ⟨k,j,none⟩ v):=⟨hbl.os,hbl.tape,hbl.output,by simp,fun i _ hi=>hoth i hi⟩;refine⟨F',⟨h1.inv.keep hO.size fun i hi hF=>hoth i (fun e=>k2 (e▸hF)),h1.old,?_⟩,fun p hp=> ?_⟩
 ·refine⟨hO.os.trans h1.only.os,hO.tape.trans h1.only.tape,hO.output.trans h1.only.output,Nat.le_trans h1.only.size hO.size,fun i hi hF=> ?_⟩;exact(hoth i (by omega)).trans (h1.only.block i hi hF)
 ·rcases hL p hp with rfl|⟨hp,hne⟩
  ·exact⟨k1,k2,Go.heap_setCell_same a k j _ _ _ k3⟩
  ·obtain⟨q1,q2,q3⟩:=h2 p hp;exact⟨q1,q2,(hoth _ hne).trans q3⟩
end
theorem Tl.next[MemNo]{x t c d K:Nat}{S:List UInt8}{M N:Gd.Vol}{F F1:Nat→Prop}{w a b:World}{Ls:List (Nat×Obj)}(h1:Step (MetaV x t S M c K) F w F1 a)(h2:∀p∈Ls,w.heap.size≤p.1∧¬F1 p.1∧a.heap[p.1]? =some p.2)(ht:Turns x t S N d K F1 a b):Tl x t S N d K F w b Ls:=by
 obtain⟨F2,s⟩:=ht;refine⟨F2,h1.trans s,fun p hp=> ?_⟩;obtain⟨q1,q2,q3⟩:=h2 p hp;obtain⟨o1,o2⟩:=s.own (lt_get q3) q2;exact⟨q1,o2,o1.trans q3⟩
end
section
open Go.Shelf
attribute [local go_sem] Oper.semAt_some
theorem Step.aheadM[MemNo]{x t c K:Nat}{S:List UInt8}{M:Gd.Vol}{F G:Nat→Prop}{a b d:World}(h:Step (MetaV x t S M c K) F a G b)(hb:Below b.heap.size b d):Step (MetaV x t S M c K) F a G d:=
 ⟨h.inv.below hb,h.old,h.only.trans (below_only hb G) fun j hj e=>h.old j hj e⟩
theorem quo4(a:Nat):(a:Int)/4=((a/4:Nat):Int):=by omega
theorem change_new[MemNo]{x t c K d a:Nat}{S:List UInt8}{M:Gd.Vol}{F:Nat→Prop}(T:Gd.Tab)(more spare:Int)(w:World)(h:MetaV x t S M c K w F)(h1:1≤d)(h2:d≤32)(ha:a<16)(hT:Gd.TabOk T)(hu:Gd.usedT T (a/4)=true)(hB:(M.ino d).B[a/4]? =some 0)(hsp:max 0 spare<128-(Gd.countB M.map:Int))(hmay:Gd.mayI (((M.ino d).setB (a/4) (Gd.firstB M.map)).setS ((M.ino d).s+more))=true)(hsz:0≤(M.ino d).s+more∧(M.ino d).s+more≤16)(hc:c+10<64):
 Calls prog 121 #[.pointer (some ⟨x,0,none⟩),.int .i64 d,.int .i64 a,tabV T,.int .i64 more,.int .i64 spare] w fun e w'=>e= .returned (.int .i64 0)∧Turns x t S ((M.take.setBlk (Gd.firstB M.map) (Gd.blkT T (a/4))).setIno d (((M.ino d).setB (a/4) (Gd.firstB M.map)).setS ((M.ino d).s+more))) (c+2+2) K F w w':=by
 obtain⟨k,hk⟩:=nm (a/4);have hq:=quo4 a;rw[←hk]at hq hu hB hmay⊢;have hk4:k<4:=by omega
 have hsh:(M.ino d).Shape:=by
  obtain⟨P,h3,h4⟩:=h;exact h4.shape d h1 h2
 have HTs:=hid (tabC_size hT.len);obtain⟨hb0,hr0⟩:=below_new w (tabC T) 141;obtain⟨tb,htb⟩:=nm w.heap.size;obtain⟨w0,hw0⟩:=nm (w.alloc (.cells (tabC T) 141));rw[←hw0,←htb]at hr0;rw[←hw0]at hb0;have HL0:=hid ((Tl.start h).new hb0 (k:=tb) (by omega) hr0);have HIn:=hid (inode_ok (d:Int) w0 (h.below hb0) (by omega) (by omega));rw[Int.toNat_natCast]at HIn;have hml:M.map.length=16:=by
  obtain⟨P,h3,h4⟩:=h;exact h4.mapl
 have hfs:=Gd.first_some hml (by omega);have HBk:=hid fun W F1 (h3:MetaV x t S M c K W F1)=>block_ok spare W h3 hsp (by omega);obtain⟨n,hn⟩:=nm (Gd.firstB M.map);rw[←hn]at HBk hfs hmay⊢;obtain⟨hn1,hn2,-⟩:=hfs;obtain⟨M2,hM2⟩:=nm M.take;rw[←hM2]at HBk⊢;have HSt:=hid fun W F1 (h3:MetaV x t S M2 (c+2) K W F1) v hv hap=>store_turns (M':=M2.setBlk n (Gd.blkT T k)) 7 n _ v (Gd.blkT T k) W h3 (Gd.ptAt_block hn1 hn2) hv (by rw[Gd.blkT_len hT hk4];omega) (by rw[Gd.blkT_len hT hk4];exact Nat.le_refl _) (by omega) hap fun V hV=>hV.setBlk hn1 hn2 (Gd.blkT_len hT hk4);have HUs:=hid fun W=>tused_any T hT.len k hk4 W;rw[hu]at HUs;have HTb:=hid fun W=>tblock_any T hT k hk4 W;obtain⟨x0,hx0⟩:=nm (M.ino d);rw[←hx0]at hsh hB hmay hsz HIn⊢;obtain⟨y,hy⟩:=nm (((x0.setB k n).setS (x0.s+more)));rw[←hy]at hmay⊢;obtain⟨x1,hx1⟩:=nm (x0.setB k n);have hsh1:x1.Shape:=by rw[hx1];exact Gd.Ino.setB_shape hsh k n
 have hB1:x1.B[k]? =some (n:Int):=by rw[hx1];show(x0.B.set k (n:Int))[k]? =_;rw[List.getElem?_set_self (by rw[hsh.1];exact hk4)]
 have hC1:(inoC x0).setIfInBounds (3+k) (.int .i64 n)=inoC x1:=by rw[hx1];exact inoC_set (inoL_setB hsh hk4 n)
 have hs1:x1.s=x0.s:=by rw[hx1];rfl
 have hC2:(inoC x1).setIfInBounds 2 (.int .i64 (x0.s+more))=inoC y:=by rw[hy,←hx1];exact inoC_set (inoL_setS x1 _)
 have hyS:y.Shape:=by rw[hy,←hx1];exact Gd.Ino.setS_shape hsh1 _
 have HC1:=hid hC1;have HSi:=hid fun W F1 (h3:MetaV x t S (M2.setBlk n (Gd.blkT T k)) (c+2+1) K W F1)=>setino_ok (d:Int) y hyS hmay W h3 (by omega) (by omega) (by omega);rw[Int.toNat_natCast]at HSi;have HS:=hid (inoC_size hsh);have HSy:=hid (inoC_size hyS);have HX:=hid (And.intro hsh hsh1);have HB0:=hid hB;have HB1:=hid hB1;have HC2:=hid hC2;have Htb:=hid htb.symm;have HW0:=hid hw0.symm;obtain⟨sm,hsm⟩:=nm (x0.s+more);have hwr:IntKind.i64.wrap (x0.s+more)=sm:=by rw[hsm,IntKind.wrap_i64];omega
 obtain⟨xs,hxs⟩:=nm x0.s;rw[←hxs]at hwr hs1;rw[←hsm]at HC2;have Hs1:=hid hs1;have g4:(k:Int)<4:=by omega
 have g0:(0:Int)≤k:=by omega
 have ga:(0:Int)≤a:=by omega
 have gn:¬(n:Int)=0:=by omega
 have Hq:=hid hq;clear hk hq hB hmay hsz hsh hsh1 hB1 hC2 hyS htb hw0 hr0 hb0 h h1 h2 hT hu hsm hxs hs1 hx0 hy hx1 hml hn hM2 hC1 hsp;unfold inoV tabV at*;go_enter func121,ntmps121;go_upto_region 1 with fail
 rw[HW0.o,Htb.o];go_upto_region 2 with(first|(go_at_call 24;refine HIn.o.mono ?_;rintro e w2 ⟨rfl,hb2⟩;have HL2:=hid (HL0.o.below hb2);clear hb2)|(rw[←zIno_lit];refine wpList_store_mid rfl 72 _ _ rfl w2.heap.size 0 (inoC x0) rfl rfl (there_at (heap_alloc_new _ _) (by rw[zIno_size,HS.o])) (by rw[HS.o];exact sizeIno) (inoC_one _) ?_;obtain⟨hbw,hbg⟩:=new_whole2 w2 zIno 72 (inoC x0).toList (by rw[zIno_size,Array.length_toList,HS.o]);generalize (World.setCells _ _ _ _)=w3 at hbw hbg⊢;have HL3:=hid (HL2.o.new hbw (Nat.le_refl _) (o:= .cells (inoC x0) 72 (0,0)) hbg);clear hbw hbg))
 obtain⟨ib,hib⟩:=nm w2.heap.size;rw[←hib]at HL3⊢;have htib:Hid (ib≠tb):=hid (by
  have:=lt_get (HL2.o.get (k:=tb) (o:= .cells (tabC T) 141 (0,0)) (by simp))
  omega)
 clear hib;have HTr3:=hid (HL3.o.get (k:=tb) (o:= .cells (tabC T) 141 (0,0)) (by simp));go_upto_region 5 with fail
 rw[Hq.o];go_upto_region 8 with(first|(refine wpList_load_row rfl 141 _ rfl tb rfl 141 (tabC T) (0,0) _ HTr3.o underlying141 rfl (by rw[HTs.o];exact sizeTab) ?_)|(go_at_call 150;refine(HUs.o w3).mono ?_;rintro e w4 ⟨rfl,hb4⟩;have HL4:=hid (HL3.o.below hb4);clear hb4))
 have hI4:InoAt w4 ib x0:=⟨HL4.o.get (k:=ib) (by simp),HX.o.1⟩;obtain⟨b0,-⟩:=hI4.cB HB0.o;clear hI4;go_upto_region 9 with fail
 obtain⟨F4,h4s,h4l⟩:=HL4.o;have HBc:=hid (HBk.o w4 F4 h4s.inv);have HNx:=hid fun b N d (h:Turns x t S N d K F4 w4 b)=>Tl.next h4s h4l h;clear h4s h4l b0;go_wp2_with fail
 refine HBc.o.mono ?_;rintro e w5 ⟨rfl,ht5⟩;have HL5:=hid (HNx.o _ _ _ ht5);clear ht5 HNx HBc;have hI5:InoAt w5 ib x0:=⟨HL5.o.get (k:=ib) (by simp),HX.o.1⟩;obtain⟨b0,b1⟩:=hI5.cB HB0.o;clear hI5;have hl6:Tl x t S M2 (c+2) K F w (w5.setCell ⟨ib,3+k,none⟩ (.int .i64 n)) [(ib,.cells (inoC x1) 72 (0,0)),(tb,.cells (tabC T) 141 (0,0))]:=by
  refine HL5.o.set (k:=ib) (C:=inoC x0) (ty:=72) (by simp) _ fun p hp=> ?_;rw[HC1.o];simp only[List.mem_cons,List.mem_nil_iff,or_false]at hp;rcases hp with rfl|rfl
  ·exact Or.inl rfl
  ·exact Or.inr ⟨by simp,fun e=>htib.o e.symm⟩
 obtain⟨w6,hw6⟩:=nm (w5.setCell ⟨ib,3+k,none⟩ (.int .i64 n));rw[←hw6]at hl6;have HL6:=hid hl6;have HW6:=hid hw6.symm;clear hl6 hw6;go_upto_region 12 with fail
 rw[HW6.o];have hI6:InoAt w6 ib x1:=⟨HL6.o.get (k:=ib) (by simp),HX.o.2⟩;obtain⟨b0,-⟩:=hI6.cB HB1.o;clear hI6;have HTr6:=hid (HL6.o.get (k:=tb) (o:= .cells (tabC T) 141 (0,0)) (by simp));obtain⟨F6,h6s,h6l⟩:=HL6.o;have HT6:=hid h6s.inv.tight;have HSt6:Hid (∀b v,Below w6.heap.size w6 b→OwnB b w6.heap.size v (Gd.blkT T k)→Calls prog 41 #[.pointer (some ⟨x,0,none⟩),.int .i64 7,.int .i64 n,v] b fun e w'=>e= .returned (.int .i64 0)∧Tl x t S (M2.setBlk n (Gd.blkT T k)) (c+2+1) K F w w' [(ib,.cells (inoC x1) 72 (0,0)),(tb,.cells (tabC T) 141 (0,0))]):=hid fun b v hb hv=>by
  have h7:=Step.aheadM h6s hb;refine(HSt.o b F6 h7.inv v hv.at_ fun q hq e=> ?_).mono ?_
  ·have h3:=(own_block hv q hq).1;have h4:=HT6.o q e;omega
  ·rintro e w' ⟨he,ht⟩;refine⟨he,Tl.next h7 (fun p hp=> ?_) ht⟩;obtain⟨q1,q2,q3⟩:=h6l p hp;exact⟨q1,q2,(hb.block _ (lt_get q3)).trans q3⟩
 clear h6s h6l HT6;go_upto_region 14 with(first|(refine wpList_load_row rfl 141 _ rfl tb rfl 141 (tabC T) (0,0) _ HTr6.o underlying141 rfl (by rw[HTs.o];exact sizeTab) ?_)|(go_at_call 152;refine(HTb.o w6).mono ?_;rintro e w7 ⟨v7,rfl,ho7,hb7⟩))
 have HL7:=hid (HL6.o.below hb7);have HSc:=hid (HSt6.o w7 v7 hb7 ho7);clear ho7 hb7 b0 HSt6;have hI7:InoAt w7 ib x1:=⟨HL7.o.get (k:=ib) (by simp),HX.o.2⟩;obtain⟨b0,-⟩:=hI7.cB HB1.o;clear hI7;go_upto_region 17 with(go_at_call 41;refine HSc.o.mono ?_;rintro e w8 ⟨rfl,hl8⟩;have HL8:=hid hl8;clear hl8)
 clear b0;have hI8:InoAt w8 ib x1:=⟨HL8.o.get (k:=ib) (by simp),HX.o.2⟩;have b2:=hI8.c2;rw[Hs1.o]at b2;have f2:=hI8.f 2;clear hI8;have hl9:Tl x t S (M2.setBlk n (Gd.blkT T k)) (c+2+1) K F w (w8.setCell ⟨ib,2,none⟩ (.int .i64 sm)) [(ib,.cells (inoC y) 72 (0,0)),(tb,.cells (tabC T) 141 (0,0))]:=by
  refine HL8.o.set (k:=ib) (C:=inoC x1) (ty:=72) (by simp) _ fun p hp=> ?_;rw[HC2.o];simp only[List.mem_cons,List.mem_nil_iff,or_false]at hp;rcases hp with rfl|rfl
  ·exact Or.inl rfl
  ·exact Or.inr ⟨by simp,fun e=>htib.o e.symm⟩
 obtain⟨w9,hw9⟩:=nm (w8.setCell ⟨ib,2,none⟩ (.int .i64 sm));rw[←hw9]at hl9;have HL9:=hid hl9;have HW9:=hid hw9.symm;clear hl9 hw9;go_upto_region 20 with fail
 rw[HW9.o];have HIr:=hid (HL9.o.get (k:=ib) (o:= .cells (inoC y) 72 (0,0)) (by simp));obtain⟨F9,h9s,h9l⟩:=HL9.o;have HSc9:=hid (HSi.o w9 F9 h9s.inv);have HNx:=hid fun b N d (h:Turns x t S N d K F9 w9 b)=>Tl.next h9s h9l h;clear h9s h9l b2 f2;go_wp2_with(first|(refine wpList_load_row rfl 72 _ rfl ib rfl 72 (inoC y) (0,0) _ HIr.o underlying72 rfl (by rw[HSy.o];exact sizeIno) ?_)|(go_at_call 44;refine HSc9.o.mono ?_;rintro e w10 ⟨rfl,ht10⟩;have HL10:=hid (HNx.o _ _ _ ht10);clear ht10))
 go_ret
 exact⟨rfl,HL10.o.turns⟩
end
section
open Go.Shelf
attribute [local go_sem] Oper.semAt_some
theorem put_ok[MemNo]{x t c K d:Nat}{S:List UInt8}{M:Gd.Vol}{T:Gd.Tab}{F:Nat→Prop}(s:List UInt8)(i:Nat)(spare r:Int)(j:Fin 16)(w:World)(R:World→Prop)(h:MetaV x t S M c K w F)(hD:Gd.DirOf M d T)(hs:s.length≤1000)(hj:Gd.placeT T (Gd.hN s)=some j)
 (hC:∀W,Below w.heap.size w W→Calls prog 121 #[.pointer (some ⟨x,0,none⟩),.int .i64 d,.int .i64 (j.val:Nat),tabV (Gd.setT T j.val ⟨s,i⟩),.int .i64 1,.int .i64 spare] W fun e w'=>e= .returned (.int .i64 r)∧R w'):
 Calls prog 75 #[.pointer (some ⟨x,0,none⟩),.int .i64 d,.string ⟨s.toArray⟩,.int .i64 i,.int .i64 spare] w fun e w'=>e= .returned (.int .i64 r)∧R w':=by
 have HTb:=hid (tableI_dir w h hD);have HTs:=hid (tabC_size hD.ok.len);have HPl:=hid fun W=>tplace_any T hD.ok ⟨s.toArray⟩ (by rw[Lib.size_eq];show s.length≤_;omega) (Gd.hN s) rfl W;rw[hj]at HPl;have HSt:=hid fun W=>tset_any T hD.ok.len j.val j.isLt ⟨s,i⟩ W;have HC:=hid hC;obtain⟨k,hk⟩:=nm j.val;have hnk:numO (some j)=(k:Int):=by rw[hk];rfl
 have hk16:(k:Int)<16:=by have:=j.isLt;omega
 have hk0:(0:Int)≤k:=by omega
 rw[←hk]at HSt HC;rw[hnk]at HPl;obtain⟨T2,hT2⟩:=nm (Gd.setT T k ⟨s,i⟩);rw[←hT2]at HSt HC;unfold entV at HSt;dsimp only at HSt;obtain⟨sb,hsb⟩:∃sb:ByteArray,sb=⟨s.toArray⟩:=⟨_,rfl⟩;rw[←hsb]at HSt HPl⊢;clear h hD hs hj hC hk hnk hT2 hsb;unfold tabV at*;go_enter func75,ntmps75
 go_upto_region 2 with(first|(go_at_call 70;refine HTb.o.mono ?_;rintro e w2 ⟨rfl,hb2⟩;have HB2:=hid hb2;clear hb2)|(rw[←zTab];refine wpList_store_mid rfl 141 _ _ rfl w2.heap.size 0 (tabC T) rfl rfl (there_at (heap_alloc_new _ _) (by rw[noTab_size,HTs.o])) (by rw[HTs.o];exact sizeTab) (tabC_one _) ?_;obtain⟨hbw,hbg⟩:=new_whole2 w2 (tabC Gd.noTab) 141 (tabC T).toList (by rw[noTab_size,Array.length_toList,HTs.o]);generalize (World.setCells _ _ _ _)=w3 at hbw hbg⊢;have HN3:Hid (w3.heap[w2.heap.size]? =some (.cells (tabC T) 141 (0,0))):=hid hbg;have HB3:=HB2.t hbw;clear hbw hbg))
 go_upto_region 7 with(first|(refine wpList_load_row rfl 141 _ rfl w2.heap.size rfl 141 (tabC T) (0,0) _ HN3.o underlying141 rfl (by rw[HTs.o];exact sizeTab) ?_)|(go_at_call 120;refine(HPl.o w3).mono ?_;rintro e w4 ⟨rfl,hb4⟩;have HB4:=HB3.t hb4;have HN4:=HN3.r hb4;clear hb4))
 go_wp2_with(first|(refine wpList_load_row rfl 141 _ rfl w2.heap.size rfl 141 (tabC T) (0,0) _ HN4.o underlying141 rfl (by rw[HTs.o];exact sizeTab) ?_)|(go_at_call 122;refine(HSt.o w4).mono ?_;rintro e w5 ⟨rfl,hb5⟩;have HCc:=hid (HC.o w5 (HB4.o.trans (hb5.mono HB4.o.size)));clear hb5)|(go_at_call 121;refine HCc.o.mono ?_;rintro e w6 ⟨rfl,hr6⟩))
 go_ret
 exact⟨rfl,hr6⟩
theorem make_ok[MemNo]{x t c c2 K d:Nat}{S:List UInt8}{M M2:Gd.Vol}{F:Nat→Prop}(s:ByteArray)(f:Nat)(y:Gd.Ino)(spare:Int)(w:World)(h:MetaV x t S M c K w F)(hy:y.Shape)(hm:Gd.mayI y=true)(f1:1≤f)(f2:f≤32)(hk:(M.ino f).k=0)(hl:∀i,1≤i→i<f→(M.ino i).k≠0)(hc:c<64)
 (hP:∀W F1,MetaV x t S (M.setIno f y) (c+1) K W F1→Calls prog 75 #[.pointer (some ⟨x,0,none⟩),.int .i64 d,.string s,.int .i64 f,.int .i64 spare] W fun e w'=>e= .returned (.int .i64 0)∧Turns x t S M2 c2 K F1 W w'):
 Calls prog 67 #[.pointer (some ⟨x,0,none⟩),.int .i64 d,.string s,inoV y,.int .i64 spare] w fun e w'=>e= .returned (.tuple #[.int .i64 f,.int .i64 0])∧Turns x t S M2 c2 K F w w':=by
 obtain⟨hb0,hr0⟩:=below_new w (inoC y) 72;obtain⟨yb,hyb⟩:=nm w.heap.size;obtain⟨w0,hw0⟩:=nm (w.alloc (.cells (inoC y) 72));rw[←hw0,←hyb]at hr0;rw[←hw0]at hb0;have HL0:=hid ((Tl.start h).new hb0 (k:=yb) (by omega) hr0);have HFr:=hid (free_ok f w0 (h.below hb0) f1 f2 hk hl);have HSi:=hid fun W F1 (h3:MetaV x t S M c K W F1)=>setino_ok (f:Int) y hy hm W h3 (by omega) (by omega) hc;rw[Int.toNat_natCast]at HSi;have HP:=hid hP;have HS:=hid (inoC_size hy);have HTo:=hid fun W=>metold_any (f:Int) 0 W;rw[if_pos rfl]at HTo;have Hyb:=hid hyb.symm;have HW0:=hid hw0.symm;clear h hy hm f1 f2 hk hl hc hP hb0 hr0 hyb hw0;unfold inoV at*;go_enter func67,ntmps67;go_upto_region 1 with fail
 rw[HW0.o,Hyb.o];go_upto_region 4 with(go_at_call 115;refine HFr.o.mono ?_;rintro e w2 ⟨rfl,hb2⟩;have HL2:=hid (HL0.o.below hb2);clear hb2)
 have HIr:=hid (HL2.o.get (k:=yb) (o:= .cells (inoC y) 72 (0,0)) (by simp));obtain⟨F2,h2s,h2l⟩:=HL2.o;have HSc:=hid (HSi.o w2 F2 h2s.inv);have HNx:=hid fun b N d (h:Turns x t S N d K F2 w2 b)=>Tl.next h2s h2l h;clear h2s h2l;go_upto_region 7 with(first|(refine wpList_load_row rfl 72 _ rfl yb rfl 72 (inoC y) (0,0) _ HIr.o underlying72 rfl (by rw[HS.o];exact sizeIno) ?_)|(go_at_call 44;refine HSc.o.mono ?_;rintro e w3 ⟨rfl,ht3⟩;have HL3:=hid (HNx.o _ _ _ ht3);clear ht3))
 obtain⟨F3,h3s,h3l⟩:=HL3.o;have HPc:=hid (HP.o w3 F3 h3s.inv);have HNx3:=hid fun b N d (h:Turns x t S N d K F3 w3 b)=>Tl.next h3s h3l h;clear h3s h3l;go_wp2_with(first|(go_at_call 75;refine HPc.o.mono ?_;rintro e w4 ⟨rfl,ht4⟩;have HL4:=hid (HNx3.o _ _ _ ht4);clear ht4)|(go_at_call 68;refine(HTo.o w4).mono ?_;rintro e w5 ⟨rfl,rfl⟩))
 go_ret2
 exact⟨rfl,HL4.o.turns⟩
end
section
open Go.Shelf
attribute [local go_sem] Oper.semAt_some
theorem mis_any(k:Int)(w:World):Calls prog 23 #[.int .i64 k] w fun e w'=>e= .returned (.bool (decide (1≤k)&&decide (k≤8)))∧w'=w:=by
 go_enter func23,ntmps23;by_cases h0:1≤k
 ·by_cases h4:k≤8
  ·go_wp2;go_ret
   exact⟨ret_bool (by simp[h0,h4]),rfl⟩
  ·go_wp2;go_ret
   exact⟨ret_bool (by simp[h0,h4]),rfl⟩
 ·go_wp2;go_ret
  exact⟨ret_bool (by simp;omega),rfl⟩
def newF:Gd.Ino:=⟨1,1,0,[0,0,0,0],[0,0,0,0,0,0,0,0]⟩
theorem zeros8:∀k:Fin 8,([0,0,0,0,0,0,0,0]:List Int)[k.val]? =some 0:=by decide
theorem newF_shape:newF.Shape:=⟨rfl,rfl⟩
theorem open_new{x:Nat}(cl:Nat)(s n:ByteArray)(wi d f:Nat)(spare:Int)(w:World)(R:World→Prop)(hc1:1≤cl)(hc8:cl≤8)
 (hW:Ret w 65 #[.pointer (some ⟨x,0,none⟩),.string s] (.tuple #[.int .i64 wi,.int .i64 10]))
 (hP:Ret w 66 #[.pointer (some ⟨x,0,none⟩),.string s] (.tuple #[.int .i64 d,.string n,.int .i64 0]))
 (hM:∀W,Below w.heap.size w W→Calls prog 67 #[.pointer (some ⟨x,0,none⟩),.int .i64 d,.string n,inoV (newF.setO (cl-1) 1),.int .i64 spare] W fun e w'=>e= .returned (.tuple #[.int .i64 f,.int .i64 0])∧R w'):
 Calls prog 27 #[.pointer (some ⟨x,0,none⟩),.int .i64 cl,.string s,.int .i64 1,.bool false,.int .i64 spare] w fun e w'=>e= .returned (.tuple #[.int .i64 f,.int .i64 0])∧R w':=by
 have HW:=hid hW;have HP:=hid hP;have HM:=hid hM;have HI:=hid fun W=>mis_any (cl:Int) W;rw[show(decide ((1:Int)≤cl)&&decide ((cl:Int)≤8))=true by simp;omega]at HI;obtain⟨k,rfl⟩:∃k,cl=k+1:=⟨cl-1,by omega⟩;rw[Nat.add_sub_cancel]at HM;rw[show(((k+1:Nat):Int))=(k:Int)+1 by omega]at HI⊢;have hk8:(k:Int)<8:=by omega
 have hk0:(0:Int)≤k:=by omega
 have HK8:Hid (k<8):=hid (by omega);have HSn:Hid ((inoC newF).size=15):=hid rfl;have HSo:=hid (inoC_size (Gd.Ino.setO_shape newF_shape k 1));have HC:Hid ((inoC newF).setIfInBounds (7+k) (.int .i64 1)=inoC (newF.setO k 1)):=hid (inoC_set (inoL_setO newF_shape HK8.o 1));have hcl0:(1:Int)≤(k:Int)+1:=by omega
 have hcl8:(k:Int)+1≤8:=by omega
 clear hW hP hM hc1 hc8;unfold inoV at*;go_enter func27,ntmps27;go_upto_region 5 with(go_at_call 23;refine(HI.o _).mono ?_;rintro e wq ⟨rfl,rfl⟩)
 have HW0:=hid (HW.o wq (Below.refl _ _));go_upto_region 6 with(go_at_call 65;refine HW0.o.mono ?_;rintro e w2 ⟨rfl,hb2⟩;have HB2:=hid hb2;clear hb2)
 have HP2:=hid (HP.o w2 HB2.o);go_upto_region 7 with(go_at_call 66;refine HP2.o.mono ?_;rintro e w3 ⟨rfl,hb3⟩;have HB3:=HB2.t hb3;clear hb3)
 go_upto_region 15 with fail
 go_upto_region 16 with(rw[←zIno_lit];refine wpList_store_mid rfl 72 _ _ rfl w3.heap.size 0 (inoC newF) rfl rfl (there_at (heap_alloc_new _ _) (by rw[zIno_size,HSn.o])) (by rw[HSn.o];exact sizeIno) (inoC_one _) ?_;obtain⟨hbw,hbg⟩:=new_whole2 w3 zIno 72 (inoC newF).toList (by rw[zIno_size,Array.length_toList,HSn.o]);generalize (World.setCells _ _ _ _)=w4 at hbw hbg⊢;have HB4:=HB3.t hbw;have HN4:Hid (w4.heap[w3.heap.size]? =some (.cells (inoC newF) 72 (0,0))):=hid hbg;clear hbw hbg)
 obtain⟨ib,hib⟩:=nm w3.heap.size;rw[←hib]at HN4⊢;have hI4:InoAt w4 ib newF:=⟨HN4.o,newF_shape⟩;obtain⟨b0,b1⟩:=hI4.cO (k:=k) (n:=0) (by
  exact zeros8 ⟨k,HK8.o⟩)
 obtain⟨w5,hw5⟩:=nm (w4.setCell ⟨ib,7+k,none⟩ (.int .i64 1));have HB5:Hid (Below wq.heap.size wq w5):=hid (by rw[hw5];exact HB4.o.setCell (show wq.heap.size≤ib by rw[hib];exact HB3.o.size) _);have HN5:Hid (w5.heap[ib]? =some (.cells (inoC (newF.setO k 1)) 72 (0,0))):=hid (by rw[hw5,←HC.o];exact Go.heap_setCell_same w4 ib _ _ _ _ HN4.o);have HW5:=hid hw5.symm;clear hI4 hw5 hib;have HMc:=hid (HM.o w5 HB5.o);go_upto_region 17 with fail
 rw[HW5.o];go_wp2_with(first|(refine wpList_load_row rfl 72 _ rfl ib rfl 72 (inoC (newF.setO k 1)) (0,0) _ HN5.o underlying72 rfl (by rw[HSo.o];exact sizeIno) ?_)|(go_at_call 67;refine HMc.o.mono ?_;rintro e w6 ⟨rfl,hr6⟩))
 go_ret2
 exact⟨rfl,hr6⟩
end
namespace Gd
theorem view_append(S:List UInt8)(P Q:List Pa):view S (P++Q)=view (view S P) Q:=by
 unfold view;rw[List.foldl_append]
theorem view_apart{k n:Nat}:∀{P:List Pa} {S:List UInt8},Fit S.length P→k+n≤S.length→(∀p∈P,k+n≤p.1∨p.1+p.2.length≤k)→part (view S P) k n=part S k n
 |[],_,_,_,_=>rfl
 |p::r,S,hf,hk,h=>by
  have h1:=hf p (List.mem_cons_self ..);have hl:=splice_length h1;show part (view (splice S p.1 p.2) r) k n=_
  rw[view_apart (by rw[hl];exact fun q hq=>hf q (List.mem_cons_of_mem _ hq)) (by rw[hl];exact hk) fun q hq=>h q (List.mem_cons_of_mem _ hq)];exact part_splice_apart hk h1 (h p (List.mem_cons_self ..))
theorem view_at{p:Pa}{P Q:List Pa}{S:List UInt8}(hf:Fit S.length (P++[p]++Q))(h:∀q∈Q,p.1+p.2.length≤q.1∨q.1+q.2.length≤p.1):part (view S (P++[p]++Q)) p.1 p.2.length=p.2:=by
 have hp:Fit S.length P:=fun q hq=>hf q (List.mem_append_left _ (List.mem_append_left _ hq));have h1:=hf p (List.mem_append_left _ (List.mem_append_right _ (List.mem_singleton.2 rfl)));have hl:=view_length hp;have hl2:(view S (P++[p])).length=S.length:=by rw[view_snoc,splice_length (by rw[hl];exact h1),hl]
 rw[view_append,view_apart (by rw[hl2];exact fun q hq=>hf q (List.mem_append_right _ hq)) (by rw[hl2];exact h1) h,view_snoc];exact part_splice_same (by rw[hl];exact h1)
theorem fmtS_mem{k:Nat}{p:Pa}(h:p∈fmtS k):∃c,c<k∧((p.1=64+64*c∧p.2.length=64)∨(p.1=6784+1024*c∧p.2.length=8)):=by
 unfold fmtS at h;obtain⟨c,hc,hp⟩:=List.mem_flatMap.1 h;refine⟨c,List.mem_range.1 hc,?_⟩;simp only[List.mem_cons,List.mem_nil_iff,or_false]at hp;rcases hp with rfl|rfl
 ·exact Or.inl ⟨rfl,slotB_length _⟩
 ·exact Or.inr ⟨rfl,List.length_replicate⟩
theorem fmtN_mem{k:Nat}{p:Pa}(h:p∈fmtN k):∃i,i<k∧p.1=inoAt (i+2)∧p.2.length=64:=by
 unfold fmtN at h;obtain⟨i,hi,rfl⟩:=List.mem_map.1 h;exact⟨i,List.mem_range.1 hi,rfl,List.length_replicate⟩
theorem root_len:(inoB rootI).length=64:=inoB_length root_shape
theorem fmtP_mem{p:Pa}(h:p∈fmtP):p.1+p.2.length≤14976:=by
 unfold fmtP at h;simp only[List.mem_append,List.mem_singleton]at h;rcases h with(((rfl|h)|rfl)|rfl)|h
 ·rw[headB_length];omega
 ·obtain⟨c,hc,h|h⟩:=fmtS_mem h<;>omega
 ·rw[List.length_replicate];omega
 ·rw[root_len];unfold inoAt;omega
 ·obtain⟨i,hi,h1,h2⟩:=fmtN_mem h;rw[h1,h2];unfold inoAt;omega
theorem fmtP_fit{n:Nat}(hn:23168≤n):Fit n fmtP:=fun p hp=>by
 have:=fmtP_mem hp
 omega
theorem fmtN_at{V:List UInt8}(hV:V.length=23168):∀k,k≤31→∀j,j<k→part (view V (fmtN k)) (inoAt (j+2)) 64=List.replicate 64 0
 |0,_,j,hj=>by omega
 |k+1,hk,j,hj=>by
  have hf:Fit V.length (fmtN k):=fun p hp=>by
   obtain⟨i,hi,h1,h2⟩:=fmtN_mem hp;rw[h1,h2,hV];unfold inoAt;omega
  have hl:=view_length hf;have hz:(List.replicate 64 (0:UInt8)).length=64:=List.length_replicate;rw[fmtN_succ,view_snoc];by_cases e:j=k
  ·subst e;have:=part_splice_same (S:=view V (fmtN j)) (k:=inoAt (j+2)) (b:=List.replicate 64 0) (by rw[hl,hV,hz];unfold inoAt;omega)
   rw[hz]at this;exact this
  ·rw[part_splice_apart (by rw[hl,hV];unfold inoAt;omega) (by rw[hl,hV,hz];unfold inoAt;omega) (by rw[hz];unfold inoAt;omega)];exact fmtN_at hV k (by omega) j (by omega)
def freshV(S:List UInt8):Vol:=⟨fun i=>if i=1 then rootI else noIno,List.replicate 16 0,fun n=>part S (blkAt n) 64,part (view S fmtP) 0 576,part (view S fmtP) 6784 8192⟩
theorem fresh_good{S:List UInt8}(hS:S.length=23168):Good (view S fmtP) (freshV S):=by
 have hfit:Fit S.length fmtP:=fmtP_fit (by omega);have hl:(view S fmtP).length=23168:=by rw[view_length hfit,hS]
 refine⟨hl,fun i h1 h2=> ?_,fun i h1 h2=> ?_,fun i h1 h2=> ?_,List.length_replicate,?_,fun n n1 n2=> ?_,fun n n1 n2=> ?_,by dsimp only[freshV],by dsimp only[freshV]⟩
 ·show(if i=1 then rootI else noIno).Shape
  split
  ·exact root_shape
  ·exact⟨rfl,rfl⟩
 ·show mayI (if i=1 then rootI else noIno)=true
  split
  ·exact root_may
  ·decide
 ·show part _ _ _=inoB (if i=1 then rootI else noIno)
  by_cases e:i=1
  ·subst e;rw[if_pos rfl];have:=view_at (p:=(inoAt 1,inoB rootI)) (P:=[(0,headB 0)]++fmtS 8++[(576,List.replicate 16 0)]) (Q:=fmtN 31) (S:=S) hfit fun q hq=>by
    obtain⟨i,hi,h1,h2⟩:=fmtN_mem hq;rw[h1,root_len];unfold inoAt;omega
   rw[root_len]at this;exact this
  ·rw[if_neg e];have h3:(view S ([(0,headB 0)]++fmtS 8++[(576,List.replicate 16 0)]++[(inoAt 1,inoB rootI)])).length=23168:=by
    rw[view_length fun p hp=>hfit p (List.mem_append_left _ hp),hS]
   have:=fmtN_at h3 31 (Nat.le_refl _) (i-2) (by omega)
   rw[←view_append,show i-2+2=i by omega]at this;exact this
 ·have:=view_at (p:=(576,List.replicate 16 0)) (P:=[(0,headB 0)]++fmtS 8) (Q:=[(inoAt 1,inoB rootI)]++fmtN 31) (S:=S) (by rw[←List.append_assoc];exact hfit) fun q hq=>by
   rw[List.length_replicate];rcases List.mem_append.1 hq with hq|hq
   ·rw[List.mem_singleton.1 hq];unfold inoAt;omega
   ·obtain⟨i,hi,h1,h2⟩:=fmtN_mem hq;rw[h1];unfold inoAt;omega
  rw[←List.append_assoc,List.length_replicate]at this;exact this
 ·exact part_length (by rw[hS];unfold blkAt;omega)
 ·exact view_apart hfit (by rw[hS];unfold blkAt;omega) fun p hp=>by
   have:=fmtP_mem hp
   unfold blkAt;omega
theorem fresh_tree(S:List UInt8):Tree (freshV S) fun _=>noTab:=by
 have hd:∀d,((freshV S).ino d).k=2→d=1:=fun d h=>by
  by_cases e:d=1
  ·exact e
  ·exact absurd (show(if d=1 then rootI else noIno).k=2 from h) (by rw[if_neg e];decide)
 refine⟨rfl,fun d h1 h2 hk=>⟨h1,h2,hk,noTab_ok,fun k hk4=>⟨0,?_,Or.inl ⟨rfl,fun i _=>noTab_at _⟩⟩⟩,fun d _ _ _ e he hne=>absurd (List.eq_of_mem_replicate he) hne⟩;have:=hd d hk
 subst this;show rootI.B[k]? =some ((0:Nat):Int)
 match k,hk4 with
 |0,_=>rfl
 |1,_=>rfl
 |2,_=>rfl
 |3,_=>rfl
end Gd
namespace Gd
theorem setT_other{T:Tab}{j k i:Nat}{e:Ent}(hT:T.length=16)(hj:j<16)(hk:k≠j/4)(hi:i<4):entAt (setT T j e) (4*k+i)=entAt T (4*k+i):=by
 rw[setT_at hT hj,if_neg (by omega)]
theorem blkT_other{T:Tab}{j k:Nat}{e:Ent}(hT:T.length=16)(hj:j<16)(hk4:k<4)(hk:k≠j/4):blkT (setT T j e) k=blkT T k:=by
 unfold blkT;rw[blk_ext (by unfold setT;rw[List.length_set];exact hT) hT hk4 fun i hi=>setT_other hT hj hk hi]
theorem DirOf.put{M N:Vol}{d j n:Nat}{T:Tab}{e:Ent}(h:DirOf M d T)(he:e.May)(hj:j<16)(hk:(N.ino d).k=2)(hB:(N.ino d).B=(M.ino d).B.set (j/4) (n:Int))(hn1:1≤n)(hn2:n≤128)(hblk:N.blk n=blkT (setT T j e) (j/4))(hoth:∀q,q≠n→N.blk q=M.blk q)
 (hfree:∀k q:Nat,k≠j/4→(M.ino d).B[k]? =some (q:Int)→q≠0→q≠n):DirOf N d (setT T j e):=by
 refine⟨h.lo,h.hi,hk,h.ok.set he,fun k hk4=> ?_⟩;obtain⟨q,hq,hr⟩:=h.blk k hk4;have hlen:k<(M.ino d).B.length:=(List.getElem?_eq_some_iff.1 hq).1;by_cases e1:k=j/4
 ·refine⟨n,?_,Or.inr ⟨hn1,hn2,by rw[e1];exact hblk⟩⟩;rw[hB,←e1,List.getElem?_set_self hlen]
 ·refine⟨q,?_,?_⟩
  ·rw[hB,List.getElem?_set_ne (fun e=>e1 e.symm)];exact hq
  ·rcases hr with⟨h0,hno⟩|⟨q1,q2,hb⟩
   ·exact Or.inl ⟨h0,fun i hi=>by rw[setT_other h.ok.len hj e1 hi];exact hno i hi⟩
   ·refine Or.inr ⟨q1,q2,?_⟩;rw[hoth q (hfree k q e1 hq (by omega)),hb,blkT_other h.ok.len hj hk4 e1]
theorem usedT_set{T:Tab}{j:Nat}{e:Ent}(hT:T.length=16)(hj:j<16)(he:e≠noEnt):usedT (setT T j e) (j/4)=true:=by
 unfold usedT;rw[List.any_eq_true];refine⟨e,?_,by simpa using he⟩;have hl:(setT T j e).length=16:=by unfold setT;rw[List.length_set];exact hT
 have hg:=entAt_get hl hj;rw[setT_at hT hj,if_pos rfl]at hg;refine List.mem_of_getElem? (i:=j % 4) ?_;rw[List.getElem?_take,if_pos (Nat.mod_lt _ (by omega)),List.getElem?_drop,show 4*(j/4)+j % 4=j by omega];exact hg
structure Sound(M:Vol):Prop where
 mapl:M.map.length=16
 one:∀i i' k k':Nat,∀n:Int,1≤i→i≤32→1≤i'→i'≤32→(M.ino i).B[k]? =some n→(M.ino i').B[k']? =some n→n≠0→i=i'∧k=k'
 used:∀n:Nat,1≤n→n≤128→(usedB M.map n=true↔∃i k:Nat,1≤i∧i≤32∧(M.ino i).B[k]? =some (n:Int))
end Gd
namespace Gd
theorem set_get{B:List Int}{k j:Nat}{m n:Int}(h:(B.set k m)[j]? =some n):(j=k∧n=m)∨(j≠k∧B[j]? =some n):=by
 by_cases e:j=k
 ·subst e;have hl:=(List.getElem?_eq_some_iff.1 h).1;rw[List.length_set]at hl;rw[List.getElem?_set_self hl]at h;exact Or.inl ⟨rfl,(Option.some.inj h).symm⟩
 ·rw[List.getElem?_set_ne (fun x=>e x.symm)]at h;exact Or.inr ⟨e,h⟩
theorem Sound.same{M N:Vol}(h:Sound M)(hm:N.map=M.map)(hB:∀i,1≤i→i≤32→(N.ino i).B=(M.ino i).B):Sound N:=by
 refine⟨by rw[hm];exact h.mapl,fun i i' k k' n h1 h2 h3 h4 a b hn=> ?_,fun n n1 n2=> ?_⟩
 ·rw[hB i h1 h2]at a;rw[hB i' h3 h4]at b;exact h.one i i' k k' n h1 h2 h3 h4 a b hn
 ·rw[hm,h.used n n1 n2];constructor
  ·rintro⟨i,k,h1,h2,h3⟩;exact⟨i,k,h1,h2,by rw[hB i h1 h2];exact h3⟩
  ·rintro⟨i,k,h1,h2,h3⟩;exact⟨i,k,h1,h2,by rw[hB i h1 h2]at h3;exact h3⟩
theorem Sound.take{M N:Vol}(h:Sound M){d k n:Nat}(d1:1≤d)(d2:d≤32)(hk:(M.ino d).B[k]? =some 0)(n1:1≤n)(n2:n≤128)(hf:usedB M.map n=false)(hm:N.map=takeB M.map n)(hd:(N.ino d).B=(M.ino d).B.set k (n:Int))(hB:∀i,1≤i→i≤32→i≠d→(N.ino i).B=(M.ino i).B):Sound N:=by
 have hno:∀i k:Nat,1≤i→i≤32→(M.ino i).B[k]? ≠some (n:Int):=fun i k i1 i2 e=>by
  have:=(h.used n n1 n2).2 ⟨i,k,i1,i2,e⟩
  rw[hf]at this
  cases this
 have hg:∀i j m,1≤i→i≤32→(N.ino i).B[j]? =some m→(i=d∧j=k∧m=(n:Int))∨(¬(i=d∧j=k)∧(M.ino i).B[j]? =some m):=fun i j m i1 i2 e=>by
  by_cases ei:i=d
  ·subst ei;rw[hd]at e;rcases set_get e with⟨e1,e2⟩|⟨e1,e2⟩
   ·exact Or.inl ⟨rfl,e1,e2⟩
   ·exact Or.inr ⟨fun x=>e1 x.2,e2⟩
  ·rw[hB i i1 i2 ei]at e;exact Or.inr ⟨fun x=>ei x.1,e⟩
 have hl:=(List.getElem?_eq_some_iff.1 hk).1;refine⟨by rw[hm,take_length];exact h.mapl,fun i i' j j' m i1 i2 i3 i4 a b hn=> ?_,fun m m1 m2=> ?_⟩
 ·rcases hg i j m i1 i2 a with⟨a1,a2,a3⟩|⟨a1,a2⟩<;>rcases hg i' j' m i3 i4 b with⟨b1,b2,b3⟩|⟨b1,b2⟩
  ·exact⟨a1.trans b1.symm,a2.trans b2.symm⟩
  ·exact absurd (a3▸b2) (hno i' j' i3 i4)
  ·exact absurd (b3▸a2) (hno i j i1 i2)
  ·exact h.one i i' j j' m i1 i2 i3 i4 a2 b2 hn
 ·rw[hm,used_take h.mapl n1 n2 m1 m2,Bool.or_eq_true,decide_eq_true_iff,h.used m m1 m2];constructor
  ·rintro(rfl|⟨i,j,i1,i2,e⟩)
   ·exact⟨d,k,d1,d2,by rw[hd,List.getElem?_set_self hl]⟩
   ·by_cases ei:i=d
    ·subst ei;refine⟨i,j,i1,i2,?_⟩;have hjk:j≠k:=fun x=>by
      rw[x,hk]at e;have:=Option.some.inj e
      omega
     rw[hd,List.getElem?_set_ne (fun x=>hjk x.symm)];exact e
    ·exact⟨i,j,i1,i2,by rw[hB i i1 i2 ei];exact e⟩
  ·rintro⟨i,j,i1,i2,e⟩;rcases hg i j _ i1 i2 e with⟨_,_,e3⟩|⟨_,e2⟩
   ·exact Or.inl (by omega)
   ·exact Or.inr ⟨i,j,i1,i2,e2⟩
theorem Sound.give{M N:Vol}(h:Sound M){d k n:Nat}(d1:1≤d)(d2:d≤32)(hk:(M.ino d).B[k]? =some (n:Int))(n1:1≤n)(n2:n≤128)(hm:N.map=giveB M.map n)(hd:(N.ino d).B=(M.ino d).B.set k 0)(hB:∀i,1≤i→i≤32→i≠d→(N.ino i).B=(M.ino i).B):Sound N:=by
 have hn0:(n:Int)≠0:=by omega
 have hg:∀i j m,1≤i→i≤32→(N.ino i).B[j]? =some m→m≠0→¬(i=d∧j=k)∧(M.ino i).B[j]? =some m:=fun i j m i1 i2 e hm0=>by
  by_cases ei:i=d
  ·subst ei;rw[hd]at e;rcases set_get e with⟨e1,e2⟩|⟨e1,e2⟩
   ·exact absurd e2 hm0
   ·exact⟨fun x=>e1 x.2,e2⟩
  ·rw[hB i i1 i2 ei]at e;exact⟨fun x=>ei x.1,e⟩
 refine⟨by rw[hm,give_length];exact h.mapl,fun i i' j j' m i1 i2 i3 i4 a b hm0=> ?_,fun m m1 m2=> ?_⟩
 ·exact h.one i i' j j' m i1 i2 i3 i4 (hg i j m i1 i2 a hm0).2 (hg i' j' m i3 i4 b hm0).2 hm0
 ·rw[hm,used_give h.mapl n1 n2 m1 m2,Bool.and_eq_true,Bool.not_eq_true',decide_eq_false_iff_not,h.used m m1 m2];constructor
  ·rintro⟨hne,i,j,i1,i2,e⟩;by_cases ei:i=d
   ·subst ei;refine⟨i,j,i1,i2,?_⟩;have hjk:j≠k:=fun x=>by
     rw[x,hk]at e;have:=Option.some.inj e
     omega
    rw[hd,List.getElem?_set_ne (fun x=>hjk x.symm)];exact e
   ·exact⟨i,j,i1,i2,by rw[hB i i1 i2 ei];exact e⟩
  ·rintro⟨i,j,i1,i2,e⟩;obtain⟨e1,e2⟩:=hg i j _ i1 i2 e (by omega);refine⟨fun x=> ?_,i,j,i1,i2,e2⟩;subst x;exact e1 (h.one i d j k _ i1 i2 d1 d2 e2 hk hn0)
end Gd
namespace Gd
end Gd
end Go.Proofs.YtckoobkjpndgnaaGreatDoor
