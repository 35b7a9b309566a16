/- Walks: a file is opened that is not there: in a volume that began. -/
import Derived.Test.YtckoobkjpndgnaaGreatDoorW14
set_option linter.unusedVariables false
set_option linter.unusedSimpArgs false
set_option linter.unusedSectionVars false
set_option maxHeartbeats 8000000
set_option maxRecDepth 100000
namespace Go.Proofs.YtckoobkjpndgnaaGreatDoor
open Go.RowKit
open Lib(hid)
open Go.Proofs.Tryz
section
open Go.Shelf
theorem Gd.DirOf.same{M N:Gd.Vol}{d:Nat}{T:Gd.Tab}(h:Gd.DirOf M d T)(hi:N.ino d=M.ino d)(hb:N.blk=M.blk):Gd.DirOf N d T:=
 ⟨h.lo,h.hi,by rw[hi];exact h.kind,h.ok,fun k hk=>by rw[hi,hb];exact h.blk k hk⟩
end
section
open Go.Shelf
theorem ent_not{nm:List UInt8}{i:Nat}(h1:1≤i):(⟨nm,i⟩:Gd.Ent)≠Gd.noEnt:=fun e=>by
 have:i=0:=congrArg Gd.Ent.i e
 omega
namespace Gd
def tabA:Tab:=setT noTab 14 ⟨[97],2⟩
def tabB:Tab:=setT tabA 15 ⟨[98],3⟩
def tabC4:Tab:=setT tabB 0 ⟨[99],4⟩
theorem hash4:hN [97]=14∧hN [98]=14∧hN [99]=14∧hN [100]=14:=by decide+kernel
theorem placeD:findT tabC4 [100] 14=none∧placeT tabC4 14=some 1:=by decide+kernel
def map0:List UInt8:=List.replicate 16 0
def map1:List UInt8:=takeB map0 1
def map2:List UInt8:=takeB map1 2
theorem first0:firstB map0=1∧countB map0=0:=by decide+kernel
theorem first1:firstB map1=2∧countB map1=1:=by decide+kernel
theorem names4:Np.nameB [97]=true∧Np.nameB [98]=true∧Np.nameB [99]=true∧Np.nameB [100]=true:=by decide+kernel
end Gd
end
theorem MetaV.good[MemNo]{x t K:Nat}{S:List UInt8}{M:Gd.Vol}{w:World}{F:Nat→Prop}(h:MetaV x t S M 0 K w F):Gd.Good S M:=by
 obtain⟨P,h1,h2⟩:=h;have:P=[]:=List.eq_nil_of_length_eq_zero (Nat.le_zero.1 h1.light.many)
 subst this;exact h2
theorem mcommit[MemNo]{x t c K:Nat}{S:List UInt8}{M:Gd.Vol}{F:Nat→Prop}(w:World)(h:MetaV x t S M c K w F)(hc:c≤57)(hK:K<600000000000):
 Calls prog 17 #[.pointer (some ⟨t,0,none⟩)] w fun e w'=>e= .returned (.int .i64 0)∧∃S',Turns x t S' M 0 (K+2000000) F w w':=by
 obtain⟨P,h,hG⟩:=h;refine(commit_any w h.txn ⟨Nat.le_trans h.light.many hc,h.light.len⟩ h.len h.log hK).mono ?_
 rintro e w' ⟨rfl,⟨S',hl,he,hs,hT⟩,hO⟩;refine⟨rfl,S',F,⟨[],⟨hT,(hO.block x (lt_get h.obj) fun e=>e.2 rfl).trans h.obj,h.inF,hl,he,⟨Nat.le_refl 0,fun _ hp=>by cases hp⟩,fun k hk=>Nat.lt_of_lt_of_le (h.tight k hk) hO.size⟩,?_⟩,fun _ _ e=>e,hO.mono fun _ _ e=>e.1⟩;exact hG.same (by rw[h.view_len];exact hl) hs
theorem mdrop[MemNo]{x t c K:Nat}{S:List UInt8}{M M0:Gd.Vol}{F:Nat→Prop}(w:World)(h:MetaV x t S M c K w F)(hG:Gd.Good S M0):
 Calls prog 10 #[.pointer (some ⟨t,0,none⟩)] w fun e w'=>e= .returned (.tuple #[])∧Turns x t S M0 0 K F w w':=by
 obtain⟨P,h,_⟩:=h;refine(tdrop_any w h.txn).mono ?_
 rintro e w' ⟨rfl,hT,hO⟩;exact⟨rfl,F,⟨[],⟨hT,(hO.block x (lt_get h.obj) fun e=>e.2 rfl).trans h.obj,h.inF,h.len,h.log,⟨Nat.le_refl 0,fun _ hp=>by cases hp⟩,fun k hk=>Nat.lt_of_lt_of_le (h.tight k hk) hO.size⟩,hG⟩,fun _ _ e=>e,hO.mono fun _ _ e=>e.1⟩
def Mx(w:World):Prop:=∃m:Int,w.cell? ⟨0,0,none⟩=some (.int .i64 m)
theorem mx_lt{w:World}{m:Int}(hm:w.cell? ⟨0,0,none⟩=some (.int .i64 m)):0<w.heap.size:=by
 unfold World.cell? at hm
 cases hh:w.heap[0]? with
 |none=>rw[show(⟨0,0,none⟩:Addr).block=0 from rfl,hh]at hm;cases hm
 |some o=>exact(Array.getElem?_eq_some_iff.1 hh).1
theorem Mx.under{w b:World}(h:Mx w)(hb:Below w.heap.size w b):Mx b:=by
 obtain⟨mx,hmx⟩:=h;exact⟨mx,(hb.cell (p:=⟨0,0,none⟩) (mx_lt hmx)).trans hmx⟩
section
open Go.Shelf
def Nof(_:Nat):Prop:=False
theorem Tl.belowW[MemNo]{x t c K:Nat}{S:List UInt8}{M:Gd.Vol}{w a:World}{Ls:List (Nat×Obj)}(h:Tl x t S M c K Nof w a Ls):Below w.heap.size w a:=by
 obtain⟨F',h1,_⟩:=h;exact h1.only.below (Nat.le_refl _) fun _ _ e=>e
theorem Tl.next2[MemNo]{x t c d K K2:Nat}{S S2:List UInt8}{M N:Gd.Vol}{F F1:Nat→Prop}{w a b:World}{Ls:List (Nat×Obj)}(h1:Step (MetaV x t S M c K) F w F1 a)(h2:∀p∈Ls,w.heap.size≤p.1∧¬F1 p.1∧a.heap[p.1]? =some p.2)(ht:Turns x t S2 N d K2 F1 a b):Tl x t S2 N d K2 F w b Ls:=by
 obtain⟨F2,s⟩:=ht;refine⟨F2,h1.trans s,fun p hp=> ?_⟩;obtain⟨q1,q2,q3⟩:=h2 p hp;obtain⟨o1,o2⟩:=s.own (lt_get q3) q2;exact⟨q1,o2,o1.trans q3⟩
theorem Tl.commit[MemNo]{x t c K:Nat}{S:List UInt8}{M:Gd.Vol}{F:Nat→Prop}{w a:World}{Ls:List (Nat×Obj)}(h:Tl x t S M c K F w a Ls)(hc:c≤57)(hK:K<600000000000):
 Calls prog 17 #[.pointer (some ⟨t,0,none⟩)] a fun e b=>e= .returned (.int .i64 0)∧∃S',Tl x t S' M 0 (K+2000000) F w b Ls:=by
 obtain⟨F1,h1,h2⟩:=h;refine(mcommit a h1.inv hc hK).mono ?_
 rintro e b ⟨rfl,S',ht⟩;exact⟨rfl,S',Tl.next2 h1 h2 ht⟩
theorem Tl.drop[MemNo]{x t c K:Nat}{S:List UInt8}{M M0:Gd.Vol}{F:Nat→Prop}{w a:World}{Ls:List (Nat×Obj)}(h:Tl x t S M c K F w a Ls)(hG:Gd.Good S M0):
 Calls prog 10 #[.pointer (some ⟨t,0,none⟩)] a fun e b=>e= .returned (.tuple #[])∧Tl x t S M0 0 K F w b Ls:=by
 obtain⟨F1,h1,h2⟩:=h;refine(mdrop a h1.inv hG).mono ?_
 rintro e b ⟨rfl,ht⟩;exact⟨rfl,Tl.next2 h1 h2 ht⟩
theorem Tl.good[MemNo]{x t K:Nat}{S:List UInt8}{M:Gd.Vol}{F:Nat→Prop}{w a:World}{Ls:List (Nat×Obj)}(h:Tl x t S M 0 K F w a Ls):Gd.Good S M:=by
 obtain⟨F1,h1,_⟩:=h;exact h1.inv.good
theorem Tl.less[MemNo]{x t c K:Nat}{S:List UInt8}{M:Gd.Vol}{F:Nat→Prop}{w a:World}{Ls Ls':List (Nat×Obj)}(h:Tl x t S M c K F w a Ls)(hL:∀p∈Ls',p∈Ls):Tl x t S M c K F w a Ls':=by
 obtain⟨F1,h1,h2⟩:=h;exact⟨F1,h1,fun p hp=>h2 p (hL p hp)⟩
theorem txn_start[MemNo]{m sb lb ab n t g:Nat}{S:List UInt8}{w a:World}(hM:MemAt a m sb lb ab n S 0)(h1:w.heap.size≤m∧w.heap.size≤sb∧w.heap.size≤lb∧w.heap.size≤ab)(hg1:w.heap.size≤g)(hg:LogAt a g m 2688 4096)
 (ht1:w.heap.size≤t)(ht:a.heap[t]? =some (.cells #[.pointer (some ⟨m,0,none⟩),.pointer (some ⟨g,0,none⟩),.slice none 0 0] 89 (0,0)))(hmn:m=MemNo.no):TxnF t S [] 0 a fun k=>w.heap.size≤k:=
 ⟨m,g,.slice none 0 0,⟨sb,lb,ab,n,hM,h1⟩,⟨ht,World.ownsRow_nil _ _ _ _⟩,hg,ht1,hg1,(fun q hq=>by cases hq),⟨(fun p hp=>by cases hp),(fun p hp=>by cases hp),Nat.zero_le _⟩,hmn⟩
theorem meta_start[MemNo]{x t:Nat}{S:List UInt8}{w a:World}(h:TxnF t S [] 0 a fun k=>w.heap.size≤k∧k<x)(hx1:w.heap.size≤x)(hx:a.heap[x]? =some (.cells #[.pointer (some ⟨t,0,none⟩)] 96 (0,0)))(hS:S.length=23168)(he:Gd.part S 2688 8=Gd.le 0 8):MetaF x t S [] 0 0 a fun k=>w.heap.size≤k∧k<a.heap.size:=
 ⟨(TxnF.held t S [] 0).mono h fun k hk e=>⟨⟨e.1,hk⟩,by omega⟩,hx,⟨hx1,lt_get hx⟩,hS,he,⟨Nat.le_refl 0,fun _ hp=>by cases hp⟩,fun k hk=>hk.2⟩
theorem zeros_log:Gd.part (List.replicate 23168 0) 2688 8=Gd.le 0 8:=by
 unfold Gd.part;rw[List.drop_replicate,List.take_replicate];rfl
section
variable {x t c K f:Nat} {S:List UInt8} {M:Gd.Vol} {F:Nat→Prop} {w a:World} {Ls:List (Nat×Obj)} {s:Nat→List UInt8}
theorem Tl.fino[MemNo](h:Tl x t S M c K F w a Ls)(i:Int)(h1:1≤i)(h2:i≤32):Calls prog 24 #[.pointer (some ⟨x,0,none⟩),.int .i64 i] a fun e W=>e= .returned (.tuple #[inoV (M.ino i.toNat),.int .i64 0])∧Below a.heap.size a W:=by
 obtain⟨F1,k1,k2⟩:=h;exact inode_ok i a k1.inv h1 h2
end
end
section
open Go.Shelf
attribute [local go_sem] Oper.semAt_some
theorem sum_step{O:List Int}{k:Nat}{n:Int}(h:O[k]? =some n):(O.take (k+1)).sum=(O.take k).sum+n:=by
 rw[List.take_add_one,h,List.sum_append];simp
theorem sum_rng{O:List Int}(hO:∀n∈O,0≤n∧n≤8):∀k,0≤(O.take k).sum∧(O.take k).sum≤8*k
 |0=>by simp
 |k+1=>by
  have h1:=sum_rng hO k;by_cases hk:k<O.length
  ·have hg:O[k]? =some O[k]:=List.getElem?_eq_getElem hk;have h2:=hO _ (List.mem_of_getElem? hg);rw[sum_step hg];omega
  ·rw[List.take_of_length_le (by omega)]at h1⊢;omega
theorem iopen_any(y:Gd.Ino)(hy:y.Shape)(hO:∀n∈y.O,0≤n∧n≤8)(w:World):
 Calls prog 63 #[inoV y] w fun e w'=>e= .returned (.int .i64 y.O.sum)∧Below w.heap.size w w':=by
 obtain⟨hb0,hr0⟩:=below_new w (inoC y) 72;obtain⟨ib,hib⟩:=nm w.heap.size;obtain⟨w0,hw0⟩:=nm (w.alloc (.cells (inoC y) 72));rw[←hw0,←hib]at hr0;rw[←hw0]at hb0;have HI0:Hid (InoAt w0 ib y):=hid ⟨hr0,hy⟩;have HL:Hid ((intC y.O).length=8):=hid (by rw[intC_len];exact hy.2);have HO:=hid hO;have HSh:=hid hy;have HB0:=hid hb0;have HW0:=hid hw0.symm;have Hib:=hid hib.symm;have HAll:Hid (y.O.take 8=y.O):=hid (List.take_of_length_le (by rw[hy.2];exact Nat.le_refl _));clear hy hO hb0 hr0 hib hw0;unfold inoV at*;go_enter func63,ntmps63;go_upto_region 2 with fail
 rw[HW0.o,Hib.o];go_upto_region 3 with(refine wpList_load_mid rfl 36 _ rfl ib 7 rfl (intC y.O) _ HI0.o.opens underlying36 rfl (by rw[HL.o];exact size8) ?_)
 go_loopw[3,8] (fun u z wr=>∃k:Nat,z= .int .i64 k∧k≤8∧u= .int .i64 (y.O.take k).sum∧wr=w0) (fun _ z _=>8-(intOf z).toNat)
 case atStart=>exact⟨0,rfl,by omega,by simp,rfl⟩
 case round=>
  obtain⟨k,rfl,hk,rfl,hwr⟩:=hrel;subst hwr;by_cases hlt:k<8
  ·obtain⟨n,hn⟩:∃n,y.O[k]? =some n:=⟨_,List.getElem?_eq_getElem (by rw[HSh.o.2];omega)⟩;have hc:=run_index_one 36 3 8 (intC y.O).toArray .i64 .i64 k _ wr underlying36 underlying3 infoInts hlt (by rw[List.getElem?_toArray];exact intC_get hn);have h8:(k:Int)<8:=by omega
   have HSt:=hid (sum_step hn);have hnr:=HO.o n (List.mem_of_getElem? hn);have hsr:=sum_rng HO.o k;obtain⟨q,hq⟩:=nm ((y.O.take k).sum);rw[←hq]at HSt hsr⊢;obtain⟨hn0,hn8⟩:=hnr;obtain⟨hs0,hs8⟩:=hsr;have Hlt:=hid hlt;clear hn hq hlt;go_wp2_with fail
   go_roundw
   case rel=>exact⟨k+1,by go_num,by have:=Hlt.o;omega,by rw[HSt.o],trivial⟩
   case measure=>simp[intOf];have:=Hlt.o;omega
  ·obtain rfl:k=8:=by omega
   rw[HAll.o];clear hlt;go_wp2_with fail
   go_ret
   exact⟨rfl,HB0.o⟩
theorem fold_len:∀(L:List Int) (m:List UInt8),(L.foldl Gd.giveI m).length=m.length
 |[],_=>rfl
 |n::r,m=>by
  rw[List.foldl_cons,fold_len r];unfold Gd.giveI;split
  ·exact Gd.give_length _ _
  ·rfl
theorem fold_step{L:List Int}{k:Nat}{n:Int}(m:List UInt8)(h:L[k]? =some n):(L.take (k+1)).foldl Gd.giveI m=Gd.giveI ((L.take k).foldl Gd.giveI m) n:=by
 rw[List.take_add_one,h,List.foldl_append];rfl
theorem mgive_any[MemNo]{x t c K:Nat}{S:List UInt8}{M:Gd.Vol}{F:Nat→Prop}(b o cp:Nat)(L:List Int)(w:World)(h:MetaV x t S M c K w F)(hc:c<64)(hL:L.length≤100)(hb:b<w.heap.size)(hA:∀(j:Nat) (n:Int),L[j]? =some n→w.cell? ⟨b,o+j,none⟩=some (.int .i64 n)):
 Calls prog 64 #[.pointer (some ⟨x,0,none⟩),.slice (some ⟨b,o,none⟩) L.length cp] w fun e w'=>e= .returned (.int .i64 0)∧Turns x t S (M.setMap (L.foldl Gd.giveI M.map)) (c+1) K F w w':=by
 have hml:M.map.length=16:=by
  obtain⟨P,h,hG⟩:=h;exact hG.mapl
 have HMp:=hid (map_any w h);obtain⟨m,hmm⟩:=nm M.map;rw[←hmm]at hml HMp⊢;have HM:=hid h;have HAt:=hid hA;have Hb:=hid hb;have HC:=hid hc;obtain⟨l,hl⟩:=nm L.length;have Hl:=hid hl;rw[←hl]at hL⊢;have hl2:(l:Int)≤100:=by omega
 obtain⟨Z,hZ⟩:∃Z:Array Value,Z=#[.int .u8 0,.int .u8 0,.int .u8 0,.int .u8 0,.int .u8 0,.int .u8 0,.int .u8 0,.int .u8 0,.int .u8 0,.int .u8 0,.int .u8 0,.int .u8 0,.int .u8 0,.int .u8 0,.int .u8 0,.int .u8 0]:=⟨_,rfl⟩;have HZs:Hid (Z.size=16):=hid (by rw[hZ];rfl);have HZ:=hid hZ.symm;have HS:=hid (cellsB_len hml);have HSk:Hid (∀k,(cellsB ((L.take k).foldl Gd.giveI m)).size=16):=hid fun k=>cellsB_len (by rw[fold_len];exact hml);have HGv:Hid (∀k n W,Calls prog 111 #[mapV ((L.take k).foldl Gd.giveI m),.int .i64 n] W fun e w'=>e= .returned (mapV (Gd.giveI ((L.take k).foldl Gd.giveI m) n))∧Below W.heap.size W w'):=hid fun k n W=>give_any _ (by rw[fold_len];exact hml) n W
 have HSm:Hid (∀W,Below w.heap.size w W→Calls prog 43 #[.pointer (some ⟨x,0,none⟩),mapV (L.foldl Gd.giveI m)] W fun e w'=>e= .returned (.int .i64 0)∧Turns x t S (M.setMap (L.foldl Gd.giveI m)) (c+1) K F w w'):=hid fun W hW=>by
  refine(setmap_any _ (by rw[fold_len];exact hml) W (HM.o.below hW) HC.o).mono ?_
  rintro e w' ⟨he,ht⟩;exact⟨he,ht.behind hW⟩
 have HAll:Hid (L.take l=L):=hid (by rw[hl,List.take_length]);unfold mapV at*;clear h hmm hZ hl hml hA hb hc;go_enter func64,ntmps64;go_wp2_with fail
 refine HMp.o.mono ?_;rintro e w1 ⟨rfl,hb1⟩;obtain⟨hb2,hn2⟩:=below_new w1 Z 107;obtain⟨w2,hw2⟩:=nm (w1.alloc (.cells Z 107));obtain⟨mb,hbe⟩:=nm w1.heap.size;rw[←hw2,←hbe]at hn2;rw[←hw2]at hb2;obtain⟨hb3,hn3⟩:=whole_at hn2 (vs:=(cellsB m).toList) (B:=mb) (by rw[HZs.o,Array.length_toList,HS.o]) (Nat.le_refl mb);obtain⟨w3,hw3⟩:=nm (w2.setCells mb 0 (cellsB m).toList);rw[←hw3]at hb3 hn3;have HN2:=hid hn2;have HN3:Hid (w3.heap[mb]? =some (.cells (cellsB m) 107 (0,0))):=hid hn3;have HB3:Hid (Below w.heap.size w w3):=hid (by
  have h1:=hb1.size;have h2:=hb2.size;have h3:w1.heap.size≤mb:=by omega
  exact(hb1.trans (hb2.mono h1)).trans (hb3.mono (by omega)))
 have Hmb:Hid (w.heap.size≤mb):=hid (by rw[hbe];exact hb1.size);have Hbe:=hid hbe.symm;have HW2:=hid hw2.symm;have HW3:=hid hw3.symm;rw[←HZ.o]at HW2;clear hb1 hb2 hn2 hw2 hbe hb3 hn3 hw3 HMp;go_upto_region 3 with(refine wpList_store_mid rfl 107 _ _ rfl mb 0 (cellsB m) (by rw[←Hbe.o];rfl) rfl (by rw[HW2.o];exact there_at HN2.o (by rw[HZs.o,HS.o])) (by rw[HS.o];exact sizeMap) (cellsB_one _) ?_;rw[HW2.o,HW3.o])
 rw[Hbe.o];go_loopw[12] (fun z wr=>∃k:Nat,z= .int .i64 k∧k≤l∧Hid (wr.heap[mb]? =some (.cells (cellsB ((L.take k).foldl Gd.giveI m)) 107 (0,0)))∧Hid (Below w.heap.size w wr)) (fun z _=>l-(intOf z).toNat)
 case atStart=>exact⟨0,rfl,by omega,HN3,HB3⟩
 case round=>
  obtain⟨k,rfl,hk,HN,HB⟩:=hrel;by_cases hlt:k<l
  ·obtain⟨n,hn⟩:∃n,L[k]? =some n:=⟨_,List.getElem?_eq_getElem (by rw[←Hl.o];exact hlt)⟩;have c0:wr.cell? ⟨b,o+k,none⟩=some (.int .i64 n):=(HB.o.cell (p:=⟨b,o+k,none⟩) Hb.o).trans (HAt.o k n hn);have h1:(k:Int)<l:=by omega
   have h0:(0:Int)≤k:=by omega
   have HSt:=hid (fold_step m hn);have Hlt:=hid hlt;have HSz:=hid (HSk.o k);have HSz1:=hid (HSk.o (k+1));have HGc:=hid (HGv.o k n wr);rw[←HSt.o]at HGc;clear hn hlt;go_wp2_with(refine wpList_load_row rfl 107 _ rfl mb rfl 107 (cellsB ((L.take k).foldl Gd.giveI m)) (0,0) _ HN.o underlying107 rfl (by rw[HSz.o];exact sizeMap) ?_)
   refine HGc.o.mono ?_;rintro e w4 ⟨rfl,hb4⟩;have HN4:=hid ((hb4.block mb (lt_get HN.o)).trans HN.o);have HB4:=HB.t hb4;clear hb4 c0 HGc;go_wp2_with(refine wpList_store_mid rfl 107 _ _ rfl mb 0 (cellsB ((L.take (k+1)).foldl Gd.giveI m)) rfl rfl (there_at HN4.o (by rw[HSz.o,HSz1.o])) (by rw[HSz1.o];exact sizeMap) (cellsB_one _) ?_;obtain⟨hbw,hbg⟩:=whole_at HN4.o (vs:=(cellsB ((L.take (k+1)).foldl Gd.giveI m)).toList) (B:=mb) (by rw[HSz.o,Array.length_toList,HSz1.o]) (Nat.le_refl mb);generalize (World.setCells _ _ _ _)=w5 at hbw hbg⊢)
   have HN5:Hid (w5.heap[mb]? =some (.cells (cellsB ((L.take (k+1)).foldl Gd.giveI m)) 107 (0,0))):=hid hbg;have HB5:=hid (HB4.o.trans (hbw.mono Hmb.o));clear hbw hbg;go_roundw
   case rel=>exact⟨k+1,by go_num,by have:=Hlt.o;omega,HN5,HB5⟩
   case measure=>simp[intOf];have:=Hlt.o;omega
  ·obtain rfl:k=l:=by omega
   rw[HAll.o]at HN;have HSz:=hid (HSk.o k);rw[HAll.o]at HSz;have HSc:=hid (HSm.o wr HB.o);clear hlt;go_wp2_with(refine wpList_load_row rfl 107 _ rfl mb rfl 107 (cellsB (L.foldl Gd.giveI m)) (0,0) _ HN.o underlying107 rfl (by rw[HSz.o];exact sizeMap) ?_)
   refine HSc.o.mono ?_;rintro e w4 ⟨rfl,ht⟩;go_wp2;go_ret
   exact⟨rfl,ht⟩
end
section
open Go.Shelf
attribute [local go_sem] Oper.semAt_some
theorem find_no[MemNo]{x t c K d:Nat}{S:List UInt8}{M:Gd.Vol}{T:Gd.Tab}{F:Nat→Prop}(s:List UInt8)(w:World)(h:MetaV x t S M c K w F)(hD:Gd.DirOf M d T)(hs:s.length≤1000)(hne:s≠[])(hf:Gd.findT T s (Gd.hN s)=none):
 Calls prog 69 #[.pointer (some ⟨x,0,none⟩),.int .i64 d,.string ⟨s.toArray⟩] w fun e w'=>e= .returned (.tuple #[.int .i64 0,.int .i64 0])∧Below w.heap.size w w':=by
 have HTb:=hid (tableI_dir w h hD);have HTs:=hid (tabC_size hD.ok.len);have HFi:=hid fun W=>tfind_any T hD.ok.len ⟨s.toArray⟩ (by rw[Lib.size_eq];show s.length≤_;omega) hne (Gd.hN s) rfl W;rw[show(⟨s.toArray⟩:ByteArray).data.toList=s from rfl,hf,show numO none= -1 from rfl]at HFi;obtain⟨sb,hsb⟩:∃sb:ByteArray,sb=⟨s.toArray⟩:=⟨_,rfl⟩;rw[←hsb]at HFi⊢;clear h hD hs hne hf hsb;unfold tabV at*;go_enter func69,ntmps69
 go_upto_region 2 with(first|(go_at_call 70;refine HTb.o.mono ?_;rintro e w2 ⟨rfl,hb2⟩;have HB2:=hid hb2;clear hb2)|(rw[←zTab];refine wpList_store_mid rfl 141 _ _ rfl w2.heap.size 0 (tabC T) rfl rfl (there_at (heap_alloc_new _ _) (by rw[noTab_size,HTs.o])) (by rw[HTs.o];exact sizeTab) (tabC_one _) ?_;obtain⟨hbw,hbg⟩:=new_whole2 w2 (tabC Gd.noTab) 141 (tabC T).toList (by rw[noTab_size,Array.length_toList,HTs.o]);generalize (World.setCells _ _ _ _)=w3 at hbw hbg⊢;have HN3:Hid (w3.heap[w2.heap.size]? =some (.cells (tabC T) 141 (0,0))):=hid hbg;have HB3:=HB2.t hbw;clear hbw hbg))
 go_wp2_with(first|(refine wpList_load_row rfl 141 _ rfl w2.heap.size rfl 141 (tabC T) (0,0) _ HN3.o underlying141 rfl (by rw[HTs.o];exact sizeTab) ?_)|(go_at_call 116;refine(HFi.o w3).mono ?_;rintro e w4 ⟨rfl,hb4⟩;have HB4:=HB3.t hb4;clear hb4))
 go_ret2
 exact⟨rfl,HB4.o⟩
theorem take_ok[MemNo]{x t c K d:Nat}{S:List UInt8}{M:Gd.Vol}{T:Gd.Tab}{F:Nat→Prop}(s:List UInt8)(r:Int)(j:Fin 16)(w:World)(R:World→Prop)(h:MetaV x t S M c K w F)(hD:Gd.DirOf M d T)(hs:s.length≤1000)(hne:s≠[])(hj:Gd.findT T s (Gd.hN s)=some j)
 (hC:∀W,Below w.heap.size w W→Calls prog 121 #[.pointer (some ⟨x,0,none⟩),.int .i64 d,.int .i64 (j.val:Nat),tabV (Gd.setT T j.val Gd.noEnt),.int .i64 (-1),.int .i64 0] W fun e w'=>e= .returned (.int .i64 r)∧R w'):
 Calls prog 79 #[.pointer (some ⟨x,0,none⟩),.int .i64 d,.string ⟨s.toArray⟩] w fun e w'=>e= .returned (.int .i64 r)∧R w':=by
 have HTb:=hid (tableI_dir w h hD);have HTs:=hid (tabC_size hD.ok.len);have HPl:=hid fun W=>tfind_any T hD.ok.len ⟨s.toArray⟩ (by rw[Lib.size_eq];show s.length≤_;omega) hne (Gd.hN s) rfl W;rw[show(⟨s.toArray⟩:ByteArray).data.toList=s from rfl,hj]at HPl;have HSt:=hid fun W=>tset_any T hD.ok.len j.val j.isLt Gd.noEnt W;have HC:=hid hC;obtain⟨k,hk⟩:=nm j.val;have hnk:numO (some j)=(k:Int):=by rw[hk];rfl
 have hk16:(k:Int)<16:=by have:=j.isLt;omega
 have hk0:(0:Int)≤k:=by omega
 rw[←hk]at HSt HC;rw[hnk]at HPl;obtain⟨T2,hT2⟩:=nm (Gd.setT T k Gd.noEnt);rw[←hT2]at HSt HC;have HSt2:Hid (∀W,Calls prog 122 #[tabV T,.int .i64 k,.agg #[.string ⟨#[]⟩,.int .i64 0]] W fun x w'=>x= .returned (tabV T2)∧Below W.heap.size W w'):=hid fun W=>HSt.o W;obtain⟨sb,hsb⟩:∃sb:ByteArray,sb=⟨s.toArray⟩:=⟨_,rfl⟩;rw[←hsb]at HPl⊢;clear h hD hs hj hC hk hnk hT2 hsb hne HSt;unfold tabV at*;go_enter func79,ntmps79
 go_upto_region 2 with(first|(go_at_call 70;refine HTb.o.mono ?_;rintro e w2 ⟨rfl,hb2⟩;have HB2:=hid hb2;clear hb2)|(rw[←zTab];refine wpList_store_mid rfl 141 _ _ rfl w2.heap.size 0 (tabC T) rfl rfl (there_at (heap_alloc_new _ _) (by rw[noTab_size,HTs.o])) (by rw[HTs.o];exact sizeTab) (tabC_one _) ?_;obtain⟨hbw,hbg⟩:=new_whole2 w2 (tabC Gd.noTab) 141 (tabC T).toList (by rw[noTab_size,Array.length_toList,HTs.o]);generalize (World.setCells _ _ _ _)=w3 at hbw hbg⊢;have HN3:Hid (w3.heap[w2.heap.size]? =some (.cells (tabC T) 141 (0,0))):=hid hbg;have HB3:=HB2.t hbw;clear hbw hbg))
 go_upto_region 7 with(first|(refine wpList_load_row rfl 141 _ rfl w2.heap.size rfl 141 (tabC T) (0,0) _ HN3.o underlying141 rfl (by rw[HTs.o];exact sizeTab) ?_)|(go_at_call 116;refine(HPl.o w3).mono ?_;rintro e w4 ⟨rfl,hb4⟩;have HB4:=HB3.t hb4;have HN4:=HN3.r hb4;clear hb4))
 go_wp2_with(first|(refine wpList_load_row rfl 141 _ rfl w2.heap.size rfl 141 (tabC T) (0,0) _ HN4.o underlying141 rfl (by rw[HTs.o];exact sizeTab) ?_)|(go_at_call 122;refine(HSt2.o w4).mono ?_;rintro e w5 ⟨rfl,hb5⟩;have HCc:=hid (HC.o w5 (HB4.o.trans (hb5.mono HB4.o.size)));clear hb5)|(go_at_call 121;refine HCc.o.mono ?_;rintro e w6 ⟨rfl,hr6⟩))
 go_ret
 exact⟨rfl,hr6⟩
theorem slice_arr(b o:Nat)(w:World):(Instr.sliceAt 70 (.pointer (some ⟨b,o,none⟩)) none none none).run prog w= .ok (.slice (some ⟨b,o,none⟩) 4 4) w:=by
 simp[go_sem,Instr.sliceAt,Instr.sliceBounds,Program.arrayLen,underlying70,slicedAt,Program.elem,Addr.add]
end
section
open Go.Shelf
attribute [local go_sem] Oper.semAt_some
theorem run_loadAt_ino{w:World}{b t:Nat}{C:Array Value}(h:w.heap[b]? =some (.cells C t (0,0)))(hs:C.size=15):(Instr.loadAt 72 (.pointer (some ⟨b,0,none⟩))).run prog w= .ok (.agg C) w:=by
 have hr:w.rangeAt b 0 C.toList:=fun j v hj=>by
  rw[Nat.zero_add,cell_of_row w b j _ _ _ h];simpa using hj
 have:=run_loadAt_mid (P:=prog) w b 0 72 C.toList _ hr underlying72 rfl (by rw[Array.length_toList,hs];exact sizeIno)
 rw[this]
theorem keep_set[MemNo]{x t c K:Nat}{S:List UInt8}{M:Gd.Vol}{F:Nat→Prop}(i:Nat)(y:Gd.Ino)(hy:y.Shape)(hm:Gd.mayI y=true)(w:World)(h:MetaV x t S M c K w F)(h1:1≤i)(h2:i≤32)(hc:c<64)(hk:0<y.l∨0<y.O.sum):
 Calls prog 25 #[.pointer (some ⟨x,0,none⟩),.int .i64 i,inoV y] w fun e w'=>e= .returned (.int .i64 0)∧Turns x t S (M.setIno i y) (c+1) K F w w':=by
 obtain⟨hb0,hr0⟩:=below_new w (inoC y) 72;obtain⟨yb,hyb⟩:=nm w.heap.size;obtain⟨w0,hw0⟩:=nm (w.alloc (.cells (inoC y) 72));rw[←hw0,←hyb]at hr0;rw[←hw0]at hb0;have HIr:=hid hr0;have hI0:InoAt w0 yb y:=⟨hr0,hy⟩;have b1:=hI0.c1;have HB0:=hid hb0;have HS:=hid (inoC_size hy);have HOp:=hid fun W=>iopen_any y hy (fun n hn=>by have:=(Gd.mayI_in hm).O n hn;omega) W;have HSi:Hid (∀W,Below w.heap.size w W→Calls prog 44 #[.pointer (some ⟨x,0,none⟩),.int .i64 i,inoV y] W fun e w'=>e= .returned (.int .i64 0)∧Turns x t S (M.setIno i y) (c+1) K F w w'):=hid fun W hW=>by
  have:=setino_ok (i:Int) y hy hm W (h.below hW) (by omega) (by omega) hc
  rw[Int.toNat_natCast]at this;refine this.mono ?_;rintro e w' ⟨he,ht⟩;exact⟨he,ht.behind hW⟩
 have HW0:=hid hw0.symm;have Hyb:=hid hyb.symm;obtain⟨q,hq⟩:=nm y.O.sum;obtain⟨l,hl⟩:=nm y.l;rw[←hq]at HOp hk;rw[←hl]at hk b1;clear h hy hm h1 h2 hc hb0 hr0 hyb hw0 hI0 hq hl;unfold inoV at*;go_enter func25,ntmps25;go_upto_region 1 with fail
 rw[HW0.o,Hyb.o];by_cases hl0:0<l
 ·have HSc:=hid (HSi.o w0 HB0.o);clear hk;go_wp2_with(first|(refine wpList_load_row rfl 72 _ rfl yb rfl 72 (inoC y) (0,0) _ HIr.o underlying72 rfl (by rw[HS.o];exact sizeIno) ?_)|(go_at_call 44;refine HSc.o.mono ?_;rintro e w3 ⟨rfl,ht3⟩))
  go_ret
  exact⟨rfl,ht3⟩
 ·have hq0:0<q:=hk.resolve_left hl0;have hlg:=run_loadAt_ino HIr.o HS.o;clear hk;go_upto_region 2 with(first|(refine wpList_load_guarded _ _ rfl (by rfl) 72 _ rfl (.pointer (some ⟨yb,0,none⟩)) (.agg (inoC y)) rfl hlg ?_)|(go_at_call 63;refine(HOp.o w0).mono ?_;rintro e w2 ⟨rfl,hb2⟩;have HI2:=hid ((hb2.block yb (lt_get HIr.o)).trans HIr.o);have HSc:=hid (HSi.o w2 (HB0.o.trans (hb2.mono HB0.o.size)));clear hb2))
  go_wp2_with(first|(refine wpList_load_row rfl 72 _ rfl yb rfl 72 (inoC y) (0,0) _ HI2.o underlying72 rfl (by rw[HS.o];exact sizeIno) ?_)|(go_at_call 44;refine HSc.o.mono ?_;rintro e w3 ⟨rfl,ht3⟩))
  go_ret
  exact⟨rfl,ht3⟩
theorem keep_go[MemNo]{x t c K:Nat}{S:List UInt8}{M:Gd.Vol}{F:Nat→Prop}(i:Nat)(y:Gd.Ino)(hy:y.Shape)(hO:∀n∈y.O,0≤n∧n≤8)(w:World)(h:MetaV x t S M c K w F)(h1:1≤i)(h2:i≤32)(hc:c+1<64)(hk:y.l=0∧y.O.sum=0):
 Calls prog 25 #[.pointer (some ⟨x,0,none⟩),.int .i64 i,inoV y] w fun e w'=>e= .returned (.int .i64 0)∧Turns x t S ((M.setMap (y.B.foldl Gd.giveI M.map)).setIno i Gd.noIno) (c+2) K F w w':=by
 obtain⟨hb0,hr0⟩:=below_new w (inoC y) 72;obtain⟨yb,hyb⟩:=nm w.heap.size;obtain⟨w0,hw0⟩:=nm (w.alloc (.cells (inoC y) 72));rw[←hw0,←hyb]at hr0;rw[←hw0]at hb0;have HIr:=hid hr0;have hI0:InoAt w0 yb y:=⟨hr0,hy⟩;have b1:=hI0.c1;rw[hk.1]at b1;have HB0:=hid hb0;have HS:=hid (inoC_size hy);have HOp:=hid fun W=>iopen_any y hy hO W;rw[hk.2]at HOp;have HGv:Hid (∀W,Below w0.heap.size w0 W→Calls prog 64 #[.pointer (some ⟨x,0,none⟩),.slice (some ⟨yb,3,none⟩) 4 4] W fun e w'=>e= .returned (.int .i64 0)∧Turns x t S (M.setMap (y.B.foldl Gd.giveI M.map)) (c+1) K F w w'):=hid fun W hW=>by
  have hIW:=hI0.keep hW;have:=mgive_any yb 3 4 y.B W (h.below (hb0.trans (hW.mono hb0.size))) (by omega) (by rw[hy.1];omega) (lt_get hIW.row) (fun j n hj=>(hIW.cB hj).1)
  rw[hy.1]at this;refine this.mono ?_;rintro e w' ⟨he,ht⟩;exact⟨he,ht.behind (hb0.trans (hW.mono hb0.size))⟩
 have HSi:Hid (∀W,Turns x t S (M.setMap (y.B.foldl Gd.giveI M.map)) (c+1) K F w W→Calls prog 44 #[.pointer (some ⟨x,0,none⟩),.int .i64 i,inoV Gd.noIno] W fun e w'=>e= .returned (.int .i64 0)∧Turns x t S ((M.setMap (y.B.foldl Gd.giveI M.map)).setIno i Gd.noIno) (c+2) K F w w'):=hid fun W hW=>by
  obtain⟨F1,s1⟩:=hW;have:=setino_ok (i:Int) Gd.noIno noIno_shape (by decide) W s1.inv (by omega) (by omega) (by omega)
  rw[Int.toNat_natCast]at this;refine this.mono ?_;rintro e w' ⟨he,F2,s2⟩;exact⟨he,F2,s1.trans s2⟩
 have HW0:=hid hw0.symm;have Hyb:=hid hyb.symm;have hlg:=run_loadAt_ino HIr.o HS.o;have hsl:=fun W=>slice_arr yb 3 W;clear h hy hO h1 h2 hc hb0 hr0 hyb hw0 hI0 hk;unfold inoV at*;go_enter func25,ntmps25;go_upto_region 1 with fail
 rw[HW0.o,Hyb.o];go_upto_region 3 with(first|(refine wpList_load_guarded _ _ rfl (by rfl) 72 _ rfl (.pointer (some ⟨yb,0,none⟩)) (.agg (inoC y)) rfl hlg ?_)|(go_at_call 63;refine(HOp.o w0).mono ?_;rintro e w2 ⟨rfl,hb2⟩;have HGc:=hid (HGv.o w2 hb2);clear hb2))
 go_wp2_with(first|(go_at_call 64;refine HGc.o.mono ?_;rintro e w3 ⟨rfl,ht3⟩;have HSc:=hid (HSi.o w3 ht3);clear ht3)|(go_at_call 44;refine HSc.o.mono ?_;rintro e w4 ⟨rfl,ht4⟩))
 go_ret
 exact⟨rfl,ht4⟩
end
section
open Go.Shelf
attribute [local go_sem] Oper.semAt_some
theorem less_ok[MemNo]{x t c K:Nat}{S:List UInt8}{M:Gd.Vol}{F:Nat→Prop}(i:Nat)(r:Int)(w:World)(R:World→Prop)(h:MetaV x t S M c K w F)(h1:1≤i)(h2:i≤32)(hl:1≤(M.ino i).l∧(M.ino i).l≤20)
 (hC:∀W,Below w.heap.size w W→Calls prog 25 #[.pointer (some ⟨x,0,none⟩),.int .i64 i,inoV ((M.ino i).setL ((M.ino i).l-1))] W fun e w'=>e= .returned (.int .i64 r)∧R w'):
 Calls prog 76 #[.pointer (some ⟨x,0,none⟩),.int .i64 i] w fun e w'=>e= .returned (.int .i64 r)∧R w':=by
 have HI:=hid (inode_ok (i:Int) w h (by omega) (by omega));rw[Int.toNat_natCast]at HI;have hsh:(M.ino i).Shape:=by
  obtain⟨P,h3,h4⟩:=h;exact h4.shape i h1 h2
 obtain⟨y,hy⟩:=nm (M.ino i);rw[←hy]at HI hsh hl hC;have HS:=hid (inoC_size hsh);have HSh:=hid hsh;have HS2:=hid (inoC_size (x:=y.setL (y.l-1)) ⟨hsh.1,hsh.2⟩);have HSt:=hid (inoC_set (inoL_setL y (y.l-1)));have HC:=hid hC;obtain⟨l,hlq⟩:=nm y.l;obtain⟨l1,hl1⟩:=nm (y.l-1);have hwr:IntKind.i64.wrap (l-1)=l1:=by rw[hl1,hlq,IntKind.wrap_i64];omega
 have Hlq:=hid hlq.symm;rw[←hl1]at HSt HS2 HC;clear h h1 h2 hsh hy hl hC hlq hl1;unfold inoV at*;go_enter func76,ntmps76;go_upto_region 4 with(first|(go_at_call 24;refine HI.o.mono ?_;rintro e w2 ⟨rfl,hb2⟩;have HB2:=hid hb2;clear hb2)|(rw[←zIno_lit];refine wpList_store_mid rfl 72 _ _ rfl w2.heap.size 0 (inoC y) rfl rfl (there_at (heap_alloc_new _ _) (by rw[zIno_size,HS.o])) (by rw[HS.o];exact sizeIno) (inoC_one _) ?_;obtain⟨hbw,hbg⟩:=new_whole2 w2 zIno 72 (inoC y).toList (by rw[zIno_size,Array.length_toList,HS.o]);generalize (World.setCells _ _ _ _)=w3 at hbw hbg⊢;have HB3:=HB2.t hbw;have HN3:Hid (w3.heap[w2.heap.size]? =some (.cells (inoC y) 72 (0,0))):=hid hbg;clear hbw hbg))
 obtain⟨ib,hib⟩:=nm w2.heap.size;have Hib:Hid (w.heap.size≤ib):=hid (by rw[hib];exact HB2.o.size);rw[←hib]at HN3⊢;have hI3:InoAt w3 ib y:=⟨HN3.o,HSh.o⟩;have b1:=hI3.c1;have f1:=hI3.f 1;rw[Hlq.o]at b1;obtain⟨w4,hw4⟩:=nm (w3.setCell ⟨ib,1,none⟩ (.int .i64 l1));have HN4:Hid (w4.heap[ib]? =some (.cells (inoC (y.setL l1)) 72 (0,0))):=hid (by rw[hw4,←HSt.o];exact Go.heap_setCell_same w3 ib 1 _ _ _ HN3.o);have HB4:Hid (Below w.heap.size w w4):=hid (by rw[hw4];exact HB3.o.setCell Hib.o _);have HW4:=hid hw4.symm;have HCc:=hid (HC.o w4 HB4.o);clear hI3 hw4 hib;go_upto_region 5 with fail
 rw[HW4.o];clear hwr;go_wp2_with(first|(refine wpList_load_row rfl 72 _ rfl ib rfl 72 (inoC (y.setL l1)) (0,0) _ HN4.o underlying72 rfl (by rw[HS2.o];exact sizeIno) ?_)|(go_at_call 25;refine HCc.o.mono ?_;rintro e w6 ⟨rfl,hr6⟩))
 go_ret
 exact⟨rfl,hr6⟩
theorem sizeInfo:(prog.info? 45).map (fun i=>i.size)=some 3:=by kernel_rfl
theorem stat_ok{x:Nat}(s:ByteArray)(i:Nat)(y:Gd.Ino)(hy:y.Shape)(w:World)
 (hW:Ret w 65 #[.pointer (some ⟨x,0,none⟩),.string s] (.tuple #[.int .i64 i,.int .i64 0]))
 (hI:Ret w 24 #[.pointer (some ⟨x,0,none⟩),.int .i64 i] (.tuple #[inoV y,.int .i64 0])):
 Calls prog 35 #[.pointer (some ⟨x,0,none⟩),.string s] w fun e w'=>e= .returned (.tuple #[.agg #[.int .i64 y.k,.int .i64 y.l,.int .i64 y.s],.int .i64 0])∧Below w.heap.size w w':=by
 have HW:=hid hW;have HI:=hid hI;have HS:=hid (inoC_size hy);have HSh:=hid hy;clear hW hI hy;obtain⟨hb0,hr0⟩:=below_new w #[.int .i64 0,.int .i64 0,.int .i64 0] 45;obtain⟨rb,hrb⟩:=nm w.heap.size;obtain⟨w0,hw0⟩:=nm (w.alloc (.cells #[.int .i64 0,.int .i64 0,.int .i64 0] 45));rw[←hw0,←hrb]at hr0;rw[←hw0]at hb0;have HR0:=hid hr0;have HB0:=hid hb0;have HW0:=hid hw0.symm;have Hrb:=hid hrb.symm;have Hrb2:Hid (w.heap.size≤rb):=hid (by omega);have HWc:=hid (HW.o w0 hb0);clear hb0 hr0 hw0 hrb;unfold inoV at*;go_enter func35,ntmps35;go_upto_region 1 with fail
 rw[HW0.o,Hrb.o];go_upto_region 4 with(go_at_call 65;refine HWc.o.mono ?_;rintro e w1 ⟨rfl,hb1⟩;have HB1:=HB0.t hb1;have HR1:=hid ((hb1.block rb (lt_get HR0.o)).trans HR0.o);have HIc:=hid (HI.o w1 HB1.o);clear hb1)
 go_upto_region 5 with(first|(go_at_call 24;refine HIc.o.mono ?_;rintro e w2 ⟨rfl,hb2⟩;have HB2:=HB1.t hb2;have HR2:=hid ((hb2.block rb (lt_get HR1.o)).trans HR1.o);clear hb2)|(rw[←zIno_lit];refine wpList_store_mid rfl 72 _ _ rfl w2.heap.size 0 (inoC y) rfl rfl (there_at (heap_alloc_new _ _) (by rw[zIno_size,HS.o])) (by rw[HS.o];exact sizeIno) (inoC_one _) ?_;obtain⟨hbw,hbg⟩:=new_whole2 w2 zIno 72 (inoC y).toList (by rw[zIno_size,Array.length_toList,HS.o]);generalize (World.setCells _ _ _ _)=w3 at hbw hbg⊢;have HB3:=HB2.t hbw;have HR3:=hid ((hbw.block rb (lt_get HR2.o)).trans HR2.o);have HN3:Hid (w3.heap[w2.heap.size]? =some (.cells (inoC y) 72 (0,0))):=hid hbg;clear hbw hbg))
 obtain⟨ib,hib⟩:=nm w2.heap.size;rw[←hib]at HN3⊢;have hI3:InoAt w3 ib y:=⟨HN3.o,HSh.o⟩;have b0:=hI3.c0;have b1:=hI3.c1;have b2:=hI3.c2;have r0:=cell_of_row w3 rb 0 _ _ _ HR3.o;have r1:=cell_of_row w3 rb 1 _ _ _ HR3.o;have r2:=cell_of_row w3 rb 2 _ _ _ HR3.o;have f0:=frozen_of_row w3 rb 0 _ _ HR3.o;have f1:=frozen_of_row w3 rb 1 _ _ HR3.o;have f2:=frozen_of_row w3 rb 2 _ _ HR3.o;clear hI3 hib;go_wp2;have g0:=Go.heap_setCell_same w3 rb 0 _ _ (.int .i64 y.k) HR3.o;have g1:=Go.heap_setCell_same _ rb 1 _ _ (.int .i64 y.l) g0;have g2:=Go.heap_setCell_same _ rb 2 _ _ (.int .i64 y.s) g1;refine bodyPost_ret (results_row_tmp rfl _ _ rb 45 #[.int .i64 y.k,.int .i64 y.l,.int .i64 y.s] (0,0) _ rfl g2 underlying45 rfl sizeInfo) rfl ?_;exact⟨rfl,((HB3.o.setCell Hrb2.o _).setCell Hrb2.o _).setCell Hrb2.o _⟩
theorem close_ok[MemNo]{x t c K:Nat}{S:List UInt8}{M:Gd.Vol}{F:Nat→Prop}(k i:Nat)(o r:Int)(w:World)(R:World→Prop)(h:MetaV x t S M c K w F)(h1:1≤i)(h2:i≤32)(hk:k<8)(ho:(M.ino i).O[k]? =some o)(ho1:1≤o)(ho8:o≤8)
 (hC:∀W,Below w.heap.size w W→Calls prog 25 #[.pointer (some ⟨x,0,none⟩),.int .i64 i,inoV ((M.ino i).setO k (o-1))] W fun e w'=>e= .returned (.int .i64 r)∧R w'):
 Calls prog 28 #[.pointer (some ⟨x,0,none⟩),.int .i64 ((k:Int)+1),.int .i64 i] w fun e w'=>e= .returned (.int .i64 r)∧R w':=by
 have HI:=hid (inode_ok (i:Int) w h (by omega) (by omega));rw[Int.toNat_natCast]at HI;have hsh:(M.ino i).Shape:=by
  obtain⟨P,h3,h4⟩:=h;exact h4.shape i h1 h2
 obtain⟨y,hy⟩:=nm (M.ino i);rw[←hy]at HI hsh hC ho;have HS:=hid (inoC_size hsh);have HSh:=hid hsh;have Ho:=hid ho;have HS2:=hid (inoC_size (Gd.Ino.setO_shape hsh k (o-1)));have HSt:=hid (inoC_set (inoL_setO hsh hk (o-1)));have HC:=hid hC;have HIs:=hid fun W=>mis_any ((k:Int)+1) W;rw[show(decide ((1:Int)≤(k:Int)+1)&&decide (((k:Int)+1)≤8))=true by simp;omega]at HIs;have hk8:(k:Int)<8:=by omega
 have hk0:(0:Int)≤k:=by omega
 obtain⟨o1,ho1q⟩:=nm (o-1);have hwo:IntKind.i64.wrap (o-1)=o1:=by rw[ho1q,IntKind.wrap_i64];omega
 have hob:(o==0)=false:=by simp;omega
 have hon:¬o=0:=by omega
 rw[←ho1q]at HSt HS2 HC;clear h h1 h2 hsh hy hC ho1q ho ho1 ho8;unfold inoV at*;go_enter func28,ntmps28;go_upto_region 2 with(first|(go_at_call 24;refine HI.o.mono ?_;rintro e w2 ⟨rfl,hb2⟩;have HB2:=hid hb2;clear hb2)|(rw[←zIno_lit];refine wpList_store_mid rfl 72 _ _ rfl w2.heap.size 0 (inoC y) rfl rfl (there_at (heap_alloc_new _ _) (by rw[zIno_size,HS.o])) (by rw[HS.o];exact sizeIno) (inoC_one _) ?_;obtain⟨hbw,hbg⟩:=new_whole2 w2 zIno 72 (inoC y).toList (by rw[zIno_size,Array.length_toList,HS.o]);generalize (World.setCells _ _ _ _)=w3 at hbw hbg⊢;have HB3:=HB2.t hbw;have HN3:Hid (w3.heap[w2.heap.size]? =some (.cells (inoC y) 72 (0,0))):=hid hbg;clear hbw hbg))
 obtain⟨ib,hib⟩:=nm w2.heap.size;have Hib:Hid (w.heap.size≤ib):=hid (by rw[hib];exact HB2.o.size);rw[←hib]at HN3⊢;have hI3:InoAt w3 ib y:=⟨HN3.o,HSh.o⟩;obtain⟨b1,f1⟩:=hI3.cO (k:=k) (n:=o) Ho.o;obtain⟨w4,hw4⟩:=nm (w3.setCell ⟨ib,7+k,none⟩ (.int .i64 o1));have HN4:Hid (w4.heap[ib]? =some (.cells (inoC (y.setO k o1)) 72 (0,0))):=hid (by rw[hw4,←HSt.o];exact Go.heap_setCell_same w3 ib (7+k) _ _ _ HN3.o);have HB4:Hid (Below w.heap.size w w4):=hid (by rw[hw4];exact HB3.o.setCell Hib.o _);have HW4:=hid hw4.symm;have HCc:=hid (HC.o w4 HB4.o);clear hI3 hw4 hib;go_upto_region 5 with(go_at_call 23;refine(HIs.o _).mono ?_;rintro e wq ⟨rfl,rfl⟩)
 rw[HW4.o];clear hwo;go_wp2_with(first|(refine wpList_load_row rfl 72 _ rfl ib rfl 72 (inoC (y.setO k o1)) (0,0) _ HN4.o underlying72 rfl (by rw[HS2.o];exact sizeIno) ?_)|(go_at_call 25;refine HCc.o.mono ?_;rintro e w6 ⟨rfl,hr6⟩))
 go_ret
 exact⟨rfl,hr6⟩
end
section
open Go.Shelf
attribute [local go_sem] Oper.semAt_some
theorem change_give[MemNo]{x t c K d a:Nat}{S:List UInt8}{M:Gd.Vol}{F:Nat→Prop}(n:Int)(T:Gd.Tab)(more spare:Int)(w:World)(h:MetaV x t S M c K w F)(h1:1≤d)(h2:d≤32)(ha:a<16)(hT:Gd.TabOk T)(hu:Gd.usedT T (a/4)=false)(hB:(M.ino d).B[a/4]? =some n)(hmay:Gd.mayI (((M.ino d).setB (a/4) 0).setS ((M.ino d).s+more))=true)(hsz:0≤(M.ino d).s+more∧(M.ino d).s+more≤16)(hc:c+10<64):
 Calls prog 121 #[.pointer (some ⟨x,0,none⟩),.int .i64 d,.int .i64 a,tabV T,.int .i64 more,.int .i64 spare] w fun e w'=>e= .returned (.int .i64 0)∧Turns x t S ((M.setMap (Gd.giveI M.map n)).setIno d (((M.ino d).setB (a/4) 0).setS ((M.ino d).s+more))) (c+2) K F w w':=by
 obtain⟨k,hk⟩:=nm (a/4);have hq:=quo4 a;rw[←hk]at hq hu hB hmay⊢;have hk4:k<4:=by omega
 have hsh:(M.ino d).Shape:=by
  obtain⟨P,h3,h4⟩:=h;exact h4.shape d h1 h2
 have HTs:=hid (tabC_size hT.len);obtain⟨hb0,hr0⟩:=below_new w (tabC T) 141;obtain⟨tb,htb⟩:=nm w.heap.size;obtain⟨w0,hw0⟩:=nm (w.alloc (.cells (tabC T) 141));rw[←hw0,←htb]at hr0;rw[←hw0]at hb0;have HL0:=hid ((Tl.start h).new hb0 (k:=tb) (by omega) hr0);have HIn:=hid (inode_ok (d:Int) w0 (h.below hb0) (by omega) (by omega));rw[Int.toNat_natCast]at HIn;have HGv:=hid fun W F1 (h3:MetaV x t S M c K W F1) gb (hg:W.heap[gb]? =some (.cells #[.int .i64 n] 3 (0,0)))=>mgive_any gb 0 1 [n] W h3 (by omega) (by show 1≤100;omega) (lt_get hg) (fun j m hj=>by
  match j,hj with
  |0,hj=>
   cases hj
   exact cell_of_row W gb 0 _ _ _ hg)
 have HUs:=hid fun W=>tused_any T hT.len k hk4 W;rw[hu]at HUs;obtain⟨x0,hx0⟩:=nm (M.ino d);rw[←hx0]at hsh hB hmay hsz HIn⊢;obtain⟨x1,hx1⟩:=nm (x0.setB k 0);rw[←hx1]at hmay⊢;obtain⟨y,hy⟩:=nm ((x1.setS (x0.s+more)));rw[←hy]at hmay⊢;have hsh1:x1.Shape:=by rw[hx1];exact Gd.Ino.setB_shape hsh k 0
 have hB1:x1.B[k]? =some 0:=by
  rw[hx1];show(x0.B.set k 0)[k]? =some 0
  rw[List.getElem?_set_self (by rw[hsh.1];exact hk4)]
 have hs1:x1.s=x0.s:=by rw[hx1];rfl
 have hC1:(inoC x0).setIfInBounds (3+k) (.int .i64 0)=inoC x1:=by rw[hx1];exact inoC_set (inoL_setB hsh hk4 0)
 have hC2:(inoC x1).setIfInBounds 2 (.int .i64 (x0.s+more))=inoC y:=by rw[hy];exact inoC_set (inoL_setS x1 _)
 have hyS:y.Shape:=by rw[hy];exact Gd.Ino.setS_shape hsh1 _
 obtain⟨M1,hM1⟩:=nm (M.setMap (Gd.giveI M.map n));have hM1':M.setMap ([n].foldl Gd.giveI M.map)=M1:=by rw[hM1];rfl
 rw[hM1']at HGv;rw[←hM1];have HSi:=hid fun W F1 (h3:MetaV x t S M1 (c+1) K W F1)=>setino_ok (d:Int) y hyS hmay W h3 (by omega) (by omega) (by omega);rw[Int.toNat_natCast]at HSi;have HS:=hid (inoC_size hsh);have HSy:=hid (inoC_size hyS);have HX:=hid (And.intro hsh hsh1);have HB0:=hid hB;have HB1:=hid hB1;have HC1:=hid hC1;have HC2:=hid hC2;have Htb:=hid htb.symm;have HW0:=hid hw0.symm;obtain⟨sm,hsm⟩:=nm (x0.s+more);have hwr:IntKind.i64.wrap (x0.s+more)=sm:=by rw[hsm,IntKind.wrap_i64];omega
 obtain⟨xs,hxs⟩:=nm x0.s;rw[←hxs]at hwr hs1;rw[←hsm]at HC2;have Hs1:=hid hs1;have g4:(k:Int)<4:=by omega
 have g0:(0:Int)≤k:=by omega
 have ga:(0:Int)≤a:=by omega
 have Hq:=hid hq;clear hk hq hB hmay hsz hsh hsh1 hB1 hC1 hC2 hyS htb hw0 hr0 hb0 h h1 h2 hT hu hsm hxs hs1 hx0 hy hx1 hM1 hM1';unfold inoV tabV at*;go_enter func121,ntmps121;go_upto_region 1 with fail
 rw[HW0.o,Htb.o];go_upto_region 2 with(first|(go_at_call 24;refine HIn.o.mono ?_;rintro e w2 ⟨rfl,hb2⟩;have HL2:=hid (HL0.o.below hb2);clear hb2)|(rw[←zIno_lit];refine wpList_store_mid rfl 72 _ _ rfl w2.heap.size 0 (inoC x0) rfl rfl (there_at (heap_alloc_new _ _) (by rw[zIno_size,HS.o])) (by rw[HS.o];exact sizeIno) (inoC_one _) ?_;obtain⟨hbw,hbg⟩:=new_whole2 w2 zIno 72 (inoC x0).toList (by rw[zIno_size,Array.length_toList,HS.o]);generalize (World.setCells _ _ _ _)=w3 at hbw hbg⊢;have HL3:=hid (HL2.o.new hbw (Nat.le_refl _) (o:= .cells (inoC x0) 72 (0,0)) hbg);clear hbw hbg))
 obtain⟨ib,hib⟩:=nm w2.heap.size;rw[←hib]at HL3⊢;have htib:Hid (ib≠tb):=hid (by
  have:=lt_get (HL2.o.get (k:=tb) (o:= .cells (tabC T) 141 (0,0)) (by simp))
  omega)
 clear hib;have HTr3:=hid (HL3.o.get (k:=tb) (o:= .cells (tabC T) 141 (0,0)) (by simp));go_upto_region 5 with fail
 rw[Hq.o];go_upto_region 6 with(first|(refine wpList_load_row rfl 141 _ rfl tb rfl 141 (tabC T) (0,0) _ HTr3.o underlying141 rfl (by rw[HTs.o];exact sizeTab) ?_)|(go_at_call 150;refine(HUs.o w3).mono ?_;rintro e w4 ⟨rfl,hb4⟩;have HL4:=hid (HL3.o.below hb4);clear hb4))
 have hI4:InoAt w4 ib x0:=⟨HL4.o.get (k:=ib) (by simp),HX.o.1⟩;obtain⟨b0,-⟩:=hI4.cB HB0.o;obtain⟨w5,hw5⟩:=nm (w4.alloc (.cells #[.int .i64 n] 3));obtain⟨gb,hgb⟩:=nm w4.heap.size;have hl5:Tl x t S M c K F w w5 [(gb,.cells #[.int .i64 n] 3 (0,0)),(ib,.cells (inoC x0) 72 (0,0)),(tb,.cells (tabC T) 141 (0,0))]:=by
  rw[hw5,hgb];exact HL4.o.new ((Below.refl _ _).alloc (Nat.le_refl _) _) (Nat.le_refl _) (heap_alloc_new _ _)
 have hgr:=hl5.get (k:=gb) (o:= .cells #[.int .i64 n] 3 (0,0)) (by simp);obtain⟨F5,h5s,h5l⟩:=hl5;have HGc:Hid (Calls prog 64 #[.pointer (some ⟨x,0,none⟩),.slice (some ⟨gb,0,none⟩) 1 1] w5 fun e w'=>e= .returned (.int .i64 0)∧Tl x t S M1 (c+1) K F w w' [(ib,.cells (inoC x0) 72 (0,0)),(tb,.cells (tabC T) 141 (0,0))]):=hid (by
  refine(HGv.o w5 F5 h5s.inv gb hgr).mono ?_
  rintro e w' ⟨he,ht⟩;exact⟨he,Tl.next h5s (fun p hp=>h5l p (List.mem_cons_of_mem _ hp)) ht⟩)
 have HW5:=hid hw5.symm;have Hgb:=hid hgb.symm;clear hI4 hw5 hgb hgr h5s h5l;go_upto_region 7 with(first|(rw[HW5.o,Hgb.o];go_at_call 64;refine HGc.o.mono ?_;rintro e w6 ⟨rfl,hl6⟩;have HL6:=hid hl6;clear hl6)|(go_at_call 64;rw[HW5.o,Hgb.o];refine HGc.o.mono ?_;rintro e w6 ⟨rfl,hl6⟩;have HL6:=hid hl6;clear hl6))
 clear b0;have hI6:InoAt w6 ib x0:=⟨HL6.o.get (k:=ib) (by simp),HX.o.1⟩;obtain⟨b0,f0⟩:=hI6.cB HB0.o;clear hI6;have hl7:Tl x t S M1 (c+1) K F w (w6.setCell ⟨ib,3+k,none⟩ (.int .i64 0)) [(ib,.cells (inoC x1) 72 (0,0))]:=by
  refine HL6.o.set (k:=ib) (C:=inoC x0) (ty:=72) (by simp) _ fun p hp=> ?_;rw[HC1.o];exact Or.inl (by simpa using hp)
 obtain⟨w7,hw7⟩:=nm (w6.setCell ⟨ib,3+k,none⟩ (.int .i64 0));rw[←hw7]at hl7;have HL7:=hid hl7;have HW7:=hid hw7.symm;clear hl7 hw7;go_upto_region 10 with fail
 rw[HW7.o];clear b0 f0;have hI7:InoAt w7 ib x1:=⟨HL7.o.get (k:=ib) (by simp),HX.o.2⟩;obtain⟨b0,-⟩:=hI7.cB HB1.o;have b2:=hI7.c2;rw[Hs1.o]at b2;have f2:=hI7.f 2;clear hI7;have hl9:Tl x t S M1 (c+1) K F w (w7.setCell ⟨ib,2,none⟩ (.int .i64 sm)) [(ib,.cells (inoC y) 72 (0,0))]:=by
  refine HL7.o.set (k:=ib) (C:=inoC x1) (ty:=72) (by simp) _ fun p hp=> ?_;rw[HC2.o];exact Or.inl (by simpa using hp)
 obtain⟨w9,hw9⟩:=nm (w7.setCell ⟨ib,2,none⟩ (.int .i64 sm));rw[←hw9]at hl9;have HL9:=hid hl9;have HW9:=hid hw9.symm;clear hl9 hw9;go_upto_region 20 with fail
 rw[HW9.o];have HIr:=hid (HL9.o.get (k:=ib) (o:= .cells (inoC y) 72 (0,0)) (by simp));obtain⟨F9,h9s,h9l⟩:=HL9.o;have HSc9:=hid (HSi.o w9 F9 h9s.inv);have HNx:=hid fun b N d (h:Turns x t S N d K F9 w9 b)=>Tl.next h9s h9l h;clear h9s h9l b2 f2;go_wp2_with(first|(refine wpList_load_row rfl 72 _ rfl ib rfl 72 (inoC y) (0,0) _ HIr.o underlying72 rfl (by rw[HSy.o];exact sizeIno) ?_)|(go_at_call 44;refine HSc9.o.mono ?_;rintro e w10 ⟨rfl,ht10⟩;have HL10:=hid (HNx.o _ _ _ ht10);clear ht10))
 go_ret
 exact⟨rfl,HL10.o.turns⟩
end
section
open Go.Shelf
attribute [local go_sem] Oper.semAt_some
theorem rootV_lit:inoV Gd.rootI= .agg #[.int .i64 2,.int .i64 1,.int .i64 0,.int .i64 0,.int .i64 0,.int .i64 0,.int .i64 0,.int .i64 0,.int .i64 0,.int .i64 0,.int .i64 0,.int .i64 0,.int .i64 0,.int .i64 0,.int .i64 0]:=rfl
theorem mkdir_ok{x:Nat}(s n:ByteArray)(wi d f:Nat)(E spare:Int)(w:World)(R:World→Prop)(hE:E≠0)
 (hW:Ret w 65 #[.pointer (some ⟨x,0,none⟩),.string s] (.tuple #[.int .i64 wi,.int .i64 E]))
 (hP:Ret w 66 #[.pointer (some ⟨x,0,none⟩),.string s] (.tuple #[.int .i64 d,.string n,.int .i64 0]))
 (hF:Ret w 69 #[.pointer (some ⟨x,0,none⟩),.int .i64 d,.string n] (.tuple #[.int .i64 0,.int .i64 0]))
 (hM:∀W,Below w.heap.size w W→Calls prog 67 #[.pointer (some ⟨x,0,none⟩),.int .i64 d,.string n,inoV Gd.rootI,.int .i64 spare] W fun e w'=>e= .returned (.tuple #[.int .i64 f,.int .i64 0])∧R w'):
 Calls prog 29 #[.pointer (some ⟨x,0,none⟩),.string s,.int .i64 spare] w fun e w'=>e= .returned (.int .i64 0)∧R w':=by
 have HW0:=hid (hW w (Below.refl _ _));have HP:=hid hP;have HF:=hid hF;have HM:Hid (∀W,Below w.heap.size w W→Calls prog 67 #[.pointer (some ⟨x,0,none⟩),.int .i64 d,.string n,.agg #[.int .i64 2,.int .i64 1,.int .i64 0,.int .i64 0,.int .i64 0,.int .i64 0,.int .i64 0,.int .i64 0,.int .i64 0,.int .i64 0,.int .i64 0,.int .i64 0,.int .i64 0,.int .i64 0,.int .i64 0],.int .i64 spare] W fun e w'=>e= .returned (.tuple #[.int .i64 f,.int .i64 0])∧R w'):=hid fun W hW=>by
  have h0:=hM W hW;rw[rootV_lit]at h0;exact h0
 have hEb:(E==0)=false:=by simp[hE]
 clear hW hP hF hM;go_enter func29,ntmps29;go_upto_region 4 with(go_at_call 65;refine HW0.o.mono ?_;rintro e w2 ⟨rfl,hb2⟩;have HB2:=hid hb2;clear hb2)
 have HP2:=hid (HP.o w2 HB2.o);go_upto_region 7 with(go_at_call 66;refine HP2.o.mono ?_;rintro e w3 ⟨rfl,hb3⟩;have HB3:=HB2.t hb3;clear hb3)
 have HF3:=hid (HF.o w3 HB3.o);go_upto_region 10 with(go_at_call 69;refine HF3.o.mono ?_;rintro e w4 ⟨rfl,hb4⟩;have HB4:=HB3.t hb4;clear hb4)
 have HMc:=hid (HM.o w4 HB4.o);go_wp2_with(go_at_call 67;refine HMc.o.mono ?_;rintro e w6 ⟨rfl,hr6⟩)
 go_ret
 exact⟨rfl,hr6⟩
theorem remove_ok{x:Nat}(s n:ByteArray)(i d:Nat)(r:Int)(w:World)(Q R:World→Prop)
 (hP:Ret w 66 #[.pointer (some ⟨x,0,none⟩),.string s] (.tuple #[.int .i64 d,.string n,.int .i64 0]))
 (hT:∀W,Below w.heap.size w W→Calls prog 79 #[.pointer (some ⟨x,0,none⟩),.int .i64 d,.string n] W fun e w'=>e= .returned (.int .i64 0)∧Q w')
 (hL:∀W,Q W→Calls prog 76 #[.pointer (some ⟨x,0,none⟩),.int .i64 i] W fun e w'=>e= .returned (.int .i64 r)∧R w'):
 Calls prog 72 #[.pointer (some ⟨x,0,none⟩),.string s,.int .i64 i,.func (.func 76) #[.pointer (some ⟨x,0,none⟩)] #[]] w fun e w'=>e= .returned (.int .i64 r)∧R w':=by
 have HP0:=hid (hP w (Below.refl _ _));have HT:=hid hT;have HL:=hid hL;clear hP hT hL;go_enter func72,ntmps72;go_upto_region 4 with(go_at_call 66;refine HP0.o.mono ?_;rintro e w1 ⟨rfl,hb1⟩;have HTc:=hid (HT.o w1 hb1);clear hb1)
 go_upto_region 7 with(go_at_call 79;refine HTc.o.mono ?_;rintro e w2 ⟨rfl,hq2⟩;have HLc:=hid (HL.o w2 hq2);clear hq2)
 go_wp2_with(go_at_call 76;refine HLc.o.mono ?_;rintro e w3 ⟨rfl,hr3⟩)
 go_ret
 exact⟨rfl,hr3⟩
theorem unlink_ok{x:Nat}(s:ByteArray)(i:Nat)(y:Gd.Ino)(r:Int)(hy:y.Shape)(hk:y.k≠2)(w:World)(R:World→Prop)
 (hW:Ret w 65 #[.pointer (some ⟨x,0,none⟩),.string s] (.tuple #[.int .i64 i,.int .i64 0]))
 (hI:Ret w 24 #[.pointer (some ⟨x,0,none⟩),.int .i64 i] (.tuple #[inoV y,.int .i64 0]))
 (hR:∀W,Below w.heap.size w W→Calls prog 72 #[.pointer (some ⟨x,0,none⟩),.string s,.int .i64 i,.func (.func 76) #[.pointer (some ⟨x,0,none⟩)] #[]] W fun e w'=>e= .returned (.int .i64 r)∧R w'):
 Calls prog 32 #[.pointer (some ⟨x,0,none⟩),.string s] w fun e w'=>e= .returned (.int .i64 r)∧R w':=by
 have HW0:=hid (hW w (Below.refl _ _));have HI:=hid hI;have HR:=hid hR;have HS:=hid (inoC_size hy);have HSh:=hid hy;have hkb:(y.k==2)=false:=by simp[hk]
 clear hW hI hy hR;unfold inoV at*;go_enter func32,ntmps32;go_upto_region 4 with(go_at_call 65;refine HW0.o.mono ?_;rintro e w1 ⟨rfl,hb1⟩;have HB1:=hid hb1;have HIc:=hid (HI.o w1 hb1);clear hb1)
 go_upto_region 5 with(first|(go_at_call 24;refine HIc.o.mono ?_;rintro e w2 ⟨rfl,hb2⟩;have HB2:=HB1.t hb2;clear hb2)|(rw[←zIno_lit];refine wpList_store_mid rfl 72 _ _ rfl w2.heap.size 0 (inoC y) rfl rfl (there_at (heap_alloc_new _ _) (by rw[zIno_size,HS.o])) (by rw[HS.o];exact sizeIno) (inoC_one _) ?_;obtain⟨hbw,hbg⟩:=new_whole2 w2 zIno 72 (inoC y).toList (by rw[zIno_size,Array.length_toList,HS.o]);generalize (World.setCells _ _ _ _)=w3 at hbw hbg⊢;have HB3:=HB2.t hbw;have HN3:Hid (w3.heap[w2.heap.size]? =some (.cells (inoC y) 72 (0,0))):=hid hbg;clear hbw hbg))
 obtain⟨ib,hib⟩:=nm w2.heap.size;rw[←hib]at HN3⊢;have hI3:InoAt w3 ib y:=⟨HN3.o,HSh.o⟩;have b0:=hI3.c0;clear hI3 hib;go_upto_region 9 with fail
 have HRc:=hid (HR.o w3 HB3.o);go_wp2_with fail
 refine HRc.o.mono ?_;rintro e w4 ⟨rfl,hr4⟩;go_wp2;go_ret
 exact⟨rfl,hr4⟩
end
namespace Gd
def z8:List Int:=[0,0,0,0,0,0,0,0]
def lvD:Tab:=setT noTab 14 ⟨[100],2⟩
def lvT:Tab:=setT noTab 14 ⟨[97],3⟩
theorem lvD_ok:TabOk lvD:=noTab_ok.set (Or.inr ⟨names4.2.2.2,by decide,by decide⟩)
theorem lvT_ok:TabOk lvT:=noTab_ok.set (Or.inr ⟨names4.1,by decide,by decide⟩)
theorem lvD_no:∀(k:Fin 3) (i:Fin 4),entAt lvD (4*k.val+i.val)=noEnt:=by decide+kernel
theorem lvT_no:∀(k:Fin 3) (i:Fin 4),entAt lvT (4*k.val+i.val)=noEnt:=by decide+kernel
theorem findD:findT noTab [100] 14=none∧findT lvD [100] 14=some 14∧(entAt lvD 14).i=2:=by decide+kernel
theorem findA:findT noTab [97] 14=none∧findT lvT [97] 14=some 14∧(entAt lvT 14).i=3:=by decide+kernel
theorem place0:placeT noTab 14=some 14:=by decide+kernel
theorem lvT_back:setT lvT 14 noEnt=noTab∧usedT noTab 3=false:=by decide+kernel
theorem lvD_ent:∀e∈lvD,e≠noEnt→e.i=2:=by decide+kernel
theorem lvT_ent:∀e∈lvT,e≠noEnt→e.i=3:=by decide+kernel
theorem dir_last{N:Vol}{d:Nat}{T:Tab}{n:Nat}(lo:1≤d)(hi:d≤32)(kind:(N.ino d).k=2)(ok:TabOk T)(hB:(N.ino d).B=[0,0,0,(n:Int)])(hno:∀(k:Fin 3) (i:Fin 4),entAt T (4*k.val+i.val)=noEnt)(hn1:1≤n)(hn2:n≤128)(hb:N.blk n=blkT T 3):DirOf N d T:=by
 refine⟨lo,hi,kind,ok,fun k hk=> ?_⟩;rw[hB];by_cases e:k=3
 ·subst e;exact⟨n,rfl,Or.inr ⟨hn1,hn2,hb⟩⟩
 ·refine⟨0,?_,Or.inl ⟨rfl,fun i hi=>hno ⟨k,by omega⟩ ⟨i,hi⟩⟩⟩;match k,hk,e with
  |0,_,_=>rfl
  |1,_,_=>rfl
  |2,_,_=>rfl
  |3,_,e=>exact absurd rfl e
theorem dir_none{N:Vol}{d:Nat}(lo:1≤d)(hi:d≤32)(kind:(N.ino d).k=2)(hB:(N.ino d).B=[0,0,0,0]):DirOf N d noTab:=by
 refine⟨lo,hi,kind,noTab_ok,fun k hk=>⟨0,?_,Or.inl ⟨rfl,fun i _=>noTab_at _⟩⟩⟩;rw[hB];match k,hk with
 |0,_=>rfl
 |1,_=>rfl
 |2,_=>rfl
 |3,_=>rfl
structure Lv1(M:Vol):Prop where
 i1:M.ino 1=⟨2,1,1,[0,0,0,1],z8⟩
 i2:M.ino 2=rootI
 rest:∀i,3≤i→M.ino i=noIno
 map:M.map=map1
 b1:M.blk 1=blkT lvD 3
structure Lv2(M:Vol):Prop where
 i1:M.ino 1=⟨2,1,1,[0,0,0,1],z8⟩
 i2:M.ino 2=⟨2,1,1,[0,0,0,2],z8⟩
 i3:M.ino 3=newF.setO 0 1
 rest:∀i,4≤i→M.ino i=noIno
 map:M.map=map2
 b1:M.blk 1=blkT lvD 3
 b2:M.blk 2=blkT lvT 3
def tre1(d:Nat):Tab:=if d=1 then lvD else noTab
def tre2(d:Nat):Tab:=if d=1 then lvD else if d=2 then lvT else noTab
theorem Lv1.tree{M:Vol}(h:Lv1 M):Tree M tre1:=by
 have hd:∀d,1≤d→(M.ino d).k=2→d=1∨d=2:=fun d h1 hk=>by
  by_cases e:3≤d
  ·rw[h.rest d e]at hk;exact absurd hk (by decide)
  ·omega
 refine⟨by rw[h.i1],fun d h1 h2 hk=> ?_,fun d h1 h2 hk e he hne=> ?_⟩
 ·rcases hd d h1 hk with rfl|rfl
  ·exact dir_last (n:=1) (by omega) (by omega) (by rw[h.i1]) lvD_ok (by rw[h.i1];rfl) lvD_no (by omega) (by omega) h.b1
  ·exact dir_none (by omega) (by omega) hk (by rw[h.i2];rfl)
 ·rcases hd d h1 hk with rfl|rfl
  ·rw[lvD_ent e he hne,h.i2];decide
  ·exact absurd (List.eq_of_mem_replicate he) hne
theorem Lv2.tree{M:Vol}(h:Lv2 M):Tree M tre2:=by
 have hd:∀d,1≤d→(M.ino d).k=2→d=1∨d=2:=fun d h1 hk=>by
  by_cases e:4≤d
  ·rw[h.rest d e]at hk;exact absurd hk (by decide)
  ·by_cases e3:d=3
   ·rw[e3,h.i3]at hk;exact absurd hk (by decide)
   ·omega
 refine⟨by rw[h.i1],fun d h1 h2 hk=> ?_,fun d h1 h2 hk e he hne=> ?_⟩
 ·rcases hd d h1 hk with rfl|rfl
  ·exact dir_last (n:=1) (by omega) (by omega) (by rw[h.i1]) lvD_ok (by rw[h.i1];rfl) lvD_no (by omega) (by omega) h.b1
  ·exact dir_last (n:=2) (by omega) (by omega) (by rw[h.i2]) lvT_ok (by rw[h.i2];rfl) lvT_no (by omega) (by omega) h.b2
 ·rcases hd d h1 hk with rfl|rfl
  ·rw[lvD_ent e he hne,h.i2];show(2:Int)≠0
   decide
  ·rw[lvT_ent e he hne,h.i3];decide
theorem lv1_of(S:List UInt8){N:Vol}(hN:N=((((freshV S).setIno 2 rootI).take.setBlk 1 (blkT lvD 3)).setIno 1 ⟨2,1,1,[0,0,0,1],z8⟩)):Lv1 N:=by
 have hmp:((freshV S).setIno 2 rootI).map=map0:=rfl;have hf:firstB ((freshV S).setIno 2 rootI).map=1:=by rw[hmp];exact first0.1
 subst hN;refine⟨rfl,rfl,fun i hi=> ?_,?_,?_⟩
 ·show(if i=1 then _ else if i=2 then rootI else if i=1 then rootI else noIno)=noIno
  rw[if_neg (by omega),if_neg (by omega),if_neg (by omega)]
 ·show takeB ((freshV S).setIno 2 rootI).map (firstB ((freshV S).setIno 2 rootI).map)=_
  rw[hf];rfl
 ·simp[Vol.setIno,Vol.setBlk]
theorem lv2_of{M N:Vol}(h:Lv1 M)(hN:N=(((M.setIno 3 (newF.setO 0 1)).take.setBlk 2 (blkT lvT 3)).setIno 2 ⟨2,1,1,[0,0,0,2],z8⟩)):Lv2 N:=by
 have hf:firstB M.map=2:=by rw[h.map];exact first1.1
 subst hN;refine⟨h.i1,rfl,rfl,fun i hi=> ?_,?_,?_,?_⟩
 ·show(if i=2 then _ else if i=3 then _ else M.ino i)=noIno
  rw[if_neg (by omega),if_neg (by omega)];exact h.rest i (by omega)
 ·show takeB M.map (firstB M.map)=_
  rw[hf,h.map];rfl
 ·have hb:=h.b1;simp[Vol.setIno,Vol.setBlk,Vol.take,Vol.setMap,hf,hb]
 ·simp[Vol.setIno,Vol.setBlk]
theorem walk_d0(S:List UInt8):walkT (freshV S) (fun _=>noTab) [[100]] 1=(0,10):=by
 unfold walkT;rw[if_pos (show((freshV S).ino 1).k=2 from rfl),hash4.2.2.2,findD.1]
theorem place_d0(S:List UInt8):placeP (freshV S) (fun _=>noTab) [] [100]=(1,[100],0):=by
 unfold placeP walkT;rfl
theorem Lv1.walk_a{M:Vol}(h:Lv1 M):walkT M tre1 [[100],[97]] 1=(0,10):=by
 have e2:(entAt (tre1 1) 14).i=2:=findD.2.2;unfold walkT;rw[if_pos (by rw[h.i1]),hash4.2.2.2,show findT (tre1 1) [100] 14=some 14 from findD.2.1];show walkT M tre1 [[97]] (entAt (tre1 1) 14).i=_
 rw[e2];unfold walkT;rw[if_pos (by rw[h.i2];rfl),hash4.1,show findT (tre1 2) [97] 14=none from findA.1]
theorem Lv1.walk_d{M:Vol}(h:Lv1 M):walkT M tre1 [[100]] 1=(2,0):=by
 have e2:(entAt (tre1 1) 14).i=2:=findD.2.2;unfold walkT;rw[if_pos (by rw[h.i1]),hash4.2.2.2,show findT (tre1 1) [100] 14=some 14 from findD.2.1];show walkT M tre1 [] (entAt (tre1 1) 14).i=_
 rw[e2];rfl
theorem Lv1.place_a{M:Vol}(h:Lv1 M):placeP M tre1 [[100]] [97]=(2,[97],0):=by
 unfold placeP;rw[h.walk_d];show(if(0:Nat)≠0 then _ else if(M.ino 2).k=2 then _ else _)=_
 rw[if_neg (by omega),if_pos (by rw[h.i2];rfl)]
theorem Lv2.walk_d{M:Vol}(h:Lv2 M):walkT M tre2 [[100]] 1=(2,0):=by
 have e2:(entAt (tre2 1) 14).i=2:=findD.2.2;unfold walkT;rw[if_pos (by rw[h.i1]),hash4.2.2.2,show findT (tre2 1) [100] 14=some 14 from findD.2.1];show walkT M tre2 [] (entAt (tre2 1) 14).i=_
 rw[e2];rfl
theorem Lv2.walk_a{M:Vol}(h:Lv2 M):walkT M tre2 [[100],[97]] 1=(3,0):=by
 have e2:(entAt (tre2 1) 14).i=2:=findD.2.2;have e3:(entAt (tre2 2) 14).i=3:=findA.2.2;unfold walkT;rw[if_pos (by rw[h.i1]),hash4.2.2.2,show findT (tre2 1) [100] 14=some 14 from findD.2.1];show walkT M tre2 [[97]] (entAt (tre2 1) 14).i=_
 rw[e2];unfold walkT;rw[if_pos (by rw[h.i2]),hash4.1,show findT (tre2 2) [97] 14=some 14 from findA.2.1];show walkT M tre2 [] (entAt (tre2 2) 14).i=_
 rw[e3];rfl
theorem Lv2.place_a{M:Vol}(h:Lv2 M):placeP M tre2 [[100]] [97]=(2,[97],0):=by
 unfold placeP;rw[h.walk_d];show(if(0:Nat)≠0 then _ else if(M.ino 2).k=2 then _ else _)=_
 rw[if_neg (by omega),if_pos (by rw[h.i2])]
theorem pathsL:Np.pathL [47,100]=some [[100]]∧Np.pathL [47,100,47,97]=some [[100],[97]]:=by decide+kernel
theorem mayL:mayI ⟨2,1,1,[0,0,0,1],z8⟩=true∧mayI ⟨2,1,1,[0,0,0,2],z8⟩=true∧mayI ⟨2,1,0,[0,0,0,0],z8⟩=true∧mayI ((newF.setO 0 1).setL 0)=true:=by decide+kernel
end Gd
end Go.Proofs.YtckoobkjpndgnaaGreatDoor
