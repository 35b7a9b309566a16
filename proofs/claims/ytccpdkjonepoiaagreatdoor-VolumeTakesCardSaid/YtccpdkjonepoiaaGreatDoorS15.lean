/- A directory of which an entry was told anew, in plain words. -/
import Derived.Test.YtccpdkjonepoiaaGreatDoorS14
import Derived.SliceStrings
set_option linter.unusedVariables false
set_option linter.unusedSimpArgs false
set_option linter.unusedSectionVars false
set_option maxHeartbeats 8000000
set_option maxRecDepth 100000
namespace Go.Proofs.YtccpdkjonepoiaaGreatDoor
open Go.RowKit
open Lib(hid)
open Go.Proofs.Tryz
namespace Gd
theorem setT_other{T:Tab}{j k i:Nat}{e:Ent}(hT:T.length=16)(hj:j<16)(hk:k≠j/4)(hi:i<4):entAt (setT T j e) (4*k+i)=entAt T (4*k+i):=by
 rw[setT_at hT hj,if_neg (by omega)]
theorem blkT_other{T:Tab}{j k:Nat}{e:Ent}(hT:T.length=16)(hj:j<16)(hk4:k<4)(hk:k≠j/4):blkT (setT T j e) k=blkT T k:=by
 unfold blkT;rw[blk_ext (by unfold setT;rw[List.length_set];exact hT) hT hk4 fun i hi=>setT_other hT hj hk hi]
theorem DirOf.put{M N:Vol}{d j n:Nat}{T:Tab}{e:Ent}(h:DirOf M d T)(he:e.May)(hj:j<16)(hk:(N.ino d).k=2)(hB:(N.ino d).B=(M.ino d).B.set (j/4) (n:Int))(hn1:1≤n)(hn2:n≤128)(hblk:N.blk n=blkT (setT T j e) (j/4))(hoth:∀q,q≠n→N.blk q=M.blk q)
 (hfree:∀k q:Nat,k≠j/4→(M.ino d).B[k]? =some (q:Int)→q≠0→q≠n):DirOf N d (setT T j e):=by
 refine⟨h.lo,h.hi,hk,h.ok.set he,fun k hk4=> ?_⟩;obtain⟨q,hq,hr⟩:=h.blk k hk4;have hlen:k<(M.ino d).B.length:=(List.getElem?_eq_some_iff.1 hq).1;by_cases e1:k=j/4
 ·refine⟨n,?_,Or.inr ⟨hn1,hn2,by rw[e1];exact hblk⟩⟩;rw[hB,←e1,List.getElem?_set_self hlen]
 ·refine⟨q,?_,?_⟩
  ·rw[hB,List.getElem?_set_ne (fun e=>e1 e.symm)];exact hq
  ·rcases hr with⟨h0,hno⟩|⟨q1,q2,hb⟩
   ·exact Or.inl ⟨h0,fun i hi=>by rw[setT_other h.ok.len hj e1 hi];exact hno i hi⟩
   ·refine Or.inr ⟨q1,q2,?_⟩;rw[hoth q (hfree k q e1 hq (by omega)),hb,blkT_other h.ok.len hj hk4 e1]
theorem usedT_set{T:Tab}{j:Nat}{e:Ent}(hT:T.length=16)(hj:j<16)(he:e≠noEnt):usedT (setT T j e) (j/4)=true:=by
 unfold usedT;rw[List.any_eq_true];refine⟨e,?_,by simpa using he⟩;have hl:(setT T j e).length=16:=by unfold setT;rw[List.length_set];exact hT
 have hg:=entAt_get hl hj;rw[setT_at hT hj,if_pos rfl]at hg;refine List.mem_of_getElem? (i:=j % 4) ?_;rw[List.getElem?_take,if_pos (Nat.mod_lt _ (by omega)),List.getElem?_drop,show 4*(j/4)+j % 4=j by omega];exact hg
structure Sound(M:Vol):Prop where
 mapl:M.map.length=16
 one:∀i i' k k':Nat,∀n:Int,1≤i→i≤32→1≤i'→i'≤32→(M.ino i).B[k]? =some n→(M.ino i').B[k']? =some n→n≠0→i=i'∧k=k'
 used:∀n:Nat,1≤n→n≤128→(usedB M.map n=true↔∃i k:Nat,1≤i∧i≤32∧(M.ino i).B[k]? =some (n:Int))
theorem used_zero(n:Nat):usedB (List.replicate 16 0) n=false:=by
 unfold usedB byteAt;have:((List.replicate 16 (0:UInt8)).getD ((n-1)/8) 0).toNat=0:=by
  rw[List.getD_eq_getElem?_getD,List.getElem?_replicate];split<;>rfl
 rw[this];simp
theorem fresh_blocks(S:List UInt8)(i k:Nat)(n:Int)(h:((freshV S).ino i).B[k]? =some n):n=0:=by
 have h2:(if i=1 then rootI else noIno).B[k]? =some n:=h;split at h2
 ·have:n∈rootI.B:=List.mem_of_getElem? h2
  simp[rootI]at this;exact this
 ·have:n∈noIno.B:=List.mem_of_getElem? h2
  simp[noIno]at this;exact this
theorem fresh_sound(S:List UInt8):Sound (freshV S):=by
 refine⟨List.length_replicate,fun i i' k k' n _ _ _ _ h _ hn=>absurd (fresh_blocks S i k n h) hn,fun n n1 _=>⟨fun h=> ?_,fun⟨i,k,_,_,h⟩=> ?_⟩⟩
 ·rw[show(freshV S).map=List.replicate 16 0 from rfl,used_zero]at h
  cases h
 ·have:=fresh_blocks S i k _ h
  omega
end Gd
namespace Gd
theorem set_get{B:List Int}{k j:Nat}{m n:Int}(h:(B.set k m)[j]? =some n):(j=k∧n=m)∨(j≠k∧B[j]? =some n):=by
 by_cases e:j=k
 ·subst e;have hl:=(List.getElem?_eq_some_iff.1 h).1;rw[List.length_set]at hl;rw[List.getElem?_set_self hl]at h;exact Or.inl ⟨rfl,(Option.some.inj h).symm⟩
 ·rw[List.getElem?_set_ne (fun x=>e x.symm)]at h;exact Or.inr ⟨e,h⟩
theorem Sound.same{M N:Vol}(h:Sound M)(hm:N.map=M.map)(hB:∀i,1≤i→i≤32→(N.ino i).B=(M.ino i).B):Sound N:=by
 refine⟨by rw[hm];exact h.mapl,fun i i' k k' n h1 h2 h3 h4 a b hn=> ?_,fun n n1 n2=> ?_⟩
 ·rw[hB i h1 h2]at a;rw[hB i' h3 h4]at b;exact h.one i i' k k' n h1 h2 h3 h4 a b hn
 ·rw[hm,h.used n n1 n2];constructor
  ·rintro⟨i,k,h1,h2,h3⟩;exact⟨i,k,h1,h2,by rw[hB i h1 h2];exact h3⟩
  ·rintro⟨i,k,h1,h2,h3⟩;exact⟨i,k,h1,h2,by rw[hB i h1 h2]at h3;exact h3⟩
theorem Sound.take{M N:Vol}(h:Sound M){d k n:Nat}(d1:1≤d)(d2:d≤32)(hk:(M.ino d).B[k]? =some 0)(n1:1≤n)(n2:n≤128)(hf:usedB M.map n=false)(hm:N.map=takeB M.map n)(hd:(N.ino d).B=(M.ino d).B.set k (n:Int))(hB:∀i,1≤i→i≤32→i≠d→(N.ino i).B=(M.ino i).B):Sound N:=by
 have hno:∀i k:Nat,1≤i→i≤32→(M.ino i).B[k]? ≠some (n:Int):=fun i k i1 i2 e=>by
  have:=(h.used n n1 n2).2 ⟨i,k,i1,i2,e⟩
  rw[hf]at this
  cases this
 have hg:∀i j m,1≤i→i≤32→(N.ino i).B[j]? =some m→(i=d∧j=k∧m=(n:Int))∨(¬(i=d∧j=k)∧(M.ino i).B[j]? =some m):=fun i j m i1 i2 e=>by
  by_cases ei:i=d
  ·subst ei;rw[hd]at e;rcases set_get e with⟨e1,e2⟩|⟨e1,e2⟩
   ·exact Or.inl ⟨rfl,e1,e2⟩
   ·exact Or.inr ⟨fun x=>e1 x.2,e2⟩
  ·rw[hB i i1 i2 ei]at e;exact Or.inr ⟨fun x=>ei x.1,e⟩
 have hl:=(List.getElem?_eq_some_iff.1 hk).1;refine⟨by rw[hm,take_length];exact h.mapl,fun i i' j j' m i1 i2 i3 i4 a b hn=> ?_,fun m m1 m2=> ?_⟩
 ·rcases hg i j m i1 i2 a with⟨a1,a2,a3⟩|⟨a1,a2⟩<;>rcases hg i' j' m i3 i4 b with⟨b1,b2,b3⟩|⟨b1,b2⟩
  ·exact⟨a1.trans b1.symm,a2.trans b2.symm⟩
  ·exact absurd (a3▸b2) (hno i' j' i3 i4)
  ·exact absurd (b3▸a2) (hno i j i1 i2)
  ·exact h.one i i' j j' m i1 i2 i3 i4 a2 b2 hn
 ·rw[hm,used_take h.mapl n1 n2 m1 m2,Bool.or_eq_true,decide_eq_true_iff,h.used m m1 m2];constructor
  ·rintro(rfl|⟨i,j,i1,i2,e⟩)
   ·exact⟨d,k,d1,d2,by rw[hd,List.getElem?_set_self hl]⟩
   ·by_cases ei:i=d
    ·subst ei;refine⟨i,j,i1,i2,?_⟩;have hjk:j≠k:=fun x=>by
      rw[x,hk]at e;have:=Option.some.inj e
      omega
     rw[hd,List.getElem?_set_ne (fun x=>hjk x.symm)];exact e
    ·exact⟨i,j,i1,i2,by rw[hB i i1 i2 ei];exact e⟩
  ·rintro⟨i,j,i1,i2,e⟩;rcases hg i j _ i1 i2 e with⟨_,_,e3⟩|⟨_,e2⟩
   ·exact Or.inl (by omega)
   ·exact Or.inr ⟨i,j,i1,i2,e2⟩
theorem Sound.give{M N:Vol}(h:Sound M){d k n:Nat}(d1:1≤d)(d2:d≤32)(hk:(M.ino d).B[k]? =some (n:Int))(n1:1≤n)(n2:n≤128)(hm:N.map=giveB M.map n)(hd:(N.ino d).B=(M.ino d).B.set k 0)(hB:∀i,1≤i→i≤32→i≠d→(N.ino i).B=(M.ino i).B):Sound N:=by
 have hn0:(n:Int)≠0:=by omega
 have hg:∀i j m,1≤i→i≤32→(N.ino i).B[j]? =some m→m≠0→¬(i=d∧j=k)∧(M.ino i).B[j]? =some m:=fun i j m i1 i2 e hm0=>by
  by_cases ei:i=d
  ·subst ei;rw[hd]at e;rcases set_get e with⟨e1,e2⟩|⟨e1,e2⟩
   ·exact absurd e2 hm0
   ·exact⟨fun x=>e1 x.2,e2⟩
  ·rw[hB i i1 i2 ei]at e;exact⟨fun x=>ei x.1,e⟩
 refine⟨by rw[hm,give_length];exact h.mapl,fun i i' j j' m i1 i2 i3 i4 a b hm0=> ?_,fun m m1 m2=> ?_⟩
 ·exact h.one i i' j j' m i1 i2 i3 i4 (hg i j m i1 i2 a hm0).2 (hg i' j' m i3 i4 b hm0).2 hm0
 ·rw[hm,used_give h.mapl n1 n2 m1 m2,Bool.and_eq_true,Bool.not_eq_true',decide_eq_false_iff_not,h.used m m1 m2];constructor
  ·rintro⟨hne,i,j,i1,i2,e⟩;by_cases ei:i=d
   ·subst ei;refine⟨i,j,i1,i2,?_⟩;have hjk:j≠k:=fun x=>by
     rw[x,hk]at e;have:=Option.some.inj e
     omega
    rw[hd,List.getElem?_set_ne (fun x=>hjk x.symm)];exact e
   ·exact⟨i,j,i1,i2,by rw[hB i i1 i2 ei];exact e⟩
  ·rintro⟨i,j,i1,i2,e⟩;obtain⟨e1,e2⟩:=hg i j _ i1 i2 e (by omega);refine⟨fun x=> ?_,i,j,i1,i2,e2⟩;subst x;exact e1 (h.one i d j k _ i1 i2 d1 d2 e2 hk hn0)
end Gd
namespace Gd
structure Began(M:Vol)(T:Tab)(c:Nat)(B:List Int)(m:List UInt8):Prop where
 tree:Tree M fun _=>T
 sound:Sound M
 root:M.ino 1=⟨2,1,c,B,[0,0,0,0,0,0,0,0]⟩
 files:∀i,2≤i→i≤c+1→M.ino i=jy.setO 0 1
 rest:∀i,c+2≤i→M.ino i=noIno
 map:M.map=m
theorem began_fresh(S:List UInt8):Began (freshV S) noTab 0 [0,0,0,0] (List.replicate 16 0):=
 ⟨fresh_tree S,fresh_sound S,rfl,fun i h1 h2=>by omega,fun i h=>by
  show(if i=1 then rootI else noIno)=noIno
  rw[if_neg (by omega)],rfl⟩
def rootN(c:Nat)(B:List Int):Ino:=⟨2,1,(c:Int)+1,B,[0,0,0,0,0,0,0,0]⟩
theorem began_step{M N:Vol}{T:Tab}{c:Nat}{B B2:List Int}{m m2:List UInt8}(h:Began M T c B m)(hc:c+2≤32){j n:Nat}{e:Ent}(hj:j<16)(he:e.May)(hne:e≠noEnt)(hi:e.i=c+2)(n1:1≤n)(n2:n≤128)
 (hino:∀i,N.ino i=if i=1 then rootN c B2 else if i=c+2 then jy.setO 0 1 else M.ino i)(hB2:B2=B.set (j/4) (n:Int))(hm:N.map=m2)(hblk:∀q,N.blk q=if q=n then blkT (setT T j e) (j/4)else M.blk q)(hfree:∀k q:Nat,k≠j/4→B[k]? =some (q:Int)→q≠0→q≠n)(hs:Sound N):
 Began N (setT T j e) (c+1) B2 m2:=by
 have hr:N.ino 1=rootN c B2:=by rw[hino 1,if_pos rfl]
 have hf:N.ino (c+2)=jy.setO 0 1:=by rw[hino (c+2),if_neg (by omega),if_pos rfl]
 have ho:∀i,i≠1→i≠c+2→N.ino i=M.ino i:=fun i h1 h2=>by rw[hino i,if_neg h1,if_neg h2]
 have hD1:=h.tree.dir 1 (by omega) (by omega) h.tree.root;have hroot:(M.ino 1).B=B:=by rw[h.root]
 have hD:DirOf N 1 (setT T j e):=hD1.put he hj (by rw[hr];rfl) (by rw[hr,hroot];exact hB2) n1 n2 (by rw[hblk n,if_pos rfl]) (fun q hq=>by rw[hblk q,if_neg hq]) (fun k q hk hq=>hfree k q hk (by rw[hroot]at hq;exact hq));have hk2:∀d,1≤d→(N.ino d).k=2→d=1:=fun d h1 hk=>by
  by_cases e1:d=1
  ·exact e1
  ·by_cases e2:d=c+2
   ·rw[e2,hf]at hk;exact absurd hk (by decide)
   ·rw[ho d e1 e2]at hk;by_cases e3:d≤c+1
    ·rw[h.files d (by omega) e3]at hk;exact absurd hk (by decide)
    ·rw[h.rest d (by omega)]at hk;exact absurd hk (by decide)
 refine⟨⟨by rw[hr];rfl,fun d h1 h2 hk=> ?_,fun d h1 h2 hk x hx hxn=> ?_⟩,hs,hr.trans (by unfold rootN;congr 1),fun i h1 h2=> ?_,fun i h1=> ?_,hm⟩
 ·obtain rfl:=hk2 d h1 hk
  exact hD
 ·have hx':x=e∨x∈T:=by
   rcases List.mem_or_eq_of_mem_set hx with a|a
   ·exact Or.inr a
   ·exact Or.inl a
  rcases hx' with rfl|hx
  ·rw[hi,hf];decide
  ·have hk0:=h.tree.ent 1 (by omega) (by omega) h.tree.root x hx hxn;by_cases e1:x.i=1
   ·rw[e1,hr];show(2:Int)≠0
    decide
   ·by_cases e2:x.i=c+2
    ·rw[e2,hf];decide
    ·rw[ho _ e1 e2];exact hk0
 ·by_cases e2:i=c+2
  ·rw[e2,hf]
  ·rw[ho i (by omega) e2];exact h.files i h1 (by omega)
 ·rw[ho i (by omega) (by omega)];exact h.rest i (by omega)
theorem began_new{M:Vol}{T:Tab}{c:Nat}{B:List Int}{m:List UInt8}(h:Began M T c B m)(hc:c+2≤32){j:Nat}{e:Ent}(hj:j<16)(he:e.May)(hne:e≠noEnt)(hi:e.i=c+2)(hB:B[j/4]? =some 0)(hfs:countB m<128):
 Began (((M.setIno (c+2) (jy.setO 0 1)).take.setBlk (firstB m) (blkT (setT T j e) (j/4))).setIno 1 (rootN c (B.set (j/4) (firstB m:Int)))) (setT T j e) (c+1) (B.set (j/4) (firstB m:Int)) (takeB m (firstB m)):=by
 have hml:m.length=16:=by rw[←h.map];exact h.sound.mapl
 obtain⟨n1,n2,hu⟩:=first_some hml hfs;have hroot:(M.ino 1).B=B:=by rw[h.root]
 have hmp:((M.setIno (c+2) (jy.setO 0 1)).take).map=takeB m (firstB m):=by
  show takeB M.map (firstB M.map)=_
  rw[h.map]
 have hino:∀i,(((M.setIno (c+2) (jy.setO 0 1)).take.setBlk (firstB m) (blkT (setT T j e) (j/4))).setIno 1 (rootN c (B.set (j/4) (firstB m:Int)))).ino i=if i=1 then rootN c (B.set (j/4) (firstB m:Int))else if i=c+2 then jy.setO 0 1 else M.ino i:=fun i=>rfl
 refine began_step h hc hj he hne hi n1 n2 hino rfl hmp (fun q=> ?_) (fun k q hk hq h0 hqn=> ?_) ?_
 ·show(if q=firstB m then _ else if q=firstB M.map then _ else M.blk q)=_
  by_cases e1:q=firstB m
  ·rw[if_pos e1,if_pos e1]
  ·rw[if_neg e1,if_neg e1,if_neg (by rw[h.map];exact e1)]
 ·have:=(h.sound.used (firstB m) n1 n2).2 ⟨1,k,by omega,by omega,by rw[hroot,hq,hqn]⟩
  rw[h.map,hu]at this
  cases this
 ·refine h.sound.take (d:=1) (k:=j/4) (n:=firstB m) (by omega) (by omega) (by rw[hroot];exact hB) n1 n2 (by rw[h.map];exact hu) (by rw[h.map];exact hmp) (by rw[hino 1,if_pos rfl,hroot];rfl) fun i i1 i2 hi1=> ?_;rw[hino i,if_neg hi1];by_cases e2:i=c+2
  ·rw[if_pos e2,e2,h.rest (c+2) (Nat.le_refl _)];rfl
  ·rw[if_neg e2]
theorem began_over{M:Vol}{T:Tab}{c:Nat}{B:List Int}{m:List UInt8}(h:Began M T c B m)(hc:c+2≤32){j n:Nat}{e:Ent}(hj:j<16)(he:e.May)(hne:e≠noEnt)(hi:e.i=c+2)(hB:B[j/4]? =some (n:Int))(n1:1≤n)(n2:n≤128):
 Began (((M.setIno (c+2) (jy.setO 0 1)).setBlk n (blkT (setT T j e) (j/4))).setIno 1 (rootN c B)) (setT T j e) (c+1) B m:=by
 have hroot:(M.ino 1).B=B:=by rw[h.root]
 have hl:=(List.getElem?_eq_some_iff.1 hB);have hset:B=B.set (j/4) (n:Int):=by
  obtain⟨h1,h2⟩:=hl;rw[←h2,List.set_getElem_self]
 have hino:∀i,(((M.setIno (c+2) (jy.setO 0 1)).setBlk n (blkT (setT T j e) (j/4))).setIno 1 (rootN c B)).ino i=if i=1 then rootN c B else if i=c+2 then jy.setO 0 1 else M.ino i:=fun i=>rfl
 refine began_step h hc hj he hne hi n1 n2 hino hset h.map (fun q=>rfl) (fun k q hk hq h0 hqn=> ?_) ?_
 ·have:=(h.sound.one 1 1 k (j/4) (n:Int) (by omega) (by omega) (by omega) (by omega) (by rw[hroot,hq,hqn]) (by rw[hroot];exact hB) (by omega)).2
  exact hk this
 ·refine h.sound.same rfl fun i i1 i2=> ?_;rw[hino i];by_cases e1:i=1
  ·rw[if_pos e1,e1,hroot];rfl
  ·rw[if_neg e1];by_cases e2:i=c+2
   ·rw[if_pos e2,e2,h.rest (c+2) (Nat.le_refl _)];rfl
   ·rw[if_neg e2]
end Gd
section
open Go.Shelf
theorem Gd.DirOf.same{M N:Gd.Vol}{d:Nat}{T:Gd.Tab}(h:Gd.DirOf M d T)(hi:N.ino d=M.ino d)(hb:N.blk=M.blk):Gd.DirOf N d T:=
 ⟨h.lo,h.hi,by rw[hi];exact h.kind,h.ok,fun k hk=>by rw[hi,hb];exact h.blk k hk⟩
theorem VS[zc]{x t cc dd K c:Nat}{S:List UInt8}{M N:Gd.Vol}{T:Gd.Tab}{B:List Int}{m:List UInt8}{F:Nat→Prop}(nm:List UInt8)(j:Fin 16)(mx:Int)(w:World)(h:zC x t S M cc K w F)(hBg:Gd.Began M T c B m)(hc:c+2≤32)(hcc:cc<64)
 (hmx:w.cell? ⟨0,0,none⟩=some (.int .i64 mx))(hml:0<w.heap.size)
 (hn:Np.nameB nm=true)(hp:Np.pathL (47::nm)=some [nm])(hf:Gd.findT T nm (Gd.hN nm)=none)(hj:Gd.placeT T (Gd.hN nm)=some j)
 (hC:∀W F1,zC x t S (M.setIno (c+2) (jy.setO 0 1)) (cc+1) K W F1→Calls prog 171 #[.pointer (some ⟨x,0,none⟩),.int .i64 1,.int .i64 (j.val:Nat),jz (Gd.setT T j.val ⟨nm,c+2⟩),.int .i64 1,.int .i64 0] W fun e w'=>e= .returned (.int .i64 0)∧zV x t S N dd K F1 W w'):
 Calls prog 50 #[.pointer (some ⟨x,0,none⟩),.int .i64 1,.string ⟨(47::nm).toArray⟩,.int .i64 1,.bool false,.int .i64 0] w fun e w'=>e= .returned (.tuple #[.int .i64 ((c+2:Nat):Int),.int .i64 0])∧zV x t S N dd K F w w':=by
 have hln:nm.length≤12:=Xg hn;have hk2:(M.ino 1).k=2:=hBg.tree.root;have hsz:(⟨(47::nm).toArray⟩:ByteArray).size≤100000:=by rw[Lib.size_eq];show nm.length+1≤_;omega
 have hD:Gd.DirOf (M.setIno (c+2) (jy.setO 0 1)) 1 T:=(hBg.tree.dir 1 (by omega) (by omega) hk2).same (by
  show(if 1=c+2 then jy.setO 0 1 else M.ino 1)=M.ino 1
  exact if_neg (by omega)) rfl
 have hwk:Gd.walkT M (fun _=>T) [nm] 1=(0,10):=by
  unfold Gd.walkT;rw[if_pos hk2,hf]
 have hpl:Gd.placeP M (fun _=>T) [] nm=(1,nm,0):=by
  unfold Gd.placeP;show(if(0:Nat)≠0 then((0:Nat),([]:List UInt8),(0:Nat))else if(M.ino 1).k=2 then(1,nm,0)else(0,[],12))=(1,nm,0)
  rw[if_neg (by omega),if_pos hk2]
 refine Yl (x:=x) 1 ⟨(47::nm).toArray⟩ ⟨nm.toArray⟩ 0 1 (c+2) 0 w (fun w'=>zV x t S N dd K F w w') (by omega) (by omega) (fun W hW=> ?_) (fun W hW=> ?_) (fun W hW=> ?_)
 ·have:=Xh ⟨(47::nm).toArray⟩ [nm] mx W (h.below hW) hBg.tree hsz ((hW.cell (p:=⟨0,0,none⟩) hml).trans hmx) hp
  rw[hwk]at this;exact this
 ·have:=JU ⟨(47::nm).toArray⟩ [] nm mx W (h.below hW) hBg.tree hsz ((hW.cell (p:=⟨0,0,none⟩) hml).trans hmx) hp
  rw[hpl]at this;exact this
 ·refine(Vo (M2:=N) (c2:=dd) ⟨nm.toArray⟩ (c+2) (jy.setO 0 1) 0 W (h.below hW) (Gd.Ino.setO_shape qF 0 1) (by decide) (by omega) hc (by rw[hBg.rest (c+2) (Nat.le_refl _)];rfl) (fun i i1 i2=> ?_) hcc (fun W1 F1 h1=> ?_)).mono ?_
  ·by_cases e:i=1
   ·rw[e,hk2];decide
   ·rw[hBg.files i (by omega) (by omega)];decide
  ·exact V7 nm (c+2) 0 0 j W1 (fun w'=>zV x t S N dd K F1 W1 w') h1 hD (by omega) hj fun W2 hW2=>(hC W2 F1 (h1.below hW2)).mono fun e w' ⟨he,ht⟩=>⟨he,ht.behind hW2⟩
  ·rintro e w' ⟨he,ht⟩;exact⟨he,ht.behind hW⟩
end
section
open Go.Shelf
theorem vC{nm:List UInt8}{i:Nat}(hn:Np.nameB nm=true)(h1:1≤i)(h2:i≤32):(⟨nm,i⟩:Gd.Ent).May:=Or.inr ⟨hn,h1,h2⟩
theorem vB{nm:List UInt8}{i:Nat}(h1:1≤i):(⟨nm,i⟩:Gd.Ent)≠Gd.noEnt:=fun e=>by
 have:i=0:=congrArg Gd.Ent.i e
 omega
theorem Ze[zc]{x t cc K c:Nat}{S:List UInt8}{M:Gd.Vol}{T:Gd.Tab}{B:List Int}{m:List UInt8}{F:Nat→Prop}(nm:List UInt8)(j:Fin 16)(mx:Int)(w:World)(h:zC x t S M cc K w F)(hBg:Gd.Began M T c B m)(hc:c+1≤16)(hcc:cc+12<64)
 (hmx:w.cell? ⟨0,0,none⟩=some (.int .i64 mx))(hml:0<w.heap.size)
 (hn:Np.nameB nm=true)(hp:Np.pathL (47::nm)=some [nm])(hf:Gd.findT T nm (Gd.hN nm)=none)(hj:Gd.placeT T (Gd.hN nm)=some j)
 (hB:B[j.val/4]? =some 0)(hfs:Gd.countB m<128)(hmay:Gd.mayI (Gd.rootN c (B.set (j.val/4) (Gd.firstB m:Int)))=true):
 ∃N,(Gd.Began N (Gd.setT T j.val ⟨nm,c+2⟩) (c+1) (B.set (j.val/4) (Gd.firstB m:Int)) (Gd.takeB m (Gd.firstB m))∧N.head=M.head∧N.logs=M.logs)∧Calls prog 50 #[.pointer (some ⟨x,0,none⟩),.int .i64 1,.string ⟨(47::nm).toArray⟩,.int .i64 1,.bool false,.int .i64 0] w fun e w'=>e= .returned (.tuple #[.int .i64 ((c+2:Nat):Int),.int .i64 0])∧zV x t S N (cc+5) K F w w':=by
 have hOk:=(hBg.tree.dir 1 (by omega) (by omega) hBg.tree.root).ok;have hr:((M.setIno (c+2) (jy.setO 0 1)).ino 1)=⟨2,1,c,B,[0,0,0,0,0,0,0,0]⟩:=by
  show(if 1=c+2 then jy.setO 0 1 else M.ino 1)=_
  rw[if_neg (by omega)];exact hBg.root
 have hm:(M.setIno (c+2) (jy.setO 0 1)).map=m:=hBg.map;have hy:((((M.setIno (c+2) (jy.setO 0 1)).ino 1).setB (j.val/4) (Gd.firstB (M.setIno (c+2) (jy.setO 0 1)).map)).setS (((M.setIno (c+2) (jy.setO 0 1)).ino 1).s+1))=Gd.rootN c (B.set (j.val/4) (Gd.firstB m:Int)):=by
  rw[hr,hm];rfl
 refine⟨_,⟨Gd.began_new hBg (by omega) j.isLt (vC hn (by omega) (by omega)) (vB (by omega)) rfl hB hfs,rfl,rfl⟩,?_⟩;refine VS (dd:=cc+5) nm j mx w h hBg (by omega) (by omega) hmx hml hn hp hf hj fun W F1 h1=> ?_;have:=Qa (a:=j.val) (d:=1) (Gd.setT T j.val ⟨nm,c+2⟩) 1 0 W h1 (by omega) (by omega) j.isLt (hOk.set (vC hn (by omega) (by omega))) (Gd.usedT_set hOk.len j.isLt (vB (by omega))) (by rw[hr];exact hB) (by rw[hm];omega) (by rw[hy];exact hmay) (by rw[hr];show 0≤(c:Int)+1∧(c:Int)+1≤16;omega) (by omega)
 rw[hy,hm]at this;exact this
theorem uy[zc]{x t cc K c:Nat}{S:List UInt8}{M:Gd.Vol}{T:Gd.Tab}{B:List Int}{m:List UInt8}{F:Nat→Prop}(nm:List UInt8)(j:Fin 16)(n:Nat)(mx:Int)(w:World)(h:zC x t S M cc K w F)(hBg:Gd.Began M T c B m)(hc:c+1≤16)(hcc:cc+12<64)
 (hmx:w.cell? ⟨0,0,none⟩=some (.int .i64 mx))(hml:0<w.heap.size)
 (hn:Np.nameB nm=true)(hp:Np.pathL (47::nm)=some [nm])(hf:Gd.findT T nm (Gd.hN nm)=none)(hj:Gd.placeT T (Gd.hN nm)=some j)
 (hB:B[j.val/4]? =some (n:Int))(n1:1≤n)(n2:n≤128)(hmay:Gd.mayI (Gd.rootN c B)=true):
 ∃N,(Gd.Began N (Gd.setT T j.val ⟨nm,c+2⟩) (c+1) B m∧N.head=M.head∧N.logs=M.logs)∧Calls prog 50 #[.pointer (some ⟨x,0,none⟩),.int .i64 1,.string ⟨(47::nm).toArray⟩,.int .i64 1,.bool false,.int .i64 0] w fun e w'=>e= .returned (.tuple #[.int .i64 ((c+2:Nat):Int),.int .i64 0])∧zV x t S N (cc+3) K F w w':=by
 have hOk:=(hBg.tree.dir 1 (by omega) (by omega) hBg.tree.root).ok;have hr:((M.setIno (c+2) (jy.setO 0 1)).ino 1)=⟨2,1,c,B,[0,0,0,0,0,0,0,0]⟩:=by
  show(if 1=c+2 then jy.setO 0 1 else M.ino 1)=_
  rw[if_neg (by omega)];exact hBg.root
 have hy:(((M.setIno (c+2) (jy.setO 0 1)).ino 1).setS (((M.setIno (c+2) (jy.setO 0 1)).ino 1).s+1))=Gd.rootN c B:=by
  rw[hr];rfl
 refine⟨_,⟨Gd.began_over hBg (by omega) j.isLt (vC hn (by omega) (by omega)) (vB (by omega)) rfl hB n1 n2,rfl,rfl⟩,?_⟩;refine VS (dd:=cc+3) nm j mx w h hBg (by omega) (by omega) hmx hml hn hp hf hj fun W F1 h1=> ?_;have:=Jz (a:=j.val) (d:=1) n (Gd.setT T j.val ⟨nm,c+2⟩) 1 0 W h1 (by omega) (by omega) j.isLt (hOk.set (vC hn (by omega) (by omega))) (Gd.usedT_set hOk.len j.isLt (vB (by omega))) (by rw[hr];exact hB) n1 n2 (by rw[hy];exact hmay) (by rw[hr];show 0≤(c:Int)+1∧(c:Int)+1≤16;omega) (by omega)
 rw[hy]at this;exact this
namespace Gd
def tabA:Tab:=setT noTab 14 ⟨[97],2⟩
def tabB:Tab:=setT tabA 15 ⟨[98],3⟩
def tabC4:Tab:=setT tabB 0 ⟨[99],4⟩
def tabD:Tab:=setT tabC4 1 ⟨[100],5⟩
theorem hash4:hN [97]=14∧hN [98]=14∧hN [99]=14∧hN [100]=14:=by decide+kernel
theorem placeA:findT noTab [97] 14=none∧placeT noTab 14=some 14:=by decide+kernel
theorem placeB:findT tabA [98] 14=none∧placeT tabA 14=some 15:=by decide+kernel
theorem placeC:findT tabB [99] 14=none∧placeT tabB 14=some 0:=by decide+kernel
theorem placeD:findT tabC4 [100] 14=none∧placeT tabC4 14=some 1:=by decide+kernel
def map0:List UInt8:=List.replicate 16 0
def map1:List UInt8:=takeB map0 1
def map2:List UInt8:=takeB map1 2
theorem first0:firstB map0=1∧countB map0=0:=by decide+kernel
theorem first1:firstB map1=2∧countB map1=1:=by decide+kernel
theorem count2:countB map2=2:=by decide+kernel
theorem may4:mayI (rootN 0 [0,0,0,1])=true∧mayI (rootN 1 [0,0,0,1])=true∧mayI (rootN 2 [2,0,0,1])=true∧mayI (rootN 3 [2,0,0,1])=true:=by decide+kernel
theorem names4:Np.nameB [97]=true∧Np.nameB [98]=true∧Np.nameB [99]=true∧Np.nameB [100]=true:=by decide+kernel
theorem paths4:Np.pathL [47,97]=some [[97]]∧Np.pathL [47,98]=some [[98]]∧Np.pathL [47,99]=some [[99]]∧Np.pathL [47,100]=some [[100]]:=by decide+kernel
end Gd
end
theorem zC.good[zc]{x t K:Nat}{S:List UInt8}{M:Gd.Vol}{w:World}{F:Nat→Prop}(h:zC x t S M 0 K w F):Gd.Good S M:=by
 obtain⟨P,h1,h2⟩:=h;have:P=[]:=List.eq_nil_of_length_eq_zero (Nat.le_zero.1 h1.light.many)
 subst this;exact h2
theorem Vn[zc]{x t c K:Nat}{S:List UInt8}{M:Gd.Vol}{F:Nat→Prop}(w:World)(h:zC x t S M c K w F)(hc:c≤57)(hK:K<600000000000):
 Calls prog 49 #[.pointer (some ⟨t,0,none⟩)] w fun e w'=>e= .returned (.int .i64 0)∧∃S',zV x t S' M 0 (K+2000000) F w w':=by
 obtain⟨P,h,hG⟩:=h;refine(ur w h.txn ⟨Nat.le_trans h.light.many hc,h.light.len⟩ h.len h.log hK).mono ?_
 rintro e w' ⟨rfl,⟨S',hl,he,hs,hT⟩,hO⟩;refine⟨rfl,S',F,⟨[],⟨hT,(hO.block x (za h.obj) fun e=>e.2 rfl).trans h.obj,h.inF,hl,he,⟨Nat.le_refl 0,fun _ hp=>by cases hp⟩,fun k hk=>Nat.lt_of_lt_of_le (h.tight k hk) hO.size⟩,?_⟩,fun _ _ e=>e,hO.mono fun _ _ e=>e.1⟩;exact hG.same (by rw[h.view_len];exact hl) hs
theorem UA[zc]{x t c K:Nat}{S:List UInt8}{M M0:Gd.Vol}{F:Nat→Prop}(w:World)(h:zC x t S M c K w F)(hG:Gd.Good S M0):
 Calls prog 31 #[.pointer (some ⟨t,0,none⟩)] w fun e w'=>e= .returned (.tuple #[])∧zV x t S M0 0 K F w w':=by
 obtain⟨P,h,_⟩:=h;refine(yR w h.txn).mono ?_
 rintro e w' ⟨rfl,hT,hO⟩;exact⟨rfl,F,⟨[],⟨hT,(hO.block x (za h.obj) fun e=>e.2 rfl).trans h.obj,h.inF,h.len,h.log,⟨Nat.le_refl 0,fun _ hp=>by cases hp⟩,fun k hk=>Nat.lt_of_lt_of_le (h.tight k hk) hO.size⟩,hG⟩,fun _ _ e=>e,hO.mono fun _ _ e=>e.1⟩
def Mx(w:World):Prop:=∃m:Int,w.cell? ⟨0,0,none⟩=some (.int .i64 m)
theorem Yq{w:World}{m:Int}(hm:w.cell? ⟨0,0,none⟩=some (.int .i64 m)):0<w.heap.size:=by
 unfold World.cell? at hm
 cases hh:w.heap[0]? with
 |none=>rw[show(⟨0,0,none⟩:Addr).block=0 from rfl,hh]at hm;cases hm
 |some o=>exact(Array.getElem?_eq_some_iff.1 hh).1
theorem Mx.under{w b:World}(h:Mx w)(hb:Below w.heap.size w b):Mx b:=by
 obtain⟨mx,hmx⟩:=h;exact⟨mx,(hb.cell (p:=⟨0,0,none⟩) (Yq hmx)).trans hmx⟩
section
open Go.Shelf
def Nof(_:Nat):Prop:=False
theorem Tl.belowW[zc]{x t c K:Nat}{S:List UInt8}{M:Gd.Vol}{w a:World}{Ls:List (Nat×Obj)}(h:Tl x t S M c K Nof w a Ls):Below w.heap.size w a:=by
 obtain⟨F',h1,_⟩:=h;exact h1.only.below (Nat.le_refl _) fun _ _ e=>e
theorem Tl.next2[zc]{x t c d K K2:Nat}{S S2:List UInt8}{M N:Gd.Vol}{F F1:Nat→Prop}{w a b:World}{Ls:List (Nat×Obj)}(h1:je (zC x t S M c K) F w F1 a)(h2:∀p∈Ls,w.heap.size≤p.1∧¬F1 p.1∧a.heap[p.1]? =some p.2)(ht:zV x t S2 N d K2 F1 a b):Tl x t S2 N d K2 F w b Ls:=by
 obtain⟨F2,s⟩:=ht;refine⟨F2,h1.trans s,fun p hp=> ?_⟩;obtain⟨q1,q2,q3⟩:=h2 p hp;obtain⟨o1,o2⟩:=s.own (za q3) q2;exact⟨q1,o2,o1.trans q3⟩
theorem Tl.commit[zc]{x t c K:Nat}{S:List UInt8}{M:Gd.Vol}{F:Nat→Prop}{w a:World}{Ls:List (Nat×Obj)}(h:Tl x t S M c K F w a Ls)(hc:c≤57)(hK:K<600000000000):
 Calls prog 49 #[.pointer (some ⟨t,0,none⟩)] a fun e b=>e= .returned (.int .i64 0)∧∃S',Tl x t S' M 0 (K+2000000) F w b Ls:=by
 obtain⟨F1,h1,h2⟩:=h;refine(Vn a h1.inv hc hK).mono ?_
 rintro e b ⟨rfl,S',ht⟩;exact⟨rfl,S',Tl.next2 h1 h2 ht⟩
theorem Tl.drop[zc]{x t c K:Nat}{S:List UInt8}{M M0:Gd.Vol}{F:Nat→Prop}{w a:World}{Ls:List (Nat×Obj)}(h:Tl x t S M c K F w a Ls)(hG:Gd.Good S M0):
 Calls prog 31 #[.pointer (some ⟨t,0,none⟩)] a fun e b=>e= .returned (.tuple #[])∧Tl x t S M0 0 K F w b Ls:=by
 obtain⟨F1,h1,h2⟩:=h;refine(UA a h1.inv hG).mono ?_
 rintro e b ⟨rfl,ht⟩;exact⟨rfl,Tl.next2 h1 h2 ht⟩
theorem Tl.good[zc]{x t K:Nat}{S:List UInt8}{M:Gd.Vol}{F:Nat→Prop}{w a:World}{Ls:List (Nat×Obj)}(h:Tl x t S M 0 K F w a Ls):Gd.Good S M:=by
 obtain⟨F1,h1,_⟩:=h;exact h1.inv.good
theorem Tl.less[zc]{x t c K:Nat}{S:List UInt8}{M:Gd.Vol}{F:Nat→Prop}{w a:World}{Ls Ls':List (Nat×Obj)}(h:Tl x t S M c K F w a Ls)(hL:∀p∈Ls',p∈Ls):Tl x t S M c K F w a Ls':=by
 obtain⟨F1,h1,h2⟩:=h;exact⟨F1,h1,fun p hp=>h2 p (hL p hp)⟩
section
variable {x t c K f:Nat} {S:List UInt8} {M:Gd.Vol} {F:Nat→Prop} {w a:World} {Ls:List (Nat×Obj)} {s:Nat→List UInt8}
end
end
section
open Go.Shelf
attribute [local go_sem] Oper.semAt_some
end
section
open Go.Shelf
attribute [local go_sem] Oper.semAt_some
def uB(w:World)(A:Option Addr)(L:List UInt8):Prop:=L=[]∨∃b o,A=some ⟨b,o,none⟩∧b<w.heap.size∧∀(j:Nat) (x:UInt8),L[j]? =some x→w.cell? ⟨b,o+j,none⟩=some (.int .u8 x.toNat)
theorem uB.keep{w w':World}{A:Option Addr}{L:List UInt8}(h:uB w A L)(hb:Below w.heap.size w w'):uB w' A L:=by
 rcases h with h|⟨b,o,h1,h2,h3⟩
 ·exact Or.inl h
 ·exact Or.inr ⟨b,o,h1,Nat.lt_of_lt_of_le h2 hb.size,fun j x hx=>(hb.cell (p:=⟨b,o+j,none⟩) h2).trans (h3 j x hx)⟩
theorem uB.take{w:World}{A:Option Addr}{L:List UInt8}(h:uB w A L)(n:Nat):uB w A (L.take n):=by
 rcases h with h|⟨b,o,h1,h2,h3⟩
 ·exact Or.inl (by rw[h];exact List.take_nil)
 ·refine Or.inr ⟨b,o,h1,h2,fun j x hx=>h3 j x ?_⟩;rw[List.getElem?_take]at hx;split at hx
  ·exact hx
  ·cases hx
theorem Jd{m sb lb ab n K:Nat}{S:List UInt8}{X:Nat→Prop}(a:Nat)(A:Option Addr)(c:Nat)(w:World)(h:zZ w m sb lb ab n S K X)(ha:a≤S.length):
 Calls prog 25 #[.pointer (some ⟨m,0,none⟩),.int .i64 a,.slice A 0 c] w fun e w'=>e= .returned (.int .i64 0)∧w'=w:=by
 have hl:=h.len;have hs:=h.small;have HW:=hid (j6 (a:Int) 0 (zu (by omega)) (zu (n:=0) (by omega)) w h);have hwb:(decide (0≤(a:Int))&&(decide (0≤(0:Int))&&decide ((a:Int)+0≤S.length)))=true:=by simp;omega
 rw[hwb]at HW;clear h hwb hl hs;go_enter func25,ntmps25;go_upto_region 4 with(go_at_call 68;refine HW.o.mono ?_;rintro e w2 ⟨rfl,rfl⟩)
 go_loopw[18] (fun z wr=>z= .int .i64 0∧wr=w2) (fun _ _=>0)
 case atStart=>exact⟨rfl,rfl⟩
 case round=>
  obtain⟨rfl,rfl⟩:=hrel;go_wp2;go_ret
  exact⟨rfl,rfl⟩
end
section
open Go.Shelf
attribute [local go_sem] Oper.semAt_some
theorem xj{L:List UInt8}{at_ k:Nat}(h:Gd.getB L at_ k=true):at_+k≤L.length∧Gd.get L at_ k=(Gd.getN L at_ k:Int)∧Gd.getN L at_ k<256^k:=by
 have h1:=h;unfold Gd.getB at h1;simp only[Bool.and_eq_true,decide_eq_true_eq]at h1;refine⟨by omega,?_,?_⟩
 ·unfold Gd.get;rw[if_pos h,Int.toNat_natCast]
 ·have h2:=Gd.unle_lt ((L.drop at_).take k);refine Nat.lt_of_lt_of_le h2 (Nat.pow_le_pow_right (by omega) ?_);rw[List.length_take];exact Nat.min_le_left _ _
theorem YF(L:List UInt8)(at_ k:Nat):0≤Gd.get L at_ k∧Gd.get L at_ k<9223372036854775808:=by
 unfold Gd.get;split
 ·rename_i h
  unfold Gd.getB at h;simp only[Bool.and_eq_true,decide_eq_true_eq]at h;omega
 ·omega
structure yO(w0:World)(v:Value)(at_:Nat)(sh:Bool)(w:World):Prop where
 below:Below w0.heap.size w0 w
 c1:zd w w0.heap.size 22 #[v]
 c2:zd w (w0.heap.size+1) 3 #[.int .i64 at_]
 c3:zd w (w0.heap.size+1+1) 4 #[.bool sh]
theorem yO.read{w0 w w':World}{v:Value}{at_:Nat}{sh:Bool}(h:yO w0 v at_ sh w)(hb:Below w.heap.size w w'):yO w0 v at_ sh w':=
 ⟨h.below.trans (hb.mono h.below.size),(hb.block _ h.c1.lt).trans h.c1,(hb.block _ h.c2.lt).trans h.c2,(hb.block _ h.c3.lt).trans h.c3⟩
theorem yO.apart{w0 w w':World}{v:Value}{at_:Nat}{sh:Bool}{F:Nat→Prop}(h:yO w0 v at_ sh w)(hO:zi F w w')(hs:w0.heap.size≤w.heap.size)(hF:∀k,k<w0.heap.size+3→¬F k):yO w0 v at_ sh w':=
 ⟨h.below.trans (hO.below hs fun k hk=>hF k (by omega)),(hO.block _ h.c1.lt (hF _ (by omega))).trans h.c1,(hO.block _ h.c2.lt (hF _ (by omega))).trans h.c2,(hO.block _ h.c3.lt (hF _ (by omega))).trans h.c3⟩
theorem Yo{w0:World}{v:Value}{at_:Nat}{sh:Bool}(L:List UInt8)(hv:zr w0 v L)(k:Nat)(hk:Gd.wid k)(w:World)(h:yO w0 v at_ sh w)(hl:L.length≤1000000)(hat:at_≤1000000):
 Calls prog 159 #[.int .i64 k,.pointer (some ⟨w0.heap.size,0,none⟩),.pointer (some ⟨w0.heap.size+1,0,none⟩),.pointer (some ⟨w0.heap.size+1+1,0,none⟩)] w fun e w'=>e= .returned (.int .i64 (Gd.get L at_ k))∧yO w0 v (at_+k) (sh|| !(Gd.getB L at_ k)) w'∧zi (XM w0) w w':=by
 have hvw:=hv.keep h.below;have HGt:=hid (jp v L at_ k hk (zu (by omega)) w hvw hl);obtain⟨N,hN⟩:=nm (Gd.get L at_ k);obtain⟨g,hg⟩:=nm (Gd.getB L at_ k);rw[←hN,←hg]at HGt;rw[←hN,←hg];obtain⟨n0,hn0⟩:=nm w0.heap.size;have H:=hid h;have x1:=cell_of_row w _ 0 _ _ _ h.c1;have x2:=cell_of_row w _ 0 _ _ _ h.c2;have x3:=cell_of_row w _ 0 _ _ _ h.c3;have y2:=frozen_of_row w _ 0 _ _ h.c2;have y3:=frozen_of_row w _ 0 _ _ h.c3;rw[←hn0]at x1 x2 x3 y2 y3⊢;have Hn0:=hid hn0;have hk8:(k:Int)≤8:=by rcases hk with rfl|rfl|rfl|rfl<;>omega
 have ha:(at_:Int)≤1000000:=by omega
 clear hvw hN hg hn0 h hat;have hfin:Hid (∀b:Bool,yO w0 v (at_+k) b ((w.setCell ⟨n0+1+1,0,none⟩ (.bool b)).setCell ⟨n0+1,0,none⟩ (.int .i64 ((at_:Int)+k)))∧zi (XM w0) w ((w.setCell ⟨n0+1+1,0,none⟩ (.bool b)).setCell ⟨n0+1,0,none⟩ (.int .i64 ((at_:Int)+k)))):=hid fun b=>by
  have e0:=Hn0.o;subst e0;have hc:((at_:Int)+k)=((at_+k:Nat):Int):=by omega
  rw[hc];refine⟨⟨(H.o.below.setCell (show w0.heap.size≤w0.heap.size+1+1 by omega) _).setCell (show w0.heap.size≤w0.heap.size+1 by omega) _,?_,?_,?_⟩,?_⟩
  ·exact(Go.heap_setCell_other _ _ _ _ (by simp)).trans ((Go.heap_setCell_other _ _ _ _ (by simp;omega)).trans H.o.c1)
  ·exact Go.heap_setCell_same _ _ 0 _ _ _ ((Go.heap_setCell_other _ _ _ _ (by simp)).trans H.o.c2)
  ·exact(Go.heap_setCell_other _ _ _ _ (by simp)).trans (Go.heap_setCell_same _ _ 0 _ _ _ H.o.c3)
  ·exact(zq _ _ _ (Or.inr rfl)).trans (zq _ _ _ (F:=XM w0) (Or.inl rfl)) fun _ _ e=>e
 cases sh
 case' false=>cases g
 all_goals
  go_enter func159,ntmps159;go_wp2_with fail
  refine HGt.o.mono ?_;rintro e w1 ⟨rfl,rfl⟩;clear HGt;go_wp2;go_ret
  exact⟨rfl,hfin.o _⟩
end
end Go.Proofs.YtccpdkjonepoiaaGreatDoor
