/- Each call, in the volume and in the document, in plain words. -/
import Derived.Test.YtjlpkbhgphjpeaaGreatDoorV23
set_option linter.unusedVariables false
set_option linter.unusedSimpArgs false
set_option linter.unusedSectionVars false
set_option maxHeartbeats 8000000
set_option maxRecDepth 100000
namespace Go.Proofs.YtjlpkbhgphjpeaaGreatDoor
open Go.RowKit
open Lib(hid)
open Go.Proofs.Tryz
section
namespace Gd
def keepV(M:Vol)(i:Nat)(y:Ino):Vol:=if 0<y.l∨0<y.O.sum then M.setIno i y else(M.setMap (y.B.foldl giveI M.map)).setIno i noIno
theorem giveI_zero(m:List UInt8):giveI m 0=m:=by
 unfold giveI isBlk;rw[if_neg (by decide)]
theorem give_none{B:List Int}(h:B=[0,0,0,0])(m:List UInt8):B.foldl giveI m=m:=by
 rw[h];show giveI (giveI (giveI (giveI m 0) 0) 0) 0=m
 rw[giveI_zero,giveI_zero,giveI_zero,giveI_zero]
theorem setMap_self(M:Vol):M.setMap M.map=M:=rfl
theorem setIno_twice(M:Vol)(i:Nat)(x y:Ino):(M.setIno i x).setIno i y=M.setIno i y:=by
 unfold Vol.setIno;congr 1
 funext j
 try dsimp only
 by_cases e:j=i
 ·rw[if_pos e,if_pos e]
 ·rw[if_neg e,if_neg e,if_neg e]
theorem keepV_go{M:Vol}{i:Nat}{y:Ino}(hB:y.B=[0,0,0,0])(h:¬(0<y.l∨0<y.O.sum)):keepV M i y=M.setIno i noIno:=by
 unfold keepV;rw[if_neg h,give_none hB,setMap_self]
theorem keepV_set{M:Vol}{i:Nat}{y:Ino}(h:0<y.l∨0<y.O.sum):keepV M i y=M.setIno i y:=if_pos h
theorem sum_nonneg:∀(L:List Int),(∀n∈L,0≤n)→0≤L.sum∧(L.sum=0→∀n∈L,n=0)
 |[],_=>⟨by decide,fun _ n h=>by cases h⟩
 |a::r,h=>by
  obtain⟨h1,h2⟩:=sum_nonneg r fun n hn=>h n (List.mem_cons_of_mem _ hn);have ha:=h a (List.mem_cons_self ..);rw[List.sum_cons];refine⟨by omega,fun e n hn=> ?_⟩;rcases List.mem_cons.1 hn with rfl|hn
  ·omega
  ·exact h2 (by omega) n hn
section
variable {M N:Vol} {T:Nat→Tab} {S:Pz.Fil} {φ:Nat→Nat} {D D':Nat→Nat→Nat} {δ:Nat→Int}
theorem no_entry(hH:Hold M T){i:Nat}(i1:1≤i)(hl:lk M T i=0):∀d,1≤d→d≤32→(M.ino d).k=2→∀x,dirE (T d) x≠i:=fun d d1 d2 hk x e=>by
 have:=lk_pos hH d1 d2 hk e (by omega)
 omega
theorem file_not_root(h:Rel M T S φ){i:Nat}(hk:(M.ino i).k=1):i≠1:=fun e=>by
 rw[e,h.root.1]at hk;exact absurd hk (by decide)
theorem Rel.keep(h:Rel M T S φ){i:Nat}{y:Ino}(i1:1≤i)(i2:i≤32)(hk:(M.ino i).k=1)(hy:y.Shape)(hm:mayI y=true)(hyk:y.k=1)(hyB:y.B=[0,0,0,0])(hys:y.s=0)(hl:y.l=0→lk M T i=0)(hy0:0≤y.l):
 Rel (keepV M i y) T {S with N:=S.N.set (φ i) ⟨false,[],y.l⟩} φ:=by
 have h1:=h.setF i1 i2 hk hy hm hyk hyB hys;by_cases hc:0<y.l∨0<y.O.sum
 ·rw[keepV_set hc];exact h1
 ·rw[keepV_go hyB hc,←setIno_twice M i y noIno];have hl0:lk (M.setIno i y) T i=0:=by
   rw[lk_kinds (M:=M) (fun q _ _=>by
    by_cases e:q=i
    ·rw[e,setIno_at,hyk,hk]
    ·rw[setIno_other M y e]) i]
   exact hl (by omega)
  refine h1.drop i1 i2 (file_not_root h hk) (fun k n hkn=> ?_) (no_entry h1.hold i1 hl0);rw[setIno_at,hyB]at hkn;have:n∈[(0:Int),0,0,0]:=List.mem_of_getElem? hkn
  simpa using this
theorem opn_zero{y:Ino}(hy:y.Shape){i:Nat}(ho:∀k,k<8→y.O[k]? =some (cntD D' k i:Int)):0≤y.O.sum∧(y.O.sum=0→∀k,k<8→cntD D' k i=0):=by
 have h0:∀n∈y.O,(0:Int)≤n:=fun n hn=>by
  obtain⟨k,hk⟩:=List.mem_iff_getElem?.1 hn;have hk8:k<8:=by
   have:=(List.getElem?_eq_some_iff.1 hk).1
   rw[hy.2]at this;exact this
  rw[ho k hk8]at hk;have:=Option.some.inj hk
  omega
 obtain⟨h1,h2⟩:=sum_nonneg y.O h0;refine⟨h1,fun e k hk=> ?_⟩;have:=h2 e _ (List.mem_of_getElem? (ho k hk))
 omega
theorem Cnt.keep(h:Cnt M T D δ){i:Nat}{y:Ino}(i1:1≤i)(i2:i≤32)(hk:(M.ino i).k=1)(hy:y.Shape)(hyk:y.k=1)(hyB:y.B=[0,0,0,0])(hy0:0≤y.l)(ho:∀k,k<8→y.O[k]? =some (cntD D' k i:Int))(hD:∀a,a≠i→a≠0→∀k,k<8→cntD D' k a=cntD D k a)(hf:∀k fd,k<8→fd<8→D' k fd≠0→D' k fd=i∨D' k fd=D k fd):
 Cnt (keepV M i y) T D' (fun q=>δ q-if q=i then y.l-(M.ino i).l else 0):=by
 obtain⟨s0,s1⟩:=opn_zero hy ho;by_cases hc:0<y.l∨0<y.O.sum
 ·rw[keepV_set hc];exact h.setF i1 i2 hk hyk (fun e=>by omega) ho hD hf
 ·rw[keepV_go hyB hc];have hz:=s1 (by omega);refine(h.drop (D':=D') (fun e=>by omega) hD fun k fd hkk hfd h0=> ?_).cast fun q=> ?_
  ·rcases hf k fd hkk hfd h0 with e|e
   ·have:=cntD_pos hfd e
    have:=hz k hkk
    omega
   ·refine⟨fun e2=> ?_,e⟩;have:=cntD_pos hfd e2
    have:=hz k hkk
    omega
  ·try dsimp only
   by_cases e:q=i
   ·rw[if_pos e,if_pos e];unfold wantL;rw[hk,if_neg (by decide),if_neg (by decide)];omega
   ·rw[if_neg e,if_neg e];omega
theorem Ofd.map{φ':Nat→Nat}(h:Ofd D S φ){S':Pz.Fil}(hO:S'.O=S.O)(he:∀k fd,k<8→fd<8→D k fd≠0→φ' (D k fd)=φ (D k fd)):Ofd D S' φ':=fun k hk fd=>by
 rw[hO,h k hk fd];by_cases hc:0≤fd∧fd<8∧D k fd.toNat≠0
 ·rw[if_pos hc,if_pos hc,he k fd.toNat hk (by omega) hc.2.2]
 ·rw[if_neg hc,if_neg hc]
def freeDN(D:Nat→Nat→Nat)(k:Nat):Nat→Nat→Nat
 |0,b=>b
 |m+1,b=>if D k b≠0 then freeDN D k m (b+1)else b
def freeD(D:Nat→Nat→Nat)(k:Nat):Nat:=freeDN D k 8 0
theorem freeDN_eq(h:Ofd D S φ){k:Nat}(hk:k<8):∀(m b:Nat),b+m=8→Pz.freeN S.O ((k:Int)+1) m b=freeDN D k m b
 |0,b,_=>rfl
 |m+1,b,e=>by
  unfold Pz.freeN freeDN;rw[h k hk b];by_cases h0:D k b≠0
  ·rw[if_pos (show 0≤(b:Int)∧(b:Int)<8∧D k (b:Int).toNat≠0 from⟨by omega,by omega,by rw[Int.toNat_natCast];exact h0⟩),if_pos (by omega),if_pos h0];exact freeDN_eq h hk m (b+1) (by omega)
  ·rw[if_neg (show ¬(0≤(b:Int)∧(b:Int)<8∧D k (b:Int).toNat≠0) from fun e=>h0 (by have:=e.2.2;rwa [Int.toNat_natCast]at this)),if_neg (by omega),if_neg h0]
theorem free_eq(h:Ofd D S φ){k:Nat}(hk:k<8):Pz.free S.O ((k:Int)+1)=freeD D k:=freeDN_eq h hk 8 0 rfl
theorem freeDN_is{k:Nat}:∀(m b:Nat),b≤freeDN D k m b∧freeDN D k m b≤b+m∧(freeDN D k m b<b+m→D k (freeDN D k m b)=0)∧∀c,b≤c→c<freeDN D k m b→D k c≠0
 |0,b=>⟨Nat.le_refl _,Nat.le_refl _,fun h=>absurd h (Nat.lt_irrefl _),fun c h1 h2=>absurd h2 (Nat.not_lt.2 h1)⟩
 |m+1,b=>by
  unfold freeDN;by_cases h0:D k b≠0
  ·rw[if_pos h0];obtain⟨h1,h2,h3,h4⟩:=freeDN_is (k:=k) m (b+1);refine⟨by omega,by omega,fun h=>h3 (by omega),fun c c1 c2=> ?_⟩;by_cases e:c=b
   ·rw[e];exact h0
   ·exact h4 c (by omega) c2
  ·rw[if_neg h0];exact⟨Nat.le_refl _,by omega,fun _=>by omega,fun c h1 h2=>by omega⟩
theorem freeD_le{k:Nat}:freeD D k≤8:=(freeDN_is (k:=k) 8 0).2.1
theorem freeD_zero{k:Nat}(h:freeD D k<8):D k (freeD D k)=0:=(freeDN_is (k:=k) 8 0).2.2.1 h
theorem Rel.opens(h:Rel M T S φ)(O:List Pz.Op):Rel M T {S with O:=O} φ:=⟨h.hold,h.root,h.inj,h.lt,h.dir,h.file,h.look,h.live⟩
theorem file_links{x:Ino}(hk:x.k=1)(h:mayI x=true):0≤x.l∧x.l≤20:=by
 unfold mayI at h;rw[if_neg (by omega),if_pos hk]at h;simp only[Bool.and_eq_true,decide_eq_true_eq]at h;exact⟨h.1.1.1.1.1,h.1.1.1.1.2⟩
theorem file_opn{x:Ino}(hk:x.k=1)(h:mayI x=true):∀n∈x.O,0≤n∧n≤8:=by
 unfold mayI at h;rw[if_neg (by omega),if_pos hk]at h;simp only[Bool.and_eq_true,decide_eq_true_eq]at h;have:=h.1.2
 unfold opnB at this;intro n hn;have:=List.all_eq_true.1 this n hn
 simpa using this
theorem file_may'{y:Ino}(hyk:y.k=1)(hl:0≤y.l∧y.l≤20)(hyB:y.B=[0,0,0,0])(hys:y.s=0)(ho:∀n∈y.O,0≤n∧n≤8):mayI y=true:=by
 unfold mayI;rw[if_neg (by omega),if_pos hyk,hyB,hys];simp only[Bool.and_eq_true,decide_eq_true_eq];refine⟨⟨⟨⟨hl,by omega⟩,by omega⟩,?_⟩,by decide⟩;unfold opnB;rw[List.all_eq_true];intro n hn;simpa using ho n hn
theorem file_may{x y:Ino}(hk:x.k=1)(h:mayI x=true)(hx:x.Shape)(hB:x.B=[0,0,0,0])(hs:x.s=0)(hy:y.Shape)(hyk:y.k=1)(hyl:y.l=x.l)(hyB:y.B=[0,0,0,0])(hys:y.s=0)(ho:∀n∈y.O,0≤n∧n≤8):mayI y=true:=
 file_may' hyk (by rw[hyl];exact file_links hk h) hyB hys ho
theorem updD_or(k fd i a b:Nat):updD D k fd i a b=i∨updD D k fd i a b=D a b:=by
 unfold updD;split
 ·exact Or.inl rfl
 ·exact Or.inr rfl
theorem Ofd.open{φ':Nat→Nat}(h:Ofd D S φ){k i:Nat}(hk:k<8)(hfd:freeD D k<8)(i0:i≠0)(he:∀a b,a<8→b<8→D a b≠0→φ' (D a b)=φ (D a b)){S':Pz.Fil}(hO:S'.O=S.O++[⟨(k:Int)+1,(Pz.free S.O ((k:Int)+1):Nat),φ' i⟩]):Ofd (updD D k (freeD D k) i) S' φ':=fun a ha fd=>by
 rw[free_eq h hk]at hO;rw[hO,Pz.ofd_snoc,h a ha fd];have hz:=freeD_zero hfd;by_cases e:a=k∧fd=(freeD D k:Int)
 ·obtain⟨e1,e2⟩:=e;subst e1;rw[e2,Int.toNat_natCast];have e3:updD D a (freeD D a) i a (freeD D a)=i:=if_pos ⟨rfl,rfl⟩;rw[e3,if_neg (show ¬(0≤(freeD D a:Int)∧(freeD D a:Int)<8∧D a (freeD D a)≠0) from fun e=>e.2.2 hz),if_neg (by omega),if_pos ⟨rfl,rfl⟩,if_pos ⟨by omega,by omega,i0⟩]
 ·have e3:∀b:Nat,(b:Int)=fd→updD D k (freeD D k) i a b=D a b:=fun b hb=>if_neg fun e2=>e ⟨e2.1,by omega⟩;by_cases hc:0≤fd∧fd<8∧D a fd.toNat≠0
  ·have h1:=e3 fd.toNat (by omega);rw[h1,if_pos hc,if_pos (by omega),if_pos hc,he a fd.toNat ha (by omega) hc.2.2]
  ·rw[if_neg hc,if_neg (by omega),if_neg (fun e2=>e ⟨by have e4:(k:Int)+1=(a:Int)+1:=e2.1;omega,e2.2.symm⟩),if_neg];intro e2;apply hc
   have h1:=e3 fd.toNat (by omega);rw[h1]at e2;exact e2
theorem Sim.made(h:Sim M T D S φ)(hS:Pz.Ok S){f d j:Nat}{x:List UInt8}{y:Ino}{D':Nat→Nat→Nat}(f1:1≤f)(f2:f≤32)(hf0:(M.ino f).k=0)(hy:y.Shape)(hm:mayI y=true)(hyk:y.k=1∨y.k=2)(hyB:y.B=[0,0,0,0])(hys:y.s=0)(hyl:y.l=1)
 (d1:1≤d)(d2:d≤32)(hk:(M.ino d).k=2)(hx:x≠[])(hfd:findT (T d) x (hN x)=none)(hj:j<16)(he:entAt (upd T f noTab d) j=noEnt)(hc:Chg (M.setIno f y) (upd T f noTab) N d (setT (upd T f noTab d) j ⟨x,f⟩))
 (ho:y.k=1→∀k,k<8→y.O[k]? =some (cntD D' k f:Int))(hD:∀a,a≠f→a≠0→∀k,k<8→cntD D' k a=cntD D k a)(hDf:∀k fd,k<8→fd<8→D' k fd≠0→(D' k fd=f∧y.k=1)∨D' k fd=D k fd):
 ∃T' φ',Rel N T' {S with N:=S.N++[⟨decide (y.k=2),[],1⟩],E:=S.E++[⟨φ d,x,S.N.length⟩]} φ'∧Cnt N T' D' (fun _=>0)∧φ' f=S.N.length∧∀q,q≠f→φ' q=φ q:=by
 have hdf:d≠f:=fun e=>by
  rw[e,hf0]at hk;exact absurd hk (by decide)
 have hfr:f≠1:=fun e=>by
  rw[e,h.rel.root.1]at hf0;exact absurd hf0 (by decide)
 have hT:upd T f noTab d=T d:=upd_other hdf;have h1:=h.rel.new hS f1 f2 hf0 hy hm hyk hyB hys hyl;obtain⟨φ',hφ⟩:∃φ':Nat→Nat,φ'=fun q=>if q=f then S.N.length else φ q:=⟨_,rfl⟩
 rw[←hφ]at h1;have e1:φ' d=φ d:=by rw[hφ];exact if_neg hdf
 have e2:φ' f=S.N.length:=by rw[hφ];exact if_pos rfl
 have hk1:((M.setIno f y).ino d).k=2:=by rw[setIno_other M y hdf];exact hk
 have hf1:((M.setIno f y).ino f).k≠0:=by rw[setIno_at];omega
 have h2:=h1.put d1 d2 hk1 hj he hx (by rw[hT];exact hfd) f1 hf1 hc;rw[e1,e2]at h2;have c1:=h.cnt.new f1 f2 hfr hf0 hyk hyl ho hD hDf;have c2:=c1.put h1.hold d1 d2 hk1 hj he hx hc;refine⟨_,φ',h2,c2.cast fun q=> ?_,e2,fun q hq=>by rw[hφ];exact if_neg hq⟩;try dsimp only
 unfold one;by_cases e:q=f
 ·rw[if_pos e,if_pos e.symm];omega
 ·rw[if_neg e,if_neg (fun e3=>e e3.symm)];omega
theorem Sim.mkdir(h:Sim M T D S φ)(hS:Pz.Ok S){f d j:Nat}{x:List UInt8}(f1:1≤f)(f2:f≤32)(hf0:(M.ino f).k=0)
 (d1:1≤d)(d2:d≤32)(hk:(M.ino d).k=2)(hx:x≠[])(hfd:findT (T d) x (hN x)=none)(hj:j<16)(he:entAt (upd T f noTab d) j=noEnt)(hc:Chg (M.setIno f rootI) (upd T f noTab) N d (setT (upd T f noTab d) j ⟨x,f⟩)):
 ∃T' φ',Sim N T' D {S with N:=S.N++[⟨true,[],1⟩],E:=S.E++[⟨φ d,x,S.N.length⟩]} φ':=by
 obtain⟨T',φ',h1,h2,h3,h4⟩:=h.made (D':=D) hS f1 f2 hf0 root_shape root_may (Or.inr rfl) rfl rfl rfl d1 d2 hk hx hfd hj he hc (fun e=>absurd e (by decide)) (fun _ _ _ _ _=>rfl) (fun _ _ _ _ _=>Or.inr rfl);refine⟨T',φ',h1,h2,h.ofd.map rfl fun k fd hkk hfd8 h0=>h4 _ fun e=> ?_⟩;have:=(h.cnt.fds k fd hkk hfd8 h0).2.2
 rw[e,hf0]at this;exact absurd this (by decide)
theorem zeros8_get{k:Nat}(hk:k<8):jf.O[k]? =some 0:=JD ⟨k,hk⟩
theorem Sim.create(h:Sim M T D S φ)(hS:Pz.Ok S){f d j k:Nat}{x:List UInt8}(f1:1≤f)(f2:f≤32)(hf0:(M.ino f).k=0)(hkk:k<8)(hfr:freeD D k<8)(hm:mayI (jf.setO k 1)=true)
 (d1:1≤d)(d2:d≤32)(hk:(M.ino d).k=2)(hx:x≠[])(hfd:findT (T d) x (hN x)=none)(hj:j<16)(he:entAt (upd T f noTab d) j=noEnt)(hc:Chg (M.setIno f (jf.setO k 1)) (upd T f noTab) N d (setT (upd T f noTab d) j ⟨x,f⟩)):
 ∃T' φ',Sim N T' (updD D k (freeD D k) f) {N:=S.N++[⟨false,[],1⟩],E:=S.E++[⟨φ d,x,S.N.length⟩],O:=S.O++[⟨(k:Int)+1,(Pz.free S.O ((k:Int)+1):Nat),S.N.length⟩]} φ':=by
 have hnf:∀a b,a<8→b<8→D a b≠f:=fun a b ha hb e=>by
  have:=(h.cnt.fds a b ha hb (by omega)).2.2
  rw[e,hf0]at this;exact absurd this (by decide)
 have hcf:∀a,a<8→cntD D a f=0:=fun a ha=>cntD_zero fun b hb=>hnf a b ha hb;have hz:=freeD_zero hfr;have hcu:=fun a=>cntD_upd D (k:=k) (i:=f) hfr a;have hco:=fun a a' (ha:a≠k)=>cntD_other D (k:=k) (k':=a) (fd:=freeD D k) (i:=f) (a:=a') ha;obtain⟨T',φ',h1,h2,h3,h4⟩:=h.made (D':=updD D k (freeD D k) f) hS f1 f2 hf0 (Ino.setO_shape jk k 1) hm (Or.inl rfl) rfl rfl rfl d1 d2 hk hx hfd hj he hc (fun _ a ha=>by
  show(jf.O.set k 1)[a]? =_
  by_cases e:a=k
  ·subst e;rw[List.getElem?_set_self (show a<jf.O.length from by rw[jk.2];exact ha)];have:=hcu f
   rw[hcf a ha,hz,one_no (show ¬0=f by omega),one_yes rfl]at this;rw[show cntD (updD D a (freeD D a) f) a f=1 by omega];rfl
  ·rw[List.getElem?_set_ne (fun e2=>e e2.symm),zeros8_get ha,hco a f e,hcf a ha];rfl) (fun a ha ha0 b hb=>by
  by_cases e:b=k
  ·subst e;have:=hcu a
   rw[hz,one_no (show ¬0=a by omega),one_no (show ¬f=a from fun e2=>ha e2.symm)]at this;omega
  ·exact hco b a e) (fun a b ha hb h0=>by
  rcases updD_or (D:=D) k (freeD D k) f a b with e|e
  ·exact Or.inl ⟨e,rfl⟩
  ·exact Or.inr e)
 refine⟨T',φ',h1.opens _,h2,?_⟩;exact h.ofd.open hkk hfr (by omega) (fun a b ha hb h0=>h4 _ (hnf a b ha hb)) (by rw[h3])
theorem Sim.reopen(h:Sim M T D S φ){i k:Nat}{o:Int}(i1:1≤i)(i2:i≤32)(hk:(M.ino i).k=1)(hkk:k<8)(hfr:freeD D k<8)(ho:(M.ino i).O[k]? =some o):
 Sim (M.setIno i ((M.ino i).setO k (o+1))) T (updD D k (freeD D k) i) {S with O:=S.O++[⟨(k:Int)+1,(Pz.free S.O ((k:Int)+1):Nat),φ i⟩]} φ∧0≤o∧o<8:=by
 have hO:=h.cnt.opn i i1 i2 hk;obtain⟨hsh,hmy⟩:=h.rel.hold.may i i1 i2;have hz:=freeD_zero hfr;have hoc:o=(cntD D k i:Int):=by
  rw[hO k hkk]at ho;exact(Option.some.inj ho).symm
 have hlt:cntD D k i<8:=cntD_lt hfr (by rw[hz];omega);have hcu:=fun a=>cntD_upd D (k:=k) (i:=i) hfr a;have hco:=fun a a' (ha:a≠k)=>cntD_other D (k:=k) (k':=a) (fd:=freeD D k) (i:=i) (a:=a') ha;have hsh2:=Ino.setO_shape hsh k (o+1);obtain⟨fB,fs⟩:=h.rel.hold.file i i1 i2 hk;have ho2:∀a,a<8→((M.ino i).setO k (o+1)).O[a]? =some (cntD (updD D k (freeD D k) i) a i:Int):=fun a ha=>by
  show((M.ino i).O.set k (o+1))[a]? =_
  by_cases e:a=k
  ·subst e;rw[List.getElem?_set_self (by rw[hsh.2];exact ha)];have:=hcu i
   rw[hz,one_no (show ¬0=i by omega),one_yes rfl]at this;congr 1
   omega
  ·rw[List.getElem?_set_ne (fun e2=>e e2.symm),hO a ha,hco a i e]
 have hm2:=file_may hk hmy hsh fB fs (y:=(M.ino i).setO k (o+1)) hsh2 hk rfl fB fs (fun n hn=>by
  rcases List.mem_or_eq_of_mem_set (show n∈(M.ino i).O.set k (o+1) from hn)with hn|rfl
  ·exact file_opn hk hmy n hn
  ·omega)
 have hl2:0≤(M.ino i).l:=(file_links hk hmy).1;refine⟨⟨h.rel.setF_same i1 i2 hk hsh2 hm2 hk fB fs rfl |>.opens _,(h.cnt.setF (y:=(M.ino i).setO k (o+1)) (D':=updD D k (freeD D k) i) i1 i2 hk hk (fun _ e=> ?_) ho2 (fun a ha ha0 b hb=> ?_) fun a b _ _ _=>updD_or k (freeD D k) i a b).cast fun q=> ?_,h.ofd.open hkk hfr (by omega) (fun _ _ _ _ _=>rfl) rfl⟩,by omega,by omega⟩
 ·have:=(opn_zero hsh2 ho2).2 e k hkk
  have:=hcu i
  rw[hz,one_no (show ¬0=i by omega),one_yes rfl]at this;omega
 ·by_cases e:b=k
  ·subst e;have:=hcu a
   rw[hz,one_no (show ¬0=a by omega),one_no (show ¬i=a from fun e2=>ha e2.symm)]at this;omega
  ·exact hco b a e
 ·try dsimp only
  split
  ·show(0:Int)-((M.ino i).l-(M.ino i).l)=0
   omega
  ·rfl
theorem Sim.shut(h:Sim M T D S φ){k fd:Nat}{o:Int}(hkk:k<8)(hfd:fd<8)(h0:D k fd≠0)(ho:(M.ino (D k fd)).O[k]? =some o):
 Sim (keepV M (D k fd) ((M.ino (D k fd)).setO k (o-1))) T (updD D k fd 0) {S with O:=Pz.shut S.O ((k:Int)+1) fd} φ∧1≤o∧o≤8∧mayI ((M.ino (D k fd)).setO k (o-1))=true:=by
 obtain⟨i,hi⟩:=nm (D k fd);obtain⟨i1,i2,hk⟩:=h.cnt.fds k fd hkk hfd h0;rw[←hi]at ho i1 i2 hk h0⊢;have hO:=h.cnt.opn i i1 i2 hk;obtain⟨hsh,hmy⟩:=h.rel.hold.may i i1 i2;have hoc:o=(cntD D k i:Int):=by
  rw[hO k hkk]at ho;exact(Option.some.inj ho).symm
 have hpos:=cntD_pos (D:=D) hfd hi.symm;have hle:=cntD_le D k i;have hcu:=fun a=>cntD_upd D (k:=k) (i:=0) hfd a;have hco:=fun a a' (ha:a≠k)=>cntD_other D (k:=k) (k':=a) (fd:=fd) (i:=0) (a:=a') ha;have hsh2:=Ino.setO_shape hsh k (o-1);obtain⟨fB,fs⟩:=h.rel.hold.file i i1 i2 hk;have ho2:∀a,a<8→((M.ino i).setO k (o-1)).O[a]? =some (cntD (updD D k fd 0) a i:Int):=fun a ha=>by
  show((M.ino i).O.set k (o-1))[a]? =_
  by_cases e:a=k
  ·subst e;rw[List.getElem?_set_self (by rw[hsh.2];exact ha)];have:=hcu i
   rw[←hi,one_no (show ¬0=i by omega),one_yes rfl]at this;congr 1
   omega
  ·rw[List.getElem?_set_ne (fun e2=>e e2.symm),hO a ha,hco a i e]
 have hm2:=file_may hk hmy hsh fB fs (y:=(M.ino i).setO k (o-1)) hsh2 hk rfl fB fs (fun n hn=>by
  rcases List.mem_or_eq_of_mem_set (show n∈(M.ino i).O.set k (o-1) from hn)with hn|rfl
  ·exact file_opn hk hmy n hn
  ·omega)
 have hl2:0≤(M.ino i).l:=(file_links hk hmy).1;have hlk:(M.ino i).l=0→lk M T i=0:=fun e=>by
  have:=h.cnt.links i i1 i2
  unfold wantL at this;rw[hk,if_neg (by decide),if_neg (by decide),e]at this;omega
 refine⟨⟨?_,(h.cnt.keep (y:=(M.ino i).setO k (o-1)) (D':=updD D k fd 0) i1 i2 hk hsh2 hk fB hl2 ho2 (fun a ha ha0 b hb=> ?_) fun a b _ _ h3=> ?_).cast fun q=> ?_,fun a ha b=> ?_⟩,by omega,by omega,hm2⟩
 ·have h1:=h.rel.keep (y:=(M.ino i).setO k (o-1)) i1 i2 hk hsh2 hm2 hk fB fs hlk hl2;have h2:=h.rel.file i i1 i2 hk;obtain⟨h3,h4⟩:=List.getElem?_eq_some_iff.1 h2;have e:(S.N.set (φ i) ⟨false,[],((M.ino i).setO k (o-1)).l⟩)=S.N:=by
   show S.N.set (φ i) ⟨false,[],(M.ino i).l⟩=S.N
   rw[←h4,List.set_getElem_self]
  rw[e]at h1;exact h1.opens _
 ·by_cases e:b=k
  ·subst e;have:=hcu a
   rw[←hi,one_no (show ¬0=a by omega),one_no (show ¬i=a from fun e2=>ha e2.symm)]at this;omega
  ·exact hco b a e
 ·rcases updD_or (D:=D) k fd 0 a b with e|e
  ·exact absurd e h3
  ·exact Or.inr e
 ·try dsimp only
  split
  ·show(0:Int)-((M.ino i).l-(M.ino i).l)=0
   omega
  ·rfl
 ·show Pz.ofd (Pz.shut S.O ((k:Int)+1) fd) ((a:Int)+1) b=_
  rw[Pz.ofd_shut,h.ofd a ha b];by_cases e:a=k∧b=(fd:Int)
  ·obtain⟨e1,e2⟩:=e;subst e1;subst e2;rw[if_pos ⟨rfl,rfl⟩,Int.toNat_natCast,if_neg];intro e3;exact e3.2.2 (if_pos ⟨rfl,rfl⟩)
  ·rw[if_neg (fun e2=>e ⟨by omega,e2.2⟩)];by_cases hb:0≤b∧b<8
   ·have e3:updD D k fd 0 a b.toNat=D a b.toNat:=if_neg fun e2=>e ⟨e2.1,by omega⟩;rw[e3]
   ·rw[if_neg (fun e3=>hb ⟨e3.1,e3.2.1⟩),if_neg (fun e3=>hb ⟨e3.1,e3.2.1⟩)]
end
end Gd
end
section
namespace Gd
section
variable {M N N1:Vol} {T:Nat→Tab} {S:Pz.Fil} {φ:Nat→Nat} {D D':Nat→Nat→Nat} {δ:Nat→Int}
theorem link_pos(hH:Hold M T){d t:Nat}{x:List UInt8}(d1:1≤d)(d2:d≤32)(hk:(M.ino d).k=2)(h:dirE (T d) x=t)(ht:t≠0):1≤linkT (T d) 16 t:=by
 unfold dirE at h
 cases hf:findT (T d) x (hN x)with
 |none=>
  rw[hf]at h;exact absurd h.symm ht
 |some j=>
  rw[hf]at h;obtain⟨e1,e2⟩:=find_some hf;have hm:entAt (T d) j.val∈T d:=List.mem_of_getElem? (entAt_get (hH.dir d d1 d2 hk).ok.len j.isLt);unfold linkT;rw[List.take_of_length_le (by rw[(hH.dir d d1 d2 hk).ok.len];omega)];refine List.length_pos_of_mem (a:=entAt (T d) j.val) (List.mem_filter.2 ⟨hm,?_⟩);simp only[Bool.and_eq_true,decide_eq_true_eq];exact⟨by rw[e1];exact e2,h⟩
theorem one_eq(i q:Nat):((one (i=q):Nat):Int)=if q=i then 1 else 0:=by
 unfold one;by_cases e:q=i
 ·rw[if_pos e,if_pos e.symm];rfl
 ·rw[if_neg e,if_neg fun e2=>e e2.symm];rfl
theorem freeDir(hr:Rel M T S φ)(hc:Cnt M T D δ){i:Nat}(i1:1≤i)(i2:i≤32)(hi:i≠1)(hk:(M.ino i).k=2)(hn:namedT (T i) 16=0)(hl:lk M T i=0):
 Rel (M.setIno i noIno) T S φ∧Cnt (M.setIno i noIno) T D (fun q=>δ q+if q=i then 1 else 0):=by
 refine⟨hr.drop i1 i2 hi (hr.hold.bare i1 i2 hk hn) (no_entry hr.hold i1 hl),(hc.drop (fun _=>hn) (fun _ _ _ _ _=>rfl) fun k fd hkk hfd h0=>⟨fun e=> ?_,rfl⟩).cast fun q=> ?_⟩
 ·have:=(hc.fds k fd hkk hfd h0).2.2
  rw[e,hk]at this;exact absurd this (by decide)
 ·have hw:wantL M i=1:=by
   unfold wantL;rw[hk,if_neg (by decide),if_pos rfl,if_neg hi]
  rw[hw]
theorem lessFile(hr:Rel M T S φ)(hc:Cnt M T D δ){i:Nat}(i1:1≤i)(i2:i≤32)(hk:(M.ino i).k=1)(hd:δ i= -1):
 (1≤(M.ino i).l∧(M.ino i).l≤20)∧mayI ((M.ino i).setL ((M.ino i).l-1))=true∧Rel (keepV M i ((M.ino i).setL ((M.ino i).l-1))) T {S with N:=S.N.set (φ i) ⟨false,[],(M.ino i).l-1⟩} φ∧Cnt (keepV M i ((M.ino i).setL ((M.ino i).l-1))) T D (fun q=>δ q+if q=i then 1 else 0):=by
 obtain⟨hsh,hmy⟩:=hr.hold.may i i1 i2;obtain⟨fB,fs⟩:=hr.hold.file i i1 i2 hk;have hll:=file_links hk hmy;have hl:=hc.links i i1 i2;unfold wantL at hl;rw[hk,if_neg (by decide),if_neg (by decide),hd]at hl;have hm:mayI ((M.ino i).setL ((M.ino i).l-1))=true:=file_may' hk ⟨by show(0:Int)≤(M.ino i).l-1;omega,by show(M.ino i).l-1≤20;omega⟩ fB fs (fun n hn=>file_opn (x:=M.ino i) hk hmy n hn);refine⟨by omega,hm,hr.keep (y:=(M.ino i).setL ((M.ino i).l-1)) i1 i2 hk (Ino.setL_shape hsh _) hm hk fB fs (fun e=> ?_) (by show(0:Int)≤(M.ino i).l-1;omega),(hc.keep (D':=D) (y:=(M.ino i).setL ((M.ino i).l-1)) i1 i2 hk (Ino.setL_shape hsh _) hk fB (by show(0:Int)≤(M.ino i).l-1;omega) (hc.opn i i1 i2 hk) (fun _ _ _ _ _=>rfl) fun _ _ _ _ _=>Or.inr rfl).cast fun q=> ?_⟩
 ·have e:(M.ino i).l-1=0:=e;omega
 ·try dsimp only
  split
  ·show δ q-((M.ino i).l-1-(M.ino i).l)=δ q+1
   omega
  ·omega
theorem dirE_of{X:Tab}{x:List UInt8}{j:Fin 16}{i:Nat}(hf:findT X x (hN x)=some j)(he:(entAt X j.val).i=i):dirE X x=i:=by
 rw[dirE_some hf,he]
theorem not_root(hr:Rel M T S φ)(hc:Cnt M T D fun _=>0){d i:Nat}{x:List UInt8}(d1:1≤d)(d2:d≤32)(hk:(M.ino d).k=2)(h:dirE (T d) x=i)(i0:i≠0):i≠1:=fun e=>by
 have h1:=lk_pos hr.hold d1 d2 hk h i0;have h2:=hc.links 1 (by omega) (by omega);unfold wantL at h2;rw[hr.root.1,if_neg (by decide),if_pos rfl,if_pos rfl]at h2;rw[e]at h1;omega
theorem Sim.rmdir(h:Sim M T D S φ){d i:Nat}{x:List UInt8}{j:Fin 16}(d1:1≤d)(d2:d≤32)(hk:(M.ino d).k=2)(hf:findT (T d) x (hN x)=some j)(he:(entAt (T d) j.val).i=i)(hki:(M.ino i).k=2)(hn:namedT (T i) 16=0)(hc:Chg M T N1 d (setT (T d) j.val noEnt)):
 Sim (N1.setIno i noIno) (upd T d (setT (T d) j.val noEnt)) D {S with E:=Pz.take S.E (φ d) x} φ:=by
 have hfe:=find_ent h.rel.tree d1 d2 hk hf;rw[he]at hfe;obtain⟨i1,i2,-,-⟩:=hfe;have hE:=dirE_of hf he;have hi1:=not_root h.rel h.cnt d1 d2 hk hE (by omega);have hdi:i≠d:=fun e=>by
  have h1:=link_pos h.rel.hold d1 d2 hk hE (by omega);have h2:=linkT_named (T d) 16 i;rw[←e]at h2 h1;omega
 have r1:=h.rel.take d1 d2 hk hf hc;have c1:=h.cnt.take h.rel.hold d1 d2 hk hf hc;have hk1:(N1.ino i).k=2:=by rw[hc.kindAll];exact hki
 have hl:=c1.links i i1 i2;unfold wantL at hl;rw[hk1,if_neg (by decide),if_pos rfl,if_neg hi1,hE,one_yes rfl]at hl;obtain⟨r2,c2⟩:=freeDir r1 c1 i1 i2 hi1 hk1 (by rw[upd_other hdi];exact hn) (by omega);refine⟨r2,c2.cast fun q=> ?_,h.ofd.map rfl fun _ _ _ _ _=>rfl⟩;try dsimp only
 rw[hE,one_eq];split<;>omega
theorem Sim.unlink(h:Sim M T D S φ){d i:Nat}{x:List UInt8}{j:Fin 16}(d1:1≤d)(d2:d≤32)(hk:(M.ino d).k=2)(hf:findT (T d) x (hN x)=some j)(he:(entAt (T d) j.val).i=i)(hki:(M.ino i).k=1)(hc:Chg M T N1 d (setT (T d) j.val noEnt)):
 (1≤(N1.ino i).l∧(N1.ino i).l≤20)∧mayI ((N1.ino i).setL ((N1.ino i).l-1))=true∧Sim (keepV N1 i ((N1.ino i).setL ((N1.ino i).l-1))) (upd T d (setT (T d) j.val noEnt)) D {S with E:=Pz.take S.E (φ d) x,N:=S.N.set (φ i) ⟨false,[],(M.ino i).l-1⟩} φ:=by
 have hfe:=find_ent h.rel.tree d1 d2 hk hf;rw[he]at hfe;obtain⟨i1,i2,-,-⟩:=hfe;have hE:=dirE_of hf he;have r1:=h.rel.take d1 d2 hk hf hc;have c1:=h.cnt.take h.rel.hold d1 d2 hk hf hc;have hk1:(N1.ino i).k=1:=by rw[hc.kindAll];exact hki
 obtain⟨hl,hm,r2,c2⟩:=lessFile r1 c1 i1 i2 hk1 (by(try dsimp only);rw[hE,one_yes rfl];rfl);rw[show(N1.ino i).l-1=(M.ino i).l-1 by rw[hc.linkAll]]at r2;refine⟨hl,hm,⟨?_,c2.cast fun q=> ?_,h.ofd.map rfl fun _ _ _ _ _=>rfl⟩⟩
 ·rw[show(N1.ino i).l-1=(M.ino i).l-1 by rw[hc.linkAll]];exact r2
 ·try dsimp only
  rw[hE,one_eq];split<;>omega
theorem Sim.link(h:Sim M T D S φ){d i j:Nat}{x:List UInt8}(d1:1≤d)(d2:d≤32)(hk:(M.ino d).k=2)(i1:1≤i)(i2:i≤32)(hki:(M.ino i).k=1)(hl:(M.ino i).l<20)(hx:x≠[])(hf:findT (T d) x (hN x)=none)(hj:j<16)(he:entAt (T d) j=noEnt)
 (hc:Chg (M.setIno i ((M.ino i).setL ((M.ino i).l+1))) T N d (setT (T d) j ⟨x,i⟩)):
 Sim N (upd T d (setT (T d) j ⟨x,i⟩)) D {S with E:=S.E++[⟨φ d,x,φ i⟩],N:=S.N.set (φ i) ⟨false,[],(M.ino i).l+1⟩} φ:=by
 obtain⟨hsh,hmy⟩:=h.rel.hold.may i i1 i2;obtain⟨fB,fs⟩:=h.rel.hold.file i i1 i2 hki;have hll:=file_links hki hmy;have hm:mayI ((M.ino i).setL ((M.ino i).l+1))=true:=file_may' hki ⟨by show(0:Int)≤(M.ino i).l+1;omega,by show(M.ino i).l+1≤20;omega⟩ fB fs (fun n hn=>file_opn (x:=M.ino i) hki hmy n hn);have r1:=h.rel.setF (y:=(M.ino i).setL ((M.ino i).l+1)) i1 i2 hki (Ino.setL_shape hsh _) hm hki fB fs;have c1:=h.cnt.setF (D':=D) (y:=(M.ino i).setL ((M.ino i).l+1)) i1 i2 hki hki (fun e=>by have e:(M.ino i).l+1=0:=e;omega) (h.cnt.opn i i1 i2 hki) (fun _ _ _ _ _=>rfl) fun _ _ _ _ _=>Or.inr rfl;have hdi:d≠i:=fun e=>by
  rw[e,hki]at hk;exact absurd hk (by decide)
 have hk1:((M.setIno i ((M.ino i).setL ((M.ino i).l+1))).ino d).k=2:=by rw[setIno_other M _ hdi];exact hk
 have hi1:((M.setIno i ((M.ino i).setL ((M.ino i).l+1))).ino i).k≠0:=by
  rw[setIno_at];show(M.ino i).k≠0
  omega
 have r2:=r1.put d1 d2 hk1 hj he hx hf i1 hi1 hc;have c2:=c1.put r1.hold d1 d2 hk1 hj he hx hc;refine⟨r2,c2.cast fun q=> ?_,h.ofd.map rfl fun _ _ _ _ _=>rfl⟩;try dsimp only
 rw[one_eq];split
 ·show(0:Int)-((M.ino i).l+1-(M.ino i).l)+1=0
  omega
 ·omega
theorem Sim.move(h:Sim M T D S φ){d e i j:Nat}{x o:List UInt8}{jo:Fin 16}(e1:1≤e)(e2:e≤32)(hke:(M.ino e).k=2)(hfo:findT (T e) o (hN o)=some jo)(heo:(entAt (T e) jo.val).i=i)(hco:Chg M T N1 e (setT (T e) jo.val noEnt))
 (d1:1≤d)(d2:d≤32)(hk:(M.ino d).k=2)(hx:x≠[])(hf:findT (upd T e (setT (T e) jo.val noEnt) d) x (hN x)=none)(hj:j<16)(he:entAt (upd T e (setT (T e) jo.val noEnt) d) j=noEnt)(hc:Chg N1 (upd T e (setT (T e) jo.val noEnt)) N d (setT (upd T e (setT (T e) jo.val noEnt) d) j ⟨x,i⟩)):
 ∃T',Sim N T' D {S with E:=Pz.take S.E (φ e) o++[⟨φ d,x,φ i⟩]} φ:=by
 have hfe:=find_ent h.rel.tree e1 e2 hke hfo;rw[heo]at hfe;obtain⟨i1,i2,hi0,-⟩:=hfe;have hE:=dirE_of hfo heo;have r1:=h.rel.take e1 e2 hke hfo hco;have c1:=h.cnt.take h.rel.hold e1 e2 hke hfo hco;have hk1:(N1.ino d).k=2:=by rw[hco.kindAll];exact hk
 have r2:=r1.put d1 d2 hk1 hj he hx hf i1 (by rw[hco.kindAll];exact hi0) hc;have c2:=c1.put r1.hold d1 d2 hk1 hj he hx hc;refine⟨_,r2,c2.cast fun q=> ?_,h.ofd.map rfl fun _ _ _ _ _=>rfl⟩;try dsimp only
 rw[hE];omega
def dropN(D:Nat→Nat→Nat)(k n:Nat):Nat→Nat→Nat:=fun a b=>if a=k∧D a b≤n then 0 else D a b
theorem Cnt.congD(h:Cnt M T D δ)(e:∀a b,a<8→b<8→D a b=D' a b):Cnt M T D' δ:=by
 have hc:∀a i,a<8→cntD D' a i=cntD D a i:=fun a i ha=>by
  unfold cntD;congr 1
  refine List.filter_congr fun b hb=> ?_;rw[e a b ha (List.mem_range.1 hb)]
 refine⟨h.links,h.alive,fun i i1 i2 hk k hkk=> ?_,fun k fd hkk hfd h0=> ?_⟩
 ·rw[hc k i hkk];exact h.opn i i1 i2 hk k hkk
 ·rw[←e k fd hkk hfd]at h0⊢;exact h.fds k fd hkk hfd h0
theorem dropN_start(h:Cnt M T D δ)(k:Nat):Cnt M T (dropN D k 0) δ:=h.congD fun a b _ _=>by
 unfold dropN;split
 ·rename_i e
  omega
 ·rfl
theorem other_opn{x:Ino}(hsh:x.Shape)(h:mayI x=true)(hk:x.k≠1){k:Nat}{o:Int}(ho:x.O[k]? =some o):o=0:=by
 rcases kinds h with e|e|e
 ·unfold mayI at h;rw[if_pos e]at h;simp only[Bool.and_eq_true,List.all_eq_true,beq_iff_eq]at h;exact h.2 o (List.mem_of_getElem? ho)
 ·exact absurd e hk
 ·obtain⟨-,-,h3,-⟩:=dir_facts e h;unfold opnB at h3;have:=List.all_eq_true.1 h3 o (List.mem_of_getElem? ho)
  simp only[Bool.and_eq_true,decide_eq_true_eq]at this;omega
theorem drop_skip{k n:Nat}(hr:Rel M T S φ)(hc:Cnt M T (dropN D k n) fun _=>0)(hk:k<8)(hn:n+1≤32)(ho:(M.ino (n+1)).O[k]? =some 0):Cnt M T (dropN D k (n+1)) (fun _=>0)∧∀b,b<8→D k b≠n+1:=by
 have hno:∀b,b<8→D k b≠n+1:=fun b hb e=>by
  have h1:dropN D k n k b=n+1:=by
   unfold dropN;rw[if_neg (by omega),e]
  have h2:=(hc.fds k b hk hb (by rw[h1];omega)).2.2;rw[h1]at h2;have h3:=hc.opn (n+1) (by omega) hn h2 k hk;rw[ho]at h3;have h4:=cntD_pos hb h1;have:=Option.some.inj h3
  omega
 refine⟨hc.congD fun a b ha hb=> ?_,hno⟩;unfold dropN;by_cases e:a=k∧D a b≤n
 ·rw[if_pos e,if_pos ⟨e.1,by omega⟩]
 ·rw[if_neg e,if_neg fun e2=> ?_];have:=e2.1
  subst this;exact hno b hb (by have:=e2.2;have:¬D a b≤n:=fun e3=>e ⟨rfl,e3⟩;omega)
theorem drop_one{k n:Nat}{o:Int}(hr:Rel M T S φ)(hc:Cnt M T (dropN D k n) fun _=>0)(hk:k<8)(hn:n+1≤32)(ho:(M.ino (n+1)).O[k]? =some o)(h0:o≠0):
 (mayI ((M.ino (n+1)).setO k 0)=true∧(M.ino (n+1)).B=[0,0,0,0]∧0≤(M.ino (n+1)).l∧∀m∈((M.ino (n+1)).setO k 0).O,0≤m∧m≤8)∧Rel (keepV M (n+1) ((M.ino (n+1)).setO k 0)) T S φ∧Cnt (keepV M (n+1) ((M.ino (n+1)).setO k 0)) T (dropN D k (n+1)) (fun _=>0)∧∃b,b<8∧D k b=n+1:=by
 obtain⟨hsh,hmy⟩:=hr.hold.may (n+1) (by omega) hn;have hk1:(M.ino (n+1)).k=1:=by
  by_cases e:(M.ino (n+1)).k=1
  ·exact e
  ·exact absurd (other_opn hsh hmy e ho) h0
 obtain⟨fB,fs⟩:=hr.hold.file (n+1) (by omega) hn hk1;have hll:=file_links hk1 hmy;have hO:=hc.opn (n+1) (by omega) hn hk1;have hpos:cntD (dropN D k n) k (n+1)≠0:=fun e=>by
  rw[hO k hk,e]at ho;exact h0 (Option.some.inj ho).symm
 have hex:∃b,b<8∧dropN D k n k b=n+1:=by
  unfold cntD at hpos;rw[Ne,List.length_eq_zero_iff,List.filter_eq_nil_iff]at hpos;simp only[List.mem_range,decide_eq_true_eq,Classical.not_forall,Classical.not_not]at hpos;obtain⟨b,hb,e⟩:=hpos;exact⟨b,hb,e⟩
 have hsh2:=Ino.setO_shape hsh k 0;have hop:∀m∈((M.ino (n+1)).setO k 0).O,0≤m∧m≤8:=fun m hm=>by
  rcases List.mem_or_eq_of_mem_set (show m∈(M.ino (n+1)).O.set k 0 from hm)with hm|rfl
  ·exact file_opn hk1 hmy m hm
  ·omega
 have hm2:mayI ((M.ino (n+1)).setO k 0)=true:=file_may' hk1 hll fB fs hop;have hlk:(M.ino (n+1)).l=0→lk M T (n+1)=0:=fun e=>by
  have:=hc.links (n+1) (by omega) hn
  unfold wantL at this;rw[hk1,if_neg (by decide),if_neg (by decide),e]at this;omega
 have hdn:∀a b,dropN D k (n+1) a b=if a=k∧dropN D k n a b=n+1 then 0 else dropN D k n a b:=fun a b=>by
  unfold dropN;by_cases e:a=k∧D a b≤n
  ·rw[if_pos (show a=k∧D a b≤n+1 from⟨e.1,by omega⟩),if_pos e];split<;>rfl
  ·rw[if_neg e];by_cases e2:a=k∧D a b=n+1
   ·rw[if_pos (show a=k∧D a b≤n+1 from⟨e2.1,by omega⟩),if_pos e2]
   ·rw[if_neg e2,if_neg fun e3=> ?_];have h5:¬D a b≤n:=fun e4=>e ⟨e3.1,e4⟩;have h6:D a b≠n+1:=fun e4=>e2 ⟨e3.1,e4⟩;omega
 have ho2:∀a,a<8→((M.ino (n+1)).setO k 0).O[a]? =some (cntD (dropN D k (n+1)) a (n+1):Int):=fun a ha=>by
  show((M.ino (n+1)).O.set k 0)[a]? =_
  by_cases e:a=k
  ·subst e;rw[List.getElem?_set_self (by rw[hsh.2];exact ha),cntD_zero (D:=dropN D a (n+1)) (i:=n+1) fun b hb e2=> ?_]
   ·rfl
   ·rw[hdn]at e2;split at e2
    ·omega
    ·rename_i h5
     exact h5 ⟨rfl,e2⟩
  ·rw[List.getElem?_set_ne (fun e2=>e e2.symm),hO a ha];congr 2
   unfold cntD;congr 1
   refine List.filter_congr fun b hb=> ?_;rw[hdn,if_neg (fun e2=>e e2.1)]
 refine⟨⟨hm2,fB,hll.1,hop⟩,?_,(hc.keep (y:=(M.ino (n+1)).setO k 0) (D':=dropN D k (n+1)) (by omega) hn hk1 hsh2 hk1 fB hll.1 ho2 (fun a ha ha0 b hb=> ?_) fun a b ha hb h3=> ?_).cast fun q=> ?_,?_⟩
 ·have h1:=hr.keep (y:=(M.ino (n+1)).setO k 0) (by omega) hn hk1 hsh2 hm2 hk1 fB fs hlk hll.1;have h2:=hr.file (n+1) (by omega) hn hk1;obtain⟨h3,h4⟩:=List.getElem?_eq_some_iff.1 h2;have e:(S.N.set (φ (n+1)) ⟨false,[],((M.ino (n+1)).setO k 0).l⟩)=S.N:=by
   show S.N.set (φ (n+1)) ⟨false,[],(M.ino (n+1)).l⟩=S.N
   rw[←h4,List.set_getElem_self]
  rw[e]at h1;exact h1
 ·unfold cntD;congr 1
  refine List.filter_congr fun c hcc=> ?_;rw[hdn];by_cases e:b=k∧dropN D k n b c=n+1
  ·rw[if_pos e,e.2,decide_eq_false (show ¬0=a by omega),decide_eq_false (show ¬n+1=a from fun e2=>ha e2.symm)]
  ·rw[if_neg e]
 ·rw[hdn]at h3⊢;split at h3
  ·exact absurd rfl h3
  ·rename_i h5
   rw[if_neg h5];exact Or.inr rfl
 ·try dsimp only
  split
  ·show(0:Int)-((M.ino (n+1)).l-(M.ino (n+1)).l)=0
   omega
  ·rfl
 ·obtain⟨b,hb,e⟩:=hex;refine⟨b,hb,?_⟩;unfold dropN at e;split at e
  ·omega
  ·exact e
def dropD(D:Nat→Nat→Nat)(k:Nat):Nat→Nat→Nat:=fun a b=>if a=k then 0 else D a b
theorem Sim.drop(h:Sim M T D S φ){k:Nat}(hk:k<8)(hr:Rel N T S φ)(hc:Cnt N T (dropN D k 32) fun _=>0):Sim N T (dropD D k) {S with O:=Pz.drop S.O ((k:Int)+1)} φ:=by
 refine⟨hr.opens _,hc.congD fun a b ha hb=> ?_,fun a ha fd=> ?_⟩
 ·unfold dropN dropD;by_cases e:a=k
  ·rw[if_pos e];by_cases e2:D a b=0
   ·rw[if_pos ⟨e,by omega⟩]
   ·rw[if_pos ⟨e,(h.cnt.fds a b ha hb e2).2.1⟩]
  ·rw[if_neg e,if_neg (fun e2=>e e2.1)]
 ·show Pz.ofd (Pz.drop S.O ((k:Int)+1)) ((a:Int)+1) fd=_
  rw[Pz.ofd_drop,h.ofd a ha fd];unfold dropD;by_cases e:a=k
  ·rw[if_pos (by omega),if_pos e,if_neg (fun e2=>e2.2.2 rfl)]
  ·rw[if_neg (by omega),if_neg e]
end
end Gd
end
section
open Go.Shelf
attribute [local go_sem] Oper.semAt_some
theorem Zn[zg]{x t c K d a:Nat}{S:List UInt8}{M:Gd.Vol}{F:Nat→Prop}(T:Gd.Tab)(more spare:Int)(w:World)(h:zy x t S M c K w F)(h1:1≤d)(h2:d≤32)(ha:a<16)(hT:Gd.TabOk T)(hu:Gd.usedT T (a/4)=true)(hB:(M.ino d).B[a/4]? =some 0)(hsp:128-(Gd.countB M.map:Int)≤max 0 spare):
 Calls prog 149 #[.pointer (some ⟨x,0,none⟩),.int .i64 d,.int .i64 a,zW T,.int .i64 more,.int .i64 spare] w fun e w'=>e= .returned (.int .i64 18)∧zt x t S M c K F w w':=by
 obtain⟨k,hk⟩:=nm (a/4);have hq:=VO a;rw[←hk]at hq hu hB;have hk4:k<4:=by omega
 have hsh:(M.ino d).Shape:=by
  obtain⟨P,h3,h4⟩:=h;exact h4.shape d h1 h2
 have HTs:=hid (zF hT.len);obtain⟨hb0,hr0⟩:=zI w (zk T) 77;obtain⟨tb,htb⟩:=nm w.heap.size;obtain⟨w0,hw0⟩:=nm (w.alloc (.cells (zk T) 77));rw[←hw0,←htb]at hr0;rw[←hw0]at hb0;have HL0:=hid ((Tl.start h).new hb0 (k:=tb) (by omega) hr0);have HIn:=hid (zZ (d:Int) w0 (h.below hb0) (by omega) (by omega));rw[Int.toNat_natCast]at HIn;have HBk:=hid fun W F1 (h3:zy x t S M c K W F1)=>Qn spare W h3 hsp;have HUs:=hid fun W=>xG T hT.len k hk4 W;rw[hu]at HUs;obtain⟨x0,hx0⟩:=nm (M.ino d);rw[←hx0]at hsh hB HIn;have HS:=hid (zm hsh);have HX:=hid hsh;have HB0:=hid hB;have Htb:=hid htb.symm;have HW0:=hid hw0.symm;have g4:(k:Int)<4:=by omega
 have g0:(0:Int)≤k:=by omega
 have ga:(0:Int)≤a:=by omega
 have Hq:=hid hq;clear hk hq hB hsh htb hw0 hr0 hb0 h h1 h2 hT hu hx0 hsp;unfold zv zW at*;go_enter func149,ntmps149;go_upto_region 1 with fail
 rw[HW0.o,Htb.o];go_upto_region 2 with(first|(go_at_call 17;refine HIn.o.mono ?_;rintro e w2 ⟨rfl,hb2⟩;have HL2:=hid (HL0.o.below hb2);clear hb2)|(rw[←zA];refine wpList_store_mid rfl 48 _ _ rfl w2.heap.size 0 (zf x0) rfl rfl (zd (heap_alloc_new _ _) (by rw[zc,HS.o])) (by rw[HS.o];exact sizeIno) (zr _) ?_;obtain⟨hbw,hbg⟩:=zi w2 zU 48 (zf x0).toList (by rw[zc,Array.length_toList,HS.o]);generalize (World.setCells _ _ _ _)=w3 at hbw hbg⊢;have HL3:=hid (HL2.o.new hbw (Nat.le_refl _) (o:= .cells (zf x0) 48 (0,0)) hbg);clear hbw hbg))
 obtain⟨ib,hib⟩:=nm w2.heap.size;rw[←hib]at HL3⊢;clear hib;have HTr3:=hid (HL3.o.get (k:=tb) (o:= .cells (zk T) 77 (0,0)) (by simp));go_upto_region 5 with fail
 rw[Hq.o];go_upto_region 8 with(first|(refine wpList_load_row rfl 77 _ rfl tb rfl 77 (zk T) (0,0) _ HTr3.o underlying77 rfl (by rw[HTs.o];exact sizeTab) ?_)|(go_at_call 174;refine(HUs.o w3).mono ?_;rintro e w4 ⟨rfl,hb4⟩;have HL4:=hid (HL3.o.below hb4);clear hb4))
 have hI4:zp w4 ib x0:=⟨HL4.o.get (k:=ib) (by simp),HX.o⟩;obtain⟨b0,-⟩:=hI4.cB HB0.o;clear hI4;go_upto_region 9 with fail
 obtain⟨F4,h4s,h4l⟩:=HL4.o;have HBc:=hid (HBk.o w4 F4 h4s.inv);clear h4s h4l b0;go_wp2_with fail
 refine HBc.o.mono ?_;rintro e w5 ⟨rfl,hb5⟩;have HL5:=hid (HL4.o.below hb5);clear hb5 HBc;have hI5:zp w5 ib x0:=⟨HL5.o.get (k:=ib) (by simp),HX.o⟩;obtain⟨b0,b1⟩:=hI5.cB HB0.o;clear hI5;go_wp2;go_ret
 refine⟨rfl,?_⟩;exact(HL5.o.set (k:=ib) (j:=3+k) (C:=zf x0) (ty:=48) (v:= .int .i64 0) (by simp) [] (fun p hp=>by cases hp)).turns
theorem YF[zg]{x t c K d:Nat}{S:List UInt8}{M:Gd.Vol}{T:Gd.Tab}{F:Nat→Prop}(s:List UInt8)(i:Nat)(spare:Int)(w:World)(h:zy x t S M c K w F)(hD:Gd.DirOf M d T)(hs:s.length≤1000)(hj:Gd.placeT T (Gd.hN s)=none):
 Calls prog 104 #[.pointer (some ⟨x,0,none⟩),.int .i64 d,.string ⟨s.toArray⟩,.int .i64 i,.int .i64 spare] w fun e w'=>e= .returned (.int .i64 18)∧Below w.heap.size w w':=by
 have HTb:=hid (jw w h hD);have HTs:=hid (zF hD.ok.len);have HPl:=hid fun W=>vh T hD.ok ⟨s.toArray⟩ (by rw[Lib.size_eq];show s.length≤_;omega) (Gd.hN s) rfl W;rw[hj]at HPl;have hnk:vG none= -1:=rfl;rw[hnk]at HPl;obtain⟨sb,hsb⟩:∃sb:ByteArray,sb=⟨s.toArray⟩:=⟨_,rfl⟩;rw[←hsb]at HPl⊢;clear h hD hs hj hnk hsb;unfold zW at*;go_enter func104,ntmps104
 go_upto_region 2 with(first|(go_at_call 28;refine HTb.o.mono ?_;rintro e w2 ⟨rfl,hb2⟩;have HB2:=hid hb2;clear hb2)|(rw[←qh];refine wpList_store_mid rfl 77 _ _ rfl w2.heap.size 0 (zk T) rfl rfl (zd (heap_alloc_new _ _) (by rw[zn,HTs.o])) (by rw[HTs.o];exact sizeTab) (zQ _) ?_;obtain⟨hbw,hbg⟩:=zi w2 (zk Gd.noTab) 77 (zk T).toList (by rw[zn,Array.length_toList,HTs.o]);generalize (World.setCells _ _ _ _)=w3 at hbw hbg⊢;have HN3:Hid (w3.heap[w2.heap.size]? =some (.cells (zk T) 77 (0,0))):=hid hbg;have HB3:=HB2.t hbw;clear hbw hbg))
 go_wp2_with(first|(refine wpList_load_row rfl 77 _ rfl w2.heap.size rfl 77 (zk T) (0,0) _ HN3.o underlying77 rfl (by rw[HTs.o];exact sizeTab) ?_)|(go_at_call 148;refine(HPl.o w3).mono ?_;rintro e w4 ⟨rfl,hb4⟩;have HB4:=HB3.t hb4;clear hb4))
 go_ret
 exact⟨rfl,HB4.o⟩
theorem X1[zg]{x t c K:Nat}{S:List UInt8}{M:Gd.Vol}{F:Nat→Prop}(w:World)(h:zy x t S M c K w F)(hl:∀i,1≤i→i≤32→(M.ino i).k≠0):
 Calls prog 141 #[.pointer (some ⟨x,0,none⟩)] w fun e w'=>e= .returned (.tuple #[.int .i64 0,.int .i64 18])∧Below w.heap.size w w':=by
 have H:=hid h;have HL:=hid hl;clear h hl;go_enter func141,ntmps141;go_upto_region 2 with fail
 go_loopw[7] (fun z wr=>∃i:Nat,z= .int .i64 i∧i≤32∧Hid (Below w.heap.size w wr)) (fun z _=>32-(intOf z).toNat)
 case atStart=>exact⟨0,rfl,by omega,hid (Below.refl _ _)⟩
 case round=>
  obtain⟨i,rfl,hi,HB⟩:=hrel;by_cases hlt:i<32
  ·have hi1:(i:Int)<32:=by omega
   have hi0:(0:Int)≤i:=by omega
   have HIn:=hid (zZ ((i:Int)+1) wr (H.o.below HB.o) (by omega) (by omega));have HS:Hid ((zf (M.ino (i+1))).size=15):=hid (by
    obtain⟨P,h3,h4⟩:=H.o;exact jO h4 (by omega) (by omega))
   rw[show((i:Int)+1).toNat=i+1 by omega]at HIn;obtain⟨y,hy⟩:=nm (M.ino (i+1));rw[←hy]at HIn HS;have Hy:=hid hy;unfold zv at HIn;clear hy;go_upto_region 5 with(first|(go_at_call 17;refine HIn.o.mono ?_;rintro e w2 ⟨rfl,hb2⟩;have HB2:=HB.t hb2;clear hb2)|(rw[←zA];refine wpList_store_mid rfl 48 _ _ rfl w2.heap.size 0 (zf y) rfl rfl (zd (heap_alloc_new _ _) (by rw[zc,HS.o])) (by rw[HS.o];exact sizeIno) (zr _) ?_;obtain⟨hbw,hbg⟩:=zi w2 zU 48 (zf y).toList (by rw[zc,Array.length_toList,HS.o]);generalize (World.setCells _ _ _ _)=w3 at hbw hbg⊢;have HN3:Hid (w3.heap[w2.heap.size]? =some (.cells (zf y) 48 (0,0))):=hid hbg;have HB3:=HB2.t hbw;clear hbw hbg))
   have n0:w3.cell? ⟨w2.heap.size,0,none⟩=some (.int .i64 y.k):=(cell_of_row w3 w2.heap.size 0 _ _ _ HN3.o).trans (jR rfl);have hk0:y.k≠0:=by rw[Hy.o];exact HL.o (i+1) (by omega) (by omega)
   obtain⟨k,hkk⟩:=nm y.k;rw[←hkk]at n0 hk0;have hi2:i+1≤32:=by omega
   clear hkk hi hlt;go_wp2;go_roundw
   case rel=>exact⟨i+1,by go_num,by omega,HB3⟩
   case measure=>simp[intOf];omega
  ·obtain rfl:i=32:=by omega
   clear hlt hi;go_wp2_with fail
   go_ret2
   exact⟨rfl,HB.o⟩
theorem XP[zg]{x t c K d:Nat}{S:List UInt8}{M:Gd.Vol}{F:Nat→Prop}(s:ByteArray)(y:Gd.Ino)(spare:Int)(w:World)(h:zy x t S M c K w F)(hl:∀i,1≤i→i≤32→(M.ino i).k≠0):
 Calls prog 91 #[.pointer (some ⟨x,0,none⟩),.int .i64 d,.string s,zv y,.int .i64 spare] w fun e w'=>e= .returned (.tuple #[.int .i64 0,.int .i64 18])∧Below w.heap.size w w':=by
 obtain⟨hb0,hr0⟩:=zI w (zf y) 48;obtain⟨w0,hw0⟩:=nm (w.alloc (.cells (zf y) 48));rw[←hw0]at hb0;have HFr:=hid (X1 w0 (h.below hb0) hl);have HB0:=hid hb0;have HW0:=hid hw0.symm;clear h hl hb0 hr0 hw0;unfold zv at*;go_enter func91,ntmps91;go_upto_region 1 with fail
 rw[HW0.o];go_wp2_with(go_at_call 141;refine HFr.o.mono ?_;rintro e w2 ⟨rfl,hb2⟩;have HB2:=HB0.t hb2;clear hb2)
 go_ret2
 exact⟨rfl,HB2.o⟩
theorem Y0[zg]{x t c K d:Nat}{S:List UInt8}{M:Gd.Vol}{F:Nat→Prop}(s:ByteArray)(f:Nat)(y:Gd.Ino)(spare:Int)(w:World)(R:Int→World→Prop)(h:zy x t S M c K w F)(hy:y.Shape)(hm:Gd.mayI y=true)(f1:1≤f)(f2:f≤32)(hk:(M.ino f).k=0)(hl:∀i,1≤i→i<f→(M.ino i).k≠0)(hc:c<64)
 (hP:∀W,zt x t S (M.setIno f y) (c+1) K F w W→Calls prog 104 #[.pointer (some ⟨x,0,none⟩),.int .i64 d,.string s,.int .i64 f,.int .i64 spare] W fun e w'=>∃r:Int,e= .returned (.int .i64 r)∧R r w'):
 Calls prog 91 #[.pointer (some ⟨x,0,none⟩),.int .i64 d,.string s,zv y,.int .i64 spare] w fun e w'=>∃r:Int,e= .returned (.tuple #[.int .i64 (if r=0 then(f:Int)else 0),.int .i64 r])∧R r w':=by
 obtain⟨hb0,hr0⟩:=zI w (zf y) 48;obtain⟨yb,hyb⟩:=nm w.heap.size;obtain⟨w0,hw0⟩:=nm (w.alloc (.cells (zf y) 48));rw[←hw0,←hyb]at hr0;rw[←hw0]at hb0;have HL0:=hid ((Tl.start h).new hb0 (k:=yb) (by omega) hr0);have HFr:=hid (QL f w0 (h.below hb0) f1 f2 hk hl);have HSi:=hid fun W F1 (h3:zy x t S M c K W F1)=>jI (f:Int) y hy hm W h3 (by omega) (by omega) hc;rw[Int.toNat_natCast]at HSi;have HP:=hid hP;have HS:=hid (zm hy);obtain⟨g,hg⟩:∃g:Int→Int,∀r,g r=if r=0 then(f:Int)else 0:=⟨_,fun _=>rfl⟩
 have Hg:=hid hg;have HTo:=hid fun(r:Int) W=>qv (f:Int) r W;simp only[←hg]at HTo;clear hg;have Hyb:=hid hyb.symm;have HW0:=hid hw0.symm;clear h hy hm f1 f2 hk hl hc hP hb0 hr0 hyb hw0;unfold zv at*;go_enter func91,ntmps91;go_upto_region 1 with fail
 rw[HW0.o,Hyb.o];go_upto_region 4 with(go_at_call 141;refine HFr.o.mono ?_;rintro e w2 ⟨rfl,hb2⟩;have HL2:=hid (HL0.o.below hb2);clear hb2)
 have HIr:=hid (HL2.o.get (k:=yb) (o:= .cells (zf y) 48 (0,0)) (by simp));obtain⟨F2,h2s,h2l⟩:=HL2.o;have HSc:=hid (HSi.o w2 F2 h2s.inv);have HNx:=hid fun b N d (h:zt x t S N d K F2 w2 b)=>Tl.next h2s h2l h;clear h2s h2l;go_upto_region 7 with(first|(refine wpList_load_row rfl 48 _ rfl yb rfl 48 (zf y) (0,0) _ HIr.o underlying48 rfl (by rw[HS.o];exact sizeIno) ?_)|(go_at_call 74;refine HSc.o.mono ?_;rintro e w3 ⟨rfl,ht3⟩;have HL3:=hid (HNx.o _ _ _ ht3);clear ht3))
 have HPc:=hid (HP.o w3 HL3.o.turns);go_wp2_with(first|(go_at_call 104;refine HPc.o.mono ?_;rintro e w4 ⟨r,rfl,hr4⟩)|(go_at_call 92;refine(HTo.o r w4).mono ?_;rintro e w5 ⟨rfl,rfl⟩))
 go_ret2
 refine⟨r,?_,hr4⟩;rw[←Hg.o r];rfl
end
section
open Go.Shelf
theorem zt.more[zg]{x t c d K:Nat}{S:List UInt8}{M:Gd.Vol}{F:Nat→Prop}{a b:World}(h:zt x t S M c K F a b)(hc:c≤d):zt x t S M d K F a b:=by
 obtain⟨F',h⟩:=h;exact⟨F',h.mono fun hi=>hi.more hc (Nat.le_refl _)⟩
theorem zt.keep[zg]{x t c K:Nat}{S:List UInt8}{M:Gd.Vol}{F:Nat→Prop}{a b:World}(h:zy x t S M c K a F)(hb:Below a.heap.size a b):zt x t S M c K F a b:=by
 have h1:zt x t S M c K F a a:=⟨F,jB.refl h⟩;exact h1.ahead hb
namespace Gd
theorem nameB_ok{s:List UInt8}(h:Np.nameB s=true):s≠[]∧s.length≤12:=by
 refine⟨Np.name_ne h,?_⟩;unfold Np.nameB at h;simp only[Bool.and_eq_true,decide_eq_true_eq]at h;omega
theorem setIno_atB(M:Vol)(d:Nat)(y:Ino):(M.setIno d y).ino d=y:=if_pos rfl
theorem DirOf.cases{M:Vol}{d:Nat}{X:Tab}(h:DirOf M d X){k:Nat}(hk:k<4):(M.ino d).B[k]? =some 0∨∃n:Nat,(M.ino d).B[k]? =some (n:Int)∧1≤n∧n≤128:=by
 obtain⟨n,h1,h2⟩:=h.blk k hk;rcases h2 with⟨h2,_⟩|⟨h2,h3,_⟩
 ·exact Or.inl (by rw[h1,h2];rfl)
 ·exact Or.inr ⟨n,h1,h2,h3⟩
theorem Hold.named_put{M:Vol}{T:Nat→Tab}{d j i:Nat}{s:List UInt8}(h:Hold M T)(d1:1≤d)(d2:d≤32)(hk:(M.ino d).k=2)(hj:j<16)(he:entAt (T d) j=noEnt)(hs:s≠[]):(M.ino d).s+1=(namedT (setT (T d) j ⟨s,i⟩) 16:Nat):=by
 have:=namedT_set (h.dir d d1 d2 hk).ok.len hj ⟨s,i⟩
 rw[he,if_neg (fun e=>e rfl),if_pos hs]at this;rw[h.size d d1 d2 hk];omega
theorem Hold.named_take{M:Vol}{T:Nat→Tab}{d j:Nat}(h:Hold M T)(d1:1≤d)(d2:d≤32)(hk:(M.ino d).k=2)(hj:j<16)(he:(entAt (T d) j).s≠[]):(M.ino d).s+(-1)=(namedT (setT (T d) j noEnt) 16:Nat):=by
 have:=namedT_set (h.dir d d1 d2 hk).ok.len hj noEnt
 rw[if_pos he,if_neg (fun e=>e rfl)]at this;rw[h.size d d1 d2 hk];omega
end Gd
structure UF[zg](x t c K:Nat)(S:List UInt8)(M:Gd.Vol)(T:Nat→Gd.Tab)(d:Nat)(s:List UInt8)(i:Nat)(F:Nat→Prop)(w w':World)(N:Gd.Vol)(j:Nat):Prop where
 lt:j<16
 no:Gd.entAt (T d) j=Gd.noEnt
 turns:zt x t S N c K F w w'
 chg:Gd.Chg M T N d (Gd.setT (T d) j ⟨s,i⟩)
def UG[zg](x t c K:Nat)(S:List UInt8)(M:Gd.Vol)(T:Nat→Gd.Tab)(d:Nat)(s:List UInt8)(i:Nat)(spare:Int)(F:Nat→Prop)(w:World)(e:Ending)(w':World):Prop:=
 (e= .returned (.int .i64 0)∧∃N j,UF x t (c+4) K S M T d s i F w w' N j)∨(e= .returned (.int .i64 18)∧(Gd.namedT (T d) 16=16∨128-(Gd.countB M.map:Int)≤max 0 spare)∧zt x t S M c K F w w')
theorem Zd[zg]{x t c K d:Nat}{S:List UInt8}{M:Gd.Vol}{T:Nat→Gd.Tab}{F:Nat→Prop}(s:List UInt8)(i:Nat)(spare:Int)(w:World)(h:zy x t S M c K w F)(hH:Gd.Hold M T)(d1:1≤d)(d2:d≤32)(hk:(M.ino d).k=2)(hs:Np.nameB s=true)(i1:1≤i)(i2:i≤32)(hf:Gd.findT (T d) s (Gd.hN s)=none)(hc:c+10<64):
 Calls prog 104 #[.pointer (some ⟨x,0,none⟩),.int .i64 d,.string ⟨s.toArray⟩,.int .i64 i,.int .i64 spare] w (UG x t c K S M T d s i spare F w):=by
 have hD:=hH.dir d d1 d2 hk;have hu:=hH.uniq d d1 d2 hk;obtain⟨hne,hl12⟩:=Gd.nameB_ok hs
 cases hp:Gd.placeT (T d) (Gd.hN s)with
 |none=>
  refine(YF s i spare w h hD (by omega) hp).mono ?_
  rintro e w' ⟨rfl,hb⟩;exact Or.inr ⟨rfl,Or.inl (Gd.named_full hD.ok hp 16 (Nat.le_refl _)),zt.keep h hb⟩
 |some j=>
  have he:=Gd.place_some hp;have hm:(⟨s,i⟩:Gd.Ent).May:=Or.inr ⟨hs,i1,i2⟩;have hno:(⟨s,i⟩:Gd.Ent)≠Gd.noEnt:=fun e=>hne (congrArg Gd.Ent.s e);have hj:=j.isLt;have hj4:j.val/4<4:=by omega
  have huX:=hu.put hD.ok (i:=i) hj (fun k hk=>Gd.find_none hf hne k hk);have hused:=Gd.usedT_set hD.ok.len hj hno;have hsm:=hH.named_put (i:=i) d1 d2 hk hj he hne;have hle:=Gd.namedT_le (Gd.setT (T d) j.val ⟨s,i⟩) 16;have hOk:=hD.ok.set (j:=j.val) hm;rcases hD.cases hj4 with hB|⟨n,hB,n1,n2⟩
  ·by_cases hsp:max 0 spare<128-(Gd.countB M.map:Int)
   ·have hch:=hH.chg_new d1 d2 hk hj hm huX hsm hused hB (by omega);have hmay:=(hch.hold.may d d1 d2).2;rw[Gd.setIno_atB]at hmay;refine(vz s i spare 0 j w (fun w'=>∃N,zt x t S N (c+4) K F w w'∧Gd.Chg M T N d (Gd.setT (T d) j.val ⟨s,i⟩)) h hD (by omega) hp fun W hW=> ?_).mono ?_
    ·refine(xX (Gd.setT (T d) j.val ⟨s,i⟩) 1 spare W (h.below hW) d1 d2 hj hOk hused hB hsp hmay (by omega) hc).mono ?_
     rintro e w' ⟨he',ht⟩;exact⟨he',_,ht.behind hW,hch⟩
    ·rintro e w' ⟨he',N,ht,hch'⟩;exact Or.inl ⟨he',N,j.val,hj,he,ht,hch'⟩
   ·refine(vz s i spare 18 j w (fun w'=>zt x t S M c K F w w') h hD (by omega) hp fun W hW=> ?_).mono ?_
    ·refine(Zn (Gd.setT (T d) j.val ⟨s,i⟩) 1 spare W (h.below hW) d1 d2 hj hOk hused hB (by omega)).mono ?_
     rintro e w' ⟨he',ht⟩;exact⟨he',ht.behind hW⟩
    ·rintro e w' ⟨he',ht⟩;exact Or.inr ⟨he',Or.inr (by omega),ht⟩
  ·have hch:=hH.chg_over d1 d2 hk hj hm huX hsm hused hB n1 n2;have hmay:=(hch.hold.may d d1 d2).2;rw[Gd.setIno_atB]at hmay;refine(vz s i spare 0 j w (fun w'=>∃N,zt x t S N (c+4) K F w w'∧Gd.Chg M T N d (Gd.setT (T d) j.val ⟨s,i⟩)) h hD (by omega) hp fun W hW=> ?_).mono ?_
   ·refine(yX n (Gd.setT (T d) j.val ⟨s,i⟩) 1 spare W (h.below hW) d1 d2 hj hOk hused hB n1 n2 hmay (by omega) hc).mono ?_
    rintro e w' ⟨he',ht⟩;exact⟨he',_,(ht.behind hW).more (by omega),hch⟩
   ·rintro e w' ⟨he',N,ht,hch'⟩;exact Or.inl ⟨he',N,j.val,hj,he,ht,hch'⟩
structure vg[zg](x t c K:Nat)(S:List UInt8)(M:Gd.Vol)(T:Nat→Gd.Tab)(d:Nat)(j:Nat)(F:Nat→Prop)(w w':World)(N:Gd.Vol):Prop where
 turns:zt x t S N c K F w w'
 chg:Gd.Chg M T N d (Gd.setT (T d) j Gd.noEnt)
 count:Gd.countB N.map≤Gd.countB M.map
theorem Gd.count_giveI{M:Gd.Vol}{T:Nat→Gd.Tab}{d k:Nat}{n:Int}(h:Gd.Hold M T)(d1:1≤d)(d2:d≤32)(hB:(M.ino d).B[k]? =some n):Gd.countB (Gd.giveI M.map n)≤Gd.countB M.map:=by
 unfold Gd.giveI Gd.isBlk;by_cases hb:1≤n∧n≤128
 ·rw[if_pos (by simpa using hb)];have hu:Gd.usedB M.map n.toNat=true:=(h.sound.used n.toNat (by omega) (by omega)).2 ⟨d,k,d1,d2,by rw[hB];congr 1;omega⟩;have:=Gd.count_give h.sound.mapl (n:=n.toNat) (by omega) (by omega) hu
  omega
 ·rw[if_neg (by simpa using hb)];exact Nat.le_refl _
theorem vi[zg]{x t c K d:Nat}{S:List UInt8}{M:Gd.Vol}{T:Nat→Gd.Tab}{F:Nat→Prop}(s:List UInt8)(j:Fin 16)(w:World)(h:zy x t S M c K w F)(hH:Gd.Hold M T)(d1:1≤d)(d2:d≤32)(hk:(M.ino d).k=2)(hs:s.length≤1000)(hf:Gd.findT (T d) s (Gd.hN s)=some j)(hc:c+10<64):
 Calls prog 107 #[.pointer (some ⟨x,0,none⟩),.int .i64 d,.string ⟨s.toArray⟩] w fun e w'=>e= .returned (.int .i64 0)∧∃N,vg x t (c+4) K S M T d j.val F w w' N:=by
 have hD:=hH.dir d d1 d2 hk;have hu:=hH.uniq d d1 d2 hk;obtain⟨he,hne⟩:=Gd.find_some hf;have hj:=j.isLt;have hj4:j.val/4<4:=by omega
 have hm:Gd.noEnt.May:=Or.inl rfl;have huX:=hu.take hD.ok hj;have hsm:=hH.named_take d1 d2 hk hj (by rw[he];exact hne);have hle:=Gd.namedT_le (Gd.setT (T d) j.val Gd.noEnt) 16;have hOk:=hD.ok.set (j:=j.val) hm;refine Qx s 0 j w (fun w'=>∃N,vg x t (c+4) K S M T d j.val F w w' N) h hD hs hne hf fun W hW=> ?_
 cases hused:Gd.usedT (Gd.setT (T d) j.val Gd.noEnt) (j.val/4)with
 |false=>
  obtain⟨n,hB⟩:∃n,(M.ino d).B[j.val/4]? =some n:=by
   obtain⟨n,hB,_⟩:=hD.blk _ hj4;exact⟨_,hB⟩
  have hch:=hH.chg_give d1 d2 hk hj hm huX hsm hused hB;have hmay:=(hch.hold.may d d1 d2).2;rw[Gd.setIno_atB]at hmay;refine(yY n (Gd.setT (T d) j.val Gd.noEnt) (-1) 0 W (h.below hW) d1 d2 hj hOk hused hB hmay (by omega) hc).mono ?_
  rintro e w' ⟨he',ht⟩;exact⟨he',_,(ht.behind hW).more (by omega),hch,Gd.count_giveI hH d1 d2 hB⟩
 |true=>
  obtain⟨n,hB,n1,n2⟩:∃n:Nat,(M.ino d).B[j.val/4]? =some (n:Int)∧1≤n∧n≤128:=by
   obtain⟨n,h1,h2⟩:=hD.blk _ hj4;rcases h2 with⟨_,h3⟩|⟨h3,h4,_⟩
   ·have:=h3 (j.val % 4) (Nat.mod_lt _ (by omega))
    rw[show 4*(j.val/4)+j.val % 4=j.val by omega]at this;rw[this]at he;exact absurd he.symm hne
   ·exact⟨n,h1,h3,h4⟩
  have hch:=hH.chg_over d1 d2 hk hj hm huX hsm hused hB n1 n2;have hmay:=(hch.hold.may d d1 d2).2;rw[Gd.setIno_atB]at hmay;refine(yX n (Gd.setT (T d) j.val Gd.noEnt) (-1) 0 W (h.below hW) d1 d2 hj hOk hused hB n1 n2 hmay (by omega) hc).mono ?_
  rintro e w' ⟨he',ht⟩;exact⟨he',_,(ht.behind hW).more (by omega),hch,Nat.le_refl _⟩
end
end Go.Proofs.YtjlpkbhgphjpeaaGreatDoor
