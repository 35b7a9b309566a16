/- Walks: a volume with four files: Set, Bytes, Apply. -/
import Derived.Test.YtccpdkjonepoiaaGreatDoorS28
set_option linter.unusedVariables false
set_option linter.unusedSimpArgs false
set_option linter.unusedSectionVars false
set_option maxHeartbeats 8000000
set_option maxRecDepth 100000
namespace Go.Proofs.YtccpdkjonepoiaaGreatDoor
open Go.RowKit
open Lib(hid)
open Go.Proofs.Tryz
section
open Go.Shelf
attribute [local go_sem] Oper.semAt_some
theorem XI(f:Nat)(call inode:Int)(tr:Bool)(off:Int)(d s out:ByteArray)(spare E:Int)(w:World)(hd:d.size≤80)(hs:s.size≤300)(hm:Fp.mayB call inode tr off d.data.toList=true)(hc:Fp.chg s.data.toList call inode tr off d.data.toList=(out.data.toList,E))(hE:E≠0)
 (hB:Ret w 41 #[.pointer (some ⟨f,0,none⟩),.int .i64 inode] (.tuple #[.string s,.int .i64 0])):
 Calls prog 78 #[.pointer (some ⟨f,0,none⟩),Fl.recV call inode tr off d,.int .i64 spare] w fun e w'=>e= .returned (.int .i64 E)∧Below w.heap.size w w':=by
 have HM:=hid fun W=>Fl.may_any call inode tr off d W (by omega);rw[hm]at HM;have HC:=hid fun W=>Fl.change_any s call inode tr off d W hs hd;rw[hc]at HC;unfold Fl.chgV at HC;rw[show(⟨((out.data.toList,E).1).toArray⟩:ByteArray)=out from vr out]at HC;dsimp only at HC;have HB:=hid hB;unfold Fl.recV at*;obtain⟨hb0,hr0⟩:=zM w #[.int .i64 call,.int .i64 inode,.bool tr,.int .i64 off,.string d] 57;obtain⟨rb,hrb⟩:=nm w.heap.size;obtain⟨w0,hw0⟩:=nm (w.alloc (.cells #[.int .i64 call,.int .i64 inode,.bool tr,.int .i64 off,.string d] 57));rw[←hw0,←hrb]at hr0;rw[←hw0]at hb0;have HR0:=hid hr0;have HB0:=hid hb0;have HW0:=hid hw0.symm;have Hrb:=hid hrb.symm
 have HCl:Hid (∀W:World,W.heap[rb]? =some (.cells #[.int .i64 call,.int .i64 inode,.bool tr,.int .i64 off,.string d] 57 (0,0))→W.cell? ⟨rb,0,none⟩=some (.int .i64 call)∧W.cell? ⟨rb,1,none⟩=some (.int .i64 inode)∧W.cell? ⟨rb,2,none⟩=some (.bool tr)∧W.cell? ⟨rb,3,none⟩=some (.int .i64 off)∧W.cell? ⟨rb,4,none⟩=some (.string d)):=hid fun W h=>⟨cell_of_row W rb 0 _ _ _ h,cell_of_row W rb 1 _ _ _ h,cell_of_row W rb 2 _ _ _ h,cell_of_row W rb 3 _ _ _ h,cell_of_row W rb 4 _ _ _ h⟩;obtain⟨r0,r1,r2,r3,r4⟩:=HCl.o _ hr0;clear hm hd hs hc hB hb0 hr0 hrb hw0;go_enter func78,ntmps78;go_upto_region 1 with fail
 rw[HW0.o,Hrb.o];go_wp2_with fail
 refine(HM.o _).mono ?_
 rintro e w2 ⟨rfl,hb2⟩;have HB2:=HB0.t hb2;have HR2:=hid ((hb2.block rb (za HR0.o)).trans HR0.o);have HBc:=hid (HB.o w2 HB2.o);clear hb2 r0 r1 r2 r3 r4;obtain⟨r0,r1,r2,r3,r4⟩:=HCl.o _ HR2.o;go_wp2_with fail
 refine HBc.o.mono ?_;rintro e w3 ⟨rfl,hb3⟩;have HB3:=HB2.t hb3;have HR3:=hid ((hb3.block rb (za HR2.o)).trans HR2.o);clear hb3 r0 r1 r2 r3 r4;obtain⟨r0,r1,r2,r3,r4⟩:=HCl.o _ HR3.o;go_wp2_with fail
 refine(HC.o _).mono ?_
 rintro e w4 ⟨rfl,hb4⟩;have HB4:=HB3.t hb4;clear hb4 r0 r1 r2 r3 r4;go_wp2;go_ret
 exact⟨rfl,HB4.o⟩
namespace Gd
theorem setK_rest{all:List UInt8}{need:Nat}{spare:Int}:∀(fu k:Nat) (N:Vol) (B:List Int) (p:Vol×List Int),setK all need spare fu k N B=some p→p.1.head=N.head∧p.1.logs=N.logs
 |0,k,N,B,p,h=>by
  unfold setK at h
  cases h
  exact⟨rfl,rfl⟩
 |fu+1,k,N,B,p,h=>by
  unfold setK at h;split at h
  ·split at h
   ·cases h
    exact⟨rfl,rfl⟩
   ·(have hr:=setK_rest fu _ _ _ p h;exact hr)
  ·split at h
   ·split at h
    ·cases h
    ·(have hr:=setK_rest fu _ _ _ p h;exact hr)
   ·(have hr:=setK_rest fu _ _ _ p h;exact hr)
theorem Fils.same{M N:Vol}{s:Nat→List UInt8}(h:Fils M s)(h1:N.ino=M.ino)(h2:N.map=M.map)(h3:N.blk=M.blk):Fils N s:=by
 obtain⟨i,m,b,hd,lg⟩:=M;obtain⟨i2,m2,b2,hd2,lg2⟩:=N;dsimp only at h1 h2 h3;subst h1 h2 h3;exact⟨h.sound.same rfl fun _ _ _=>rfl,h.root,fun i i1 i2=>by
  obtain⟨B,e,hy⟩:=h.files i i1 i2;exact⟨B,e,hy.len,hy.few,hy.blk,hy.non⟩,h.rest,h.count⟩
theorem Fils.few{M:Vol}{s:Nat→List UInt8}(h:Fils M s):countB M.map≤18:=by
 have h1:∀i,2≤i→i≤5→needN (s i).length≤4:=fun i i1 i2=>by
  obtain⟨B,-,hy⟩:=h.files i i1 i2;exact hy.need
 have:=h.count
 have a2:=h1 2 (by omega) (by omega);have a3:=h1 3 (by omega) (by omega);have a4:=h1 4 (by omega) (by omega);have a5:=h1 5 (by omega) (by omega);omega
end Gd
section
variable {o x t c K f n:Nat} {S:List UInt8} {P:List Gd.Pa} {M:Gd.Vol} {sl:Nat→Gd.Slot} {F:Nat→Prop} {w a:World} {Ls:List (Nat×Obj)} {s:Nat→List UInt8}
theorem Tl.fsetU[zc](h:Tl x t S M c K F w a Ls)(hf:(f,j5 t x)∈Ls)(hF:Gd.Fils M s)(i:Nat)(i1:2≤i)(i2:i≤5)(b:List UInt8)(hl:b.length≤256)(hc:c+13<64):
 Calls prog 123 #[.pointer (some ⟨f,0,none⟩),.int .i64 i,.string ⟨b.toArray⟩,.int .i64 0] a fun e W=>
  e= .returned (.int .i64 0)∧∃N,Tl x t S N (c+13) K F w W Ls∧Gd.Fils N (Gd.updF s i b)∧N.head=M.head∧N.logs=M.logs:=by
 obtain⟨B0,hi,hy⟩:=hF.files i i1 i2;have hfew:=hF.few;obtain⟨F1,h1,h2⟩:=h;have hn4:Gd.needN b.length≤4:=by unfold Gd.needN;omega
 have hq:=Gd.setK_any (M:=M) (i:=i) (y:=Gd.filI (s i) B0) (s0:=s i) (all:=Gd.allL b) (need:=Gd.needN b.length) (spare:=0) (by omega) (by omega) hy hF.rng hn4 4 0 M B0 rfl (Gd.Qs.start hi hF.sound hy);have hS:=V0 i b 0 a h1.inv (h2 _ hf).2.2 (h2 _ hf).2.1 (by omega) (by omega) (by unfold Gd.fileE;rw[hi];rfl) hl (by rw[hi];exact hy.rng) (fun p hp=>by
  rw[hi]at hp⊢;have hp':Gd.setK (Gd.allL b) (Gd.needN b.length) 0 4 0 M B0=some p:=hp;rw[hp']at hq;exact Gd.Qs.may hq (by omega) (by omega) hl) hc
 rw[hi]at hS;have hre:=fun p=>Gd.setK_rest (all:=Gd.allL b) (need:=Gd.needN b.length) (spare:=0) 4 0 M B0 p;obtain⟨R,hR⟩:=nm (Gd.setK (Gd.allL b) (Gd.needN b.length) 0 4 0 M B0);have hS2:Calls prog 123 #[.pointer (some ⟨f,0,none⟩),.int .i64 i,.string ⟨b.toArray⟩,.int .i64 0] a (QD x t S i (Gd.filI (s i) B0) b.length R c K F1 a):=by rw[hR];exact hS
 rw[←hR]at hq hre;match R with
 |none=>
  exfalso
  have h3:=hq.2;omega
 |some p=>
  refine hS2.mono ?_;rintro e W ⟨he,ht⟩;have hr:=hre p rfl;exact⟨he,_,Tl.next h1 h2 ht,hF.set i1 i2 hi hy hl hq,hr.1,hr.2⟩
theorem Tl.fbytesU[zc](h:Tl x t S M c K F w a Ls)(hf:(f,j5 t x)∈Ls)(hF:Gd.Fils M s)(i:Nat)(i1:2≤i)(i2:i≤5):
 Calls prog 41 #[.pointer (some ⟨f,0,none⟩),.int .i64 i] a fun e W=>e= .returned (.tuple #[.string ⟨(s i).toArray⟩,.int .i64 0])∧Below a.heap.size a W:=by
 obtain⟨B0,hi,hy⟩:=hF.files i i1 i2;obtain⟨F1,h1,h2⟩:=h;have hal:=Gd.allL_length (s i);have hcat:Gd.catB M (M.ino i).B=Gd.allL (s i):=by rw[hi];exact hy.cat
 have hsz:(M.ino i).s=((s i).length:Int):=by rw[hi];rfl
 have:=YT i a h1.inv (h2 _ hf).2.2 (by omega) (by omega) (by unfold Gd.fileE;rw[hi];rfl) (by rw[hi];exact hy.rng) (by rw[hsz];omega) (by rw[hsz,hcat,hal,Int.toNat_natCast];unfold Gd.needN;omega)
 rw[hsz,hcat,Int.toNat_natCast,Gd.allL_take]at this;exact this
def Jt(i:Int):Int:=if i<1∨32<i then 1 else if i=1 then 13 else 10
theorem Tl.felseU[zc](h:Tl x t S M c K F w a Ls)(hf:(f,j5 t x)∈Ls)(hF:Gd.Fils M s)(i:Int)(hi:¬(2≤i∧i≤5)):
 ∃y:Gd.Ino,y.Shape∧Calls prog 79 #[.pointer (some ⟨f,0,none⟩),.int .i64 i] a fun e W=>e= .returned (.tuple #[zQ y,.int .i64 (Jt i)])∧Below a.heap.size a W:=by
 obtain⟨F1,h1,h2⟩:=h;unfold Jt;by_cases hb:i<1∨32<i
 ·rw[if_pos hb];exact⟨Gd.noIno,⟨rfl,rfl⟩,YH i a h1.inv (h2 _ hf).2.2 (by omega)⟩
 ·rw[if_neg hb];obtain⟨k,rfl⟩:∃k:Nat,i=k:=⟨i.toNat,by omega⟩;have hk:=uj k a h1.inv (h2 _ hf).2.2 (by omega) (by omega);by_cases e1:(k:Int)=1
  ·rw[if_pos e1];obtain rfl:k=1:=by omega
   unfold Gd.fileE at hk;rw[hF.root]at hk;exact⟨_,⟨rfl,rfl⟩,hk⟩
  ·rw[if_neg e1];unfold Gd.fileE at hk;rw[hF.rest k (by omega)]at hk;exact⟨_,⟨rfl,rfl⟩,hk⟩
theorem uo(i:Int):Jt i≠0:=by
 unfold Jt;split
 ·decide
 ·split<;>decide
theorem Vq.tl[zc](h:Vq o x t f S P M n sl c K w a Ls):Tl x t S M c K Nof w a ((o,qP t x f)::(f,j5 t x)::Ls):=h.1.tl h.2.1
theorem Vq.bytes[zc](h:Vq o x t f S P M n sl c K w a Ls)(hF:Gd.Fils M s)(i:Nat)(i1:2≤i)(i2:i≤5):
 Calls prog 41 #[.pointer (some ⟨f,0,none⟩),.int .i64 i] a fun e W=>e= .returned (.tuple #[.string ⟨(s i).toArray⟩,.int .i64 0])∧Vq o x t f S P M n sl c K w W Ls:=
 (h.tl.fbytesU (List.mem_cons_of_mem _ (List.mem_cons_self ..)) hF i i1 i2).mono fun _ _ ⟨he,hb⟩=>⟨he,h.below hb⟩
theorem Vq.apply[zc](h:Vq o x t f S [] M n sl 0 K w a Ls)(hF:Gd.Fils M s)(hs:∀i,2≤i→i≤5→(s i).length≤256)(r:Gd.Rec)(hm:r.may=true):
 Calls prog 78 #[.pointer (some ⟨f,0,none⟩),qq r,.int .i64 0] a fun e b=>
  ((2≤r.inode∧r.inode≤5)∧(Gd.chgR (s r.inode.toNat) r).2=0∧e= .returned (.int .i64 0)∧∃P N,Vq o x t f S P N n sl 13 K w b Ls∧Gd.Fils N (Gd.updF s r.inode.toNat (Gd.chgR (s r.inode.toNat) r).1)∧N.logs=M.logs)∨
  (¬((2≤r.inode∧r.inode≤5)∧(Gd.chgR (s r.inode.toNat) r).2=0)∧∃E:Int,E≠0∧e= .returned (.int .i64 E)∧Vq o x t f S [] M n sl 0 K w b Ls):=by
 have hr:=Gd.may_rec hm;have hd:(⟨r.d.toArray⟩:ByteArray).size≤80:=by
  show r.d.toArray.size≤80
  rw[List.size_toArray];omega
 by_cases hi:2≤r.inode∧r.inode≤5
 ·obtain⟨i,hri⟩:∃i:Nat,r.inode=i:=⟨r.inode.toNat,by omega⟩;have i1:2≤i:=by omega
  have i2:i≤5:=by omega
  have hsi:=hs i i1 i2;have hti:r.inode.toNat=i:=by omega
  have hsz:(⟨(s i).toArray⟩:ByteArray).size≤300:=by
   show(s i).toArray.size≤300
   rw[List.size_toArray];omega
  have hB:∀W,Below a.heap.size a W→Calls prog 41 #[.pointer (some ⟨f,0,none⟩),.int .i64 r.inode] W fun e w'=>e= .returned (.tuple #[.string ⟨(s i).toArray⟩,.int .i64 0])∧Below W.heap.size W w':=fun W hW=>by
   rw[hri];exact(h.below hW).tl.fbytesU (List.mem_cons_of_mem _ (List.mem_cons_self ..)) hF i i1 i2
  rw[hti];obtain⟨out,E,hcg⟩:∃out E,Gd.chgR (s i) r=(out,E):=⟨_,_,rfl⟩;rw[hcg];by_cases hE:E=0
  ·subst hE;have hol:out.length≤256:=by
    have:=Gd.chgR_ok (s:=s i) (r:=r) (by rw[hcg])
    rw[hcg]at this;exact this
   refine(YY f r.call r.inode r.tr r.off ⟨r.d.toArray⟩ ⟨(s i).toArray⟩ ⟨out.toArray⟩ 0 a (fun r w'=>r=0∧∃P N,Vq o x t f S P N n sl 13 K w w' Ls∧Gd.Fils N (Gd.updF s i out)∧N.logs=M.logs) hd hsz hm hcg hB fun W hW=> ?_).mono ?_
   ·rw[hri];refine((h.below hW).tl.fsetU (List.mem_cons_of_mem _ (List.mem_cons_self ..)) hF i i1 i2 out hol (by omega)).mono ?_
    rintro e w' ⟨he,N,hT,hN,hh,hg⟩;obtain⟨P,hV,hGo⟩:=Vp.of hT;exact⟨0,he,rfl,P,N,⟨hV,hGo,h.2.2.same hh⟩,hN,hg⟩
   ·rintro e w' ⟨r',he,rfl,P,N,hV⟩;exact Or.inl ⟨hi,rfl,he,P,N,hV⟩
  ·have hne:E=19:=by
    unfold Gd.chgR Fp.chg at hcg;rw[if_pos (show Fp.mayB r.call r.inode r.tr r.off r.d=true from hm)]at hcg;split at hcg
    ·exact absurd (congrArg (·.2) hcg).symm hE
    ·exact(congrArg (·.2) hcg).symm
   subst hne;have h0:out=[]:=by
    unfold Gd.chgR Fp.chg at hcg;rw[if_pos (show Fp.mayB r.call r.inode r.tr r.off r.d=true from hm)]at hcg;split at hcg
    ·have:=congrArg (·.2) hcg
     dsimp only at this;omega
    ·exact(congrArg (·.1) hcg).symm
   subst h0;refine(XI f r.call r.inode r.tr r.off ⟨r.d.toArray⟩ ⟨(s i).toArray⟩ ⟨#[]⟩ 0 19 a hd hsz hm hcg (by decide) hB).mono ?_
   rintro e w' ⟨he,hb⟩;exact Or.inr ⟨fun hh=>absurd hh.2 (by decide),19,by decide,he,h.below hb⟩
 ·refine(XH f r.call r.inode r.tr r.off ⟨r.d.toArray⟩ ⟨#[]⟩ 0 (Jt r.inode) a hd hm (uo _) fun W hW=> ?_).mono ?_
  ·obtain⟨y,hy,hfl⟩:=(h.below hW).tl.felseU (List.mem_cons_of_mem _ (List.mem_cons_self ..)) hF r.inode hi;exact XE r.inode W hy (uo _) hfl
  ·rintro e w' ⟨he,hb⟩;exact Or.inr ⟨fun hh=>hi hh.1,_,uo _,he,h.below hb⟩
end
end
section
open Go.Shelf
structure RvB where
 r:Nat
 g1:Nat
 g2:Nat
 g3:Nat
 bs:Nat→Nat
def RvB.has(R:RvB)(q:Nat):Prop:=q=R.r∨q=R.g1∨q=R.g2∨q=R.g3∨∃c,c<8∧q=R.bs c
structure RvC(R:RvB)(V:Gd.Vl)(w:World):Prop where
 obj:∃c1 c2 c3:Nat,w.heap[R.r]? =some (.cells #[.slice (some ⟨R.g1,0,none⟩) 8 c1,.int .i64 V.n,.slice (some ⟨R.g2,0,none⟩) 4 c2,.slice (some ⟨R.g3,0,none⟩) 8 c3] 91 (0,0))
 sl:∃C:Array Value,w.heap[R.g1]? =some (.cells C 48 (0,0))∧∀c i,c<8→i<6→C[c*6+i]? =(zm (V.s (c+1)))[i]?
 fl:∃C:Array Value,w.heap[R.g2]? =some (.cells C 9 (0,0))∧∀k,k<4→C[k]? =some (.string ⟨(V.fs (k+2)).toArray⟩)
 lg:∃C:Array Value,w.heap[R.g3]? =some (.cells C 22 (0,0))∧∀c,c<8→C[c]? =some (.slice (some ⟨R.bs c,0,none⟩) 1024 1024)
 row:∀c,c<8→w.heap[R.bs c]? =some (.cells (ze (V.lg (c+1))) 5 (0,0))
 inj:∀c d,c<8→d<8→R.bs c=R.bs d→c=d
theorem zX{w:World}{p q:Nat}{C D:Array Value}{t u:TypeId}(hp:w.heap[p]? =some (Obj.cells C t (0,0)))(hq:w.heap[q]? =some (Obj.cells D u (0,0)))(h:t≠u):p≠q:=by
 rintro rfl;rw[hp]at hq;exact h (Obj.cells.inj (Option.some.inj hq)).2.1
section
variable {R:RvB} {V:Gd.Vl} {w w':World}
theorem RvC.keep(h:RvC R V w)(hk:∀q,R.has q→w'.heap[q]? =w.heap[q]?):RvC R V w':=by
 obtain⟨⟨c1,c2,c3,h1⟩,⟨C1,h2,h3⟩,⟨C2,h4,h5⟩,⟨C3,h6,h7⟩,h8,h9⟩:=h;exact⟨⟨c1,c2,c3,(hk _ (Or.inl rfl)).trans h1⟩,⟨C1,(hk _ (Or.inr (Or.inl rfl))).trans h2,h3⟩,⟨C2,(hk _ (Or.inr (Or.inr (Or.inl rfl)))).trans h4,h5⟩,⟨C3,(hk _ (Or.inr (Or.inr (Or.inr (Or.inl rfl))))).trans h6,h7⟩,fun c hc=>(hk _ (Or.inr (Or.inr (Or.inr (Or.inr ⟨c,hc,rfl⟩))))).trans (h8 c hc),h9⟩
theorem RvC.typ(h:RvC R V w){q:Nat}(hq:R.has q):∃C ty,w.heap[q]? =some (Obj.cells C ty (0,0))∧ty≠79∧ty≠182∧ty≠35:=by
 obtain⟨⟨c1,c2,c3,h1⟩,⟨C1,h2,h3⟩,⟨C2,h4,h5⟩,⟨C3,h6,h7⟩,h8,h9⟩:=h;rcases hq with rfl|rfl|rfl|rfl|⟨c,hc,rfl⟩
 ·exact⟨_,_,h1,by decide,by decide,by decide⟩
 ·exact⟨_,_,h2,by decide,by decide,by decide⟩
 ·exact⟨_,_,h4,by decide,by decide,by decide⟩
 ·exact⟨_,_,h6,by decide,by decide,by decide⟩
 ·exact⟨_,_,h8 c hc,by decide,by decide,by decide⟩
theorem RvC.lt(h:RvC R V w){q:Nat}(hq:R.has q):q<w.heap.size:=by
 obtain⟨C,ty,h1,-⟩:=h.typ hq;exact za h1
theorem RvC.below(h:RvC R V w)(hb:Below w.heap.size w w'):RvC R V w':=h.keep fun q hq=>hb.block q (h.lt hq)
theorem RvC.only{F:Nat→Prop}(h:RvC R V w)(hO:zi F w w')(hF:∀q,R.has q→¬F q):RvC R V w':=h.keep fun q hq=>hO.block q (h.lt hq) (hF q hq)
theorem RvC.slot(h:RvC R V w){c:Nat}(hc:c<8)(i:Nat)(hi:i<6):w.cell? ⟨R.g1,c*6+i,none⟩=(zm (V.s (c+1)))[i]? :=by
 obtain⟨C,h1,h2⟩:=h.sl;exact(cell_of_row w R.g1 _ _ _ _ h1).trans (h2 c i hc hi)
theorem RvC.file(h:RvC R V w){k:Nat}(hk:k<4):w.cell? ⟨R.g2,k,none⟩=some (.string ⟨(V.fs (k+2)).toArray⟩):=by
 obtain⟨C,h1,h2⟩:=h.fl;exact(cell_of_row w R.g2 _ _ _ _ h1).trans (h2 k hk)
theorem RvC.log(h:RvC R V w){c:Nat}(hc:c<8):w.cell? ⟨R.g3,c,none⟩=some (.slice (some ⟨R.bs c,0,none⟩) 1024 1024):=by
 obtain⟨C,h1,h2⟩:=h.lg;exact(cell_of_row w R.g3 _ _ _ _ h1).trans (h2 c hc)
theorem RvC.bytes(h:RvC R V w){c:Nat}(hc:c<8)(hl:(V.lg (c+1)).length=1024):jD w (.slice (some ⟨R.bs c,0,none⟩) 1024 1024) (V.lg (c+1)):=by
 refine⟨R.bs c,0,1024,by rw[hl],by omega,by omega,za (h.row c hc),fun j x hj=> ?_⟩;rw[Nat.zero_add];exact j3 (h.row c hc) hj
theorem RvC.setN(h:RvC R V w)(m:Nat):RvC R {V with n:=m} (w.setCell ⟨R.r,1,none⟩ (.int .i64 m)):=by
 obtain⟨⟨c1,c2,c3,h1⟩,⟨C1,h2,h3⟩,⟨C2,h4,h5⟩,⟨C3,h6,h7⟩,h8,h9⟩:=h;have ho:∀q,q≠R.r→(w.setCell ⟨R.r,1,none⟩ (.int .i64 m)).heap[q]? =w.heap[q]? :=fun q hq=>Go.heap_setCell_other w ⟨R.r,1,none⟩ q _ fun e=>hq e;refine⟨⟨c1,c2,c3,?_⟩,⟨C1,(ho _ (zX h2 h1 (by decide))).trans h2,h3⟩,⟨C2,(ho _ (zX h4 h1 (by decide))).trans h4,h5⟩,⟨C3,(ho _ (zX h6 h1 (by decide))).trans h6,h7⟩,fun c hc=>(ho _ (zX (h8 c hc) h1 (by decide))).trans (h8 c hc),h9⟩;exact Go.heap_setCell_same w R.r 1 _ _ _ h1
theorem xY:∀(vs:List Value) (o:Nat) (C:Array Value) (j:Nat),o+vs.length≤C.size→(js C o vs)[j]? =if o≤j∧j<o+vs.length then vs[j-o]? else C[j]?
 |[],o,C,j,_=>by
  rw[js,if_neg (by simp only[List.length_nil];omega)]
 |v::r,o,C,j,h=>by
  rw[List.length_cons]at h;rw[js,xY r (o+1) _ j (by rw[Array.size_setIfInBounds];omega),List.length_cons];by_cases h1:o+1≤j∧j<o+1+r.length
  ·rw[if_pos h1,if_pos (by omega),show j-o=(j-(o+1))+1 by omega,List.getElem?_cons_succ]
  ·rw[if_neg h1,Array.getElem?_setIfInBounds];by_cases h2:o=j
   ·subst h2;rw[if_pos rfl,if_pos (by omega),if_pos (by omega),Nat.sub_self];rfl
   ·rw[if_neg h2,if_neg (by omega)]
theorem RvC.setSlot(h:RvC R V w){c:Nat}(hc:c<8)(s:Gd.Slot):RvC R {V with s:=Gd.updS V.s (c+1) s} (w.setCells R.g1 (c*6) (zm s).toList)∧zi R.has w (w.setCells R.g1 (c*6) (zm s).toList)∧w.there R.g1 (c*6) 6:=by
 obtain⟨⟨c1,c2,c3,h1⟩,⟨C1,h2,h3⟩,⟨C2,h4,h5⟩,⟨C3,h6,h7⟩,h8,h9⟩:=h;have hg:=jf R.g1 (zm s).toList (c*6) w;have ho:∀q,q<w.heap.size→q≠R.g1→(w.setCells R.g1 (c*6) (zm s).toList).heap[q]? =w.heap[q]? :=fun q hq hn=>hg.block q hq fun e=>hn (Option.some.inj e);have hsz:48≤C1.size:=by
  have:=h3 7 5 (by omega) (by omega)
  apply Classical.byContradiction
  intro hlt;rw[Array.getElem?_eq_none (by omega)]at this
  cases this
 have hl6:(zm s).toList.length=6:=rfl;refine⟨⟨⟨c1,c2,c3,(ho _ (za h1) (zX h1 h2 (by decide))).trans h1⟩,⟨_,qD _ _ _ _ _ _ h2,fun d i hd hi=> ?_⟩,⟨C2,(ho _ (za h4) (zX h4 h2 (by decide))).trans h4,h5⟩,⟨C3,(ho _ (za h6) (zX h6 h2 (by decide))).trans h6,h7⟩,fun d hd=>(ho _ (za (h8 d hd)) (zX (h8 d hd) h2 (by decide))).trans (h8 d hd),h9⟩,zK hg fun k e=>Or.inr (Or.inl (Option.some.inj e).symm),xw h2 (by omega)⟩;rw[xY _ _ _ _ (by rw[hl6];omega),hl6];show _=(zm (if d+1=c+1 then s else V.s (d+1)))[i]?
 by_cases hdc:d=c
 ·subst hdc;rw[if_pos (by omega),if_pos rfl,show d*6+i-d*6=i by omega,Array.getElem?_toList]
 ·rw[if_neg (by omega),if_neg (by omega)];exact h3 d i hd hi
theorem RvC.setField(h:RvC R V w){c i:Nat}(hc:c<8)(hi:i<6)(v:Value)(s:Gd.Slot)(hs:zm s=(zm (V.s (c+1))).setIfInBounds i v):RvC R {V with s:=Gd.updS V.s (c+1) s} (w.setCell ⟨R.g1,c*6+i,none⟩ v):=by
 obtain⟨⟨c1,c2,c3,h1⟩,⟨C1,h2,h3⟩,⟨C2,h4,h5⟩,⟨C3,h6,h7⟩,h8,h9⟩:=h;have ho:∀q,q≠R.g1→(w.setCell ⟨R.g1,c*6+i,none⟩ v).heap[q]? =w.heap[q]? :=fun q hn=>Go.heap_setCell_other w ⟨R.g1,c*6+i,none⟩ q _ fun e=>hn e;have hsz:c*6+i<C1.size:=by
  have:=h3 c i (by omega) (by omega)
  apply Classical.byContradiction
  intro hlt;have h6:(zm (V.s (c+1))).size=6:=rfl;rw[Array.getElem?_eq_none (by omega),Array.getElem?_eq_getElem (by omega)]at this
  cases this
 refine⟨⟨c1,c2,c3,(ho _ (zX h1 h2 (by decide))).trans h1⟩,⟨_,Go.heap_setCell_same w R.g1 _ _ _ _ h2,fun d j hd hj=> ?_⟩,⟨C2,(ho _ (zX h4 h2 (by decide))).trans h4,h5⟩,⟨C3,(ho _ (zX h6 h2 (by decide))).trans h6,h7⟩,fun d hd=>(ho _ (zX (h8 d hd) h2 (by decide))).trans (h8 d hd),h9⟩;rw[Array.getElem?_setIfInBounds];show _=(zm (if d+1=c+1 then s else V.s (d+1)))[j]?
 by_cases hdc:d=c
 ·subst hdc;rw[if_pos rfl,hs,Array.getElem?_setIfInBounds];by_cases hij:i=j
  ·subst hij;have h6:(zm (V.s (d+1))).size=6:=rfl;rw[if_pos rfl,if_pos hsz,if_pos rfl,if_pos (by omega)]
  ·rw[if_neg (by omega),if_neg hij];exact h3 d j hd hj
 ·rw[if_neg (by omega),if_neg (by omega)];exact h3 d j hd hj
theorem RvC.setFile(h:RvC R V w){k:Nat}(hk:k<4)(b:List UInt8):RvC R {V with fs:=Gd.updF V.fs (k+2) b} (w.setCell ⟨R.g2,k,none⟩ (.string ⟨b.toArray⟩)):=by
 obtain⟨⟨c1,c2,c3,h1⟩,⟨C1,h2,h3⟩,⟨C2,h4,h5⟩,⟨C3,h6,h7⟩,h8,h9⟩:=h;have ho:∀q,q≠R.g2→(w.setCell ⟨R.g2,k,none⟩ (.string ⟨b.toArray⟩)).heap[q]? =w.heap[q]? :=fun q hn=>Go.heap_setCell_other w ⟨R.g2,k,none⟩ q _ fun e=>hn e;refine⟨⟨c1,c2,c3,(ho _ (zX h1 h4 (by decide))).trans h1⟩,⟨C1,(ho _ (zX h2 h4 (by decide))).trans h2,h3⟩,⟨_,Go.heap_setCell_same w R.g2 _ _ _ _ h4,fun d hd=> ?_⟩,⟨C3,(ho _ (zX h6 h4 (by decide))).trans h6,h7⟩,fun d hd=>(ho _ (zX (h8 d hd) h4 (by decide))).trans (h8 d hd),h9⟩;have hks:=(Array.getElem?_eq_some_iff.1 (h5 k hk)).1;rw[Array.getElem?_setIfInBounds];show _=some (Value.string ⟨(if d+2=k+2 then b else V.fs (d+2)).toArray⟩)
 by_cases hdk:k=d
 ·subst hdk;rw[if_pos rfl,if_pos hks,if_pos rfl]
 ·rw[if_neg hdk,if_neg (by omega)];exact h5 d hd
theorem RvC.setByte(h:RvC R V w){c:Nat}(hc:c<8)(j:Nat)(x:UInt8):RvC R {V with lg:=Gd.updF V.lg (c+1) ((V.lg (c+1)).set j x)} (w.setCell ⟨R.bs c,j,none⟩ (.int .u8 x.toNat)):=by
 obtain⟨⟨c1,c2,c3,h1⟩,⟨C1,h2,h3⟩,⟨C2,h4,h5⟩,⟨C3,h6,h7⟩,h8,h9⟩:=h;have ho:∀q,q≠R.bs c→(w.setCell ⟨R.bs c,j,none⟩ (.int .u8 x.toNat)).heap[q]? =w.heap[q]? :=fun q hn=>Go.heap_setCell_other w ⟨R.bs c,j,none⟩ q _ fun e=>hn e;refine⟨⟨c1,c2,c3,(ho _ (zX h1 (h8 c hc) (by decide))).trans h1⟩,⟨C1,(ho _ (zX h2 (h8 c hc) (by decide))).trans h2,h3⟩,⟨C2,(ho _ (zX h4 (h8 c hc) (by decide))).trans h4,h5⟩,⟨C3,(ho _ (zX h6 (h8 c hc) (by decide))).trans h6,h7⟩,fun d hd=> ?_,h9⟩;show _=some (Obj.cells (ze (if d+1=c+1 then(V.lg (c+1)).set j x else V.lg (d+1))) _ _)
 by_cases hdc:d=c
 ·subst hdc;rw[if_pos rfl,←xp];exact Go.heap_setCell_same w (R.bs d) j _ _ _ (h8 d hd)
 ·rw[if_neg (by omega)];exact(ho _ fun e=>hdc (h9 _ _ hd hc e)).trans (h8 d hd)
end
def Zo:Gd.Vl:=⟨4,fun _=>Gd.slot0,fun _=>[],fun _=>vF⟩
theorem Qr:Zo.Ok:=⟨fun _ _ _=>Gd.slot0_may,fun _ _ _=>Zz,fun _ _ _=>Nat.zero_le _⟩
theorem vI{C:Array Value}{xs:List Value}{m j:Nat}(h:C.toList.take m=xs)(hj:j<m):C[j]? =xs[j]? :=by
 rw[←h,List.getElem?_take_of_lt hj,Array.getElem?_toList]
theorem vL:∀(n c i:Nat),c<n→i<6→(yj (List.replicate n qo))[c*6+i]? =(zm qo)[i]?
 |0,_,_,h,_=>by omega
 |n+1,0,i,_,hi=>by
  rw[Nat.zero_mul,Nat.zero_add,List.replicate_succ];show((zm qo).toList++_)[i]? =_
  rw[List.getElem?_append_left (by show i<6;exact hi),Array.getElem?_toList]
 |n+1,c+1,i,h,hi=>by
  rw[List.replicate_succ];show((zm qo).toList++yj (List.replicate n qo))[(c+1)*6+i]? =_
  rw[List.getElem?_append_right (by show 6≤_;omega)];have:=vL n c i (by omega) hi
  rw[←this];congr 1
  show(c+1)*6+i-6=_
  omega
theorem Vc{r:Nat}{w0 w:World}(h:RvN r 8 w0 w):∃R:RvB,R.r=r∧RvC R Zo w∧∀q,R.has q→w0.heap.size≤q:=by
 obtain⟨⟨sv,fv,lv,bs,hA,f1,f2,f3,f4,f5⟩,hb⟩:=h;obtain⟨h1,h2,h3,h4,h5,h6,h7⟩:=hA;have e8:(List.replicate 8 qo).length=8:=List.length_replicate;have b8:bs.length=8:=by rw[h6,List.length_replicate]
 rw[e8]at h2;rw[b8]at h4;rcases h2.2 with⟨-,e⟩|⟨g1,c1,C1,rfl,-,s1,s2,s3,s4,s5⟩
 ·omega
 rcases h3.2 with⟨-,e⟩|⟨g2,c2,C2,rfl,-,t1,t2,t3,t4,t5⟩
 ·cases e
 rcases h4.2 with⟨-,e⟩|⟨g3,c3,C3,rfl,-,u1,u2,u3,u4,u5⟩
 ·omega
 have hbs:∀c,c<8→bs[c]? =some (bs.getD c 0):=fun c hc=>by
  rw[List.getD_eq_getElem?_getD,List.getElem?_eq_getElem (by omega)];rfl
 refine⟨⟨r,g1,g2,g3,fun c=>bs.getD c 0⟩,rfl,⟨⟨c1,c2,c3,h1⟩,⟨C1,s1,fun c i hc hi=> ?_⟩,⟨C2,t1,fun k hk=> ?_⟩,⟨C3,u1,fun c hc=> ?_⟩,fun c hc=> ?_,fun c d hc hd e=> ?_⟩,fun q hq=> ?_⟩
 ·rw[vI s5 (by omega),vL 8 c i hc hi];rfl
 ·rw[vI t5 (by show k<4*1;omega)];match k,hk with
  |0,_=>rfl
  |1,_=>rfl
  |2,_=>rfl
  |3,_=>rfl
 ·rw[vI u5 (by omega)];unfold uV;rw[List.getElem?_map,hbs c hc];rfl
 ·obtain⟨L,l1,l2,l3⟩:=h5 c _ (hbs c hc);have:L=vF:=by
   have:=List.mem_of_getElem? l1
   exact List.eq_of_mem_replicate this
  subst this;exact l3
 ·have h1:=hbs c hc;have h2:=hbs d hd;have e:bs.getD c 0=bs.getD d 0:=e;rw[←e]at h2;exact(List.getElem?_inj (by omega) h7).1 (h1.trans h2.symm)
 ·rcases hq with rfl|rfl|rfl|rfl|⟨c,hc,rfl⟩
  ·exact f1
  ·exact f2 _ rfl
  ·exact f3 _ rfl
  ·exact f4 _ rfl
  ·exact f5 _ (List.mem_of_getElem? (hbs c hc))
end
section
open Go.Shelf
def Vs[zc](o x t f:Nat)(V:Gd.Vl)(K:Nat)(w a:World)(Ls:List (Nat×Obj)):Prop:=
 ∃S M,Vq o x t f S [] M V.n V.s 0 K w a Ls∧Gd.Fils M V.fs∧∀c,1≤c→c≤8→Gd.part M.logs (1024*(c-1)) 1024=V.lg c
section
variable {o x t f K n:Nat} {V U:Gd.Vl} {w a b:World} {Ls:List (Nat×Obj)} {G:Nat→Prop} {R:RvB}
theorem Vs.below[zc](h:Vs o x t f V K w a Ls)(hb:Below a.heap.size a b):Vs o x t f V K w b Ls:=by
 obtain⟨S,M,h1,h2⟩:=h;exact⟨S,M,h1.below hb,h2⟩
theorem Vs.own[zc](h:Vs o x t f V K w a Ls)(hO:zi G a b)(hG:∀q,q<a.heap.size→G q→∃o',(q,o')∈Ls∧o'≠qP t x f∧o'≠j5 t x){Ls':List (Nat×Obj)}(hL:∀p∈Ls',(p∈Ls∧¬G p.1)∨((a.heap.size≤p.1∨∃o',(p.1,o')∈Ls)∧b.heap[p.1]? =some p.2)):Vs o x t f V K w b Ls':=by
 obtain⟨S,M,h1,h2⟩:=h;exact⟨S,M,h1.own hO hG hL,h2⟩
theorem Vs.news[zc](h:Vs o x t f V K w a Ls)(hb:Below a.heap.size a b){Lu:List (Nat×Obj)}(hL:∀p∈Lu,a.heap.size≤p.1∧b.heap[p.1]? =some p.2):Vs o x t f V K w b (Lu++Ls):=by
 obtain⟨S,M,h1,h2⟩:=h;exact⟨S,M,h1.news hb hL,h2⟩
theorem Vs.less[zc]{Ls':List (Nat×Obj)}(h:Vs o x t f V K w a Ls)(hL:∀p∈Ls',p∈Ls):Vs o x t f V K w a Ls':=by
 obtain⟨S,M,h1,h2⟩:=h;exact⟨S,M,h1.less hL,h2⟩
theorem Vs.get[zc](h:Vs o x t f V K w a Ls){k:Nat}{o':Obj}(hk:(k,o')∈Ls):a.heap[k]? =some o':=by
 obtain⟨S,M,h1,h2⟩:=h;exact h1.get hk
theorem Vs.belowW[zc](h:Vs o x t f V K w a Ls):Below w.heap.size w a:=by
 obtain⟨S,M,h1,h2⟩:=h;exact h1.belowW
theorem Vs.more[zc]{L:Nat}(h:Vs o x t f V K w a Ls)(hK:K≤L):Vs o x t f V L w a Ls:=by
 obtain⟨S,M,h1,h2⟩:=h;exact⟨S,M,h1.more (Nat.le_refl _) hK,h2⟩
theorem Vs.vol[zc](h:Vs o x t f V K w a Ls):jU a o t x f:=by
 obtain⟨S,M,h1,h2⟩:=h;exact h1.1.vol
def Bv[zc](o x t f:Nat)(R:RvB)(V U:Gd.Vl)(K:Nat)(w a:World)(Ls:List (Nat×Obj)):Prop:=
 ∃Lr:List (Nat×Obj),(∀q,R.has q↔∃o',(q,o')∈Lr)∧Vs o x t f V K w a (Lr++Ls)∧RvC R U a
theorem Bv.below[zc](h:Bv o x t f R V U K w a Ls)(hb:Below a.heap.size a b):Bv o x t f R V U K w b Ls:=by
 obtain⟨Lr,h1,h2,h3⟩:=h;exact⟨Lr,h1,h2.below hb,h3.below hb⟩
theorem Bv.carry[zc]{x2 t2 f2 o2 K2:Nat}{V2:Gd.Vl}{Lr:List (Nat×Obj)}(h1:∀q,R.has q↔∃o',(q,o')∈Lr)(h2:Vs o x t f V K w a (Lr++Ls))(h3:RvC R U a){Ls2:List (Nat×Obj)}(h4:Vs o2 x2 t2 f2 V2 K2 w b (Lr++Ls2)):Bv o2 x2 t2 f2 R V2 U K2 w b Ls2:=by
 refine⟨Lr,h1,h4,h3.keep fun q hq=> ?_⟩;obtain⟨o',ho⟩:=(h1 q).1 hq;rw[h2.get (List.mem_append_left _ ho),h4.get (List.mem_append_left _ ho)]
theorem Bv.turn[zc]{U2:Gd.Vl}(h:Bv o x t f R V U K w a Ls)(hO:zi R.has a b)(hC:RvC R U2 b)(hn:∀p∈Ls,¬R.has p.1):Bv o x t f R V U2 K w b Ls:=by
 obtain⟨Lr,h1,h2,h3⟩:=h;have hbq:∀q,R.has q→∃o',b.heap[q]? =some o':=fun q hq=>by
  obtain⟨C,ty,h,-⟩:=hC.typ hq;exact⟨_,h⟩
 refine⟨Lr.map fun p=>(p.1,(b.heap[p.1]?).getD p.2),fun q=>⟨fun hq=> ?_,fun⟨o',ho⟩=> ?_⟩,h2.own hO (fun q _ hq=> ?_) (fun p hp=> ?_),hC⟩
 ·obtain⟨o',ho⟩:=(h1 q).1 hq;exact⟨_,List.mem_map.2 ⟨_,ho,rfl⟩⟩
 ·obtain⟨p,hp,e⟩:=List.mem_map.1 ho;have:p.1=q:=congrArg (·.1) e
  exact(h1 q).2 ⟨p.2,by rw[←this];exact hp⟩
 ·obtain⟨o',ho⟩:=(h1 q).1 hq;obtain⟨C,ty,hg,n1,n2,-⟩:=h3.typ hq;have:=h2.get (List.mem_append_left Ls ho)
  rw[hg]at this;refine⟨o',List.mem_append_left _ ho,fun e=> ?_,fun e=> ?_⟩
  ·rw[e]at this;exact n1 (Obj.cells.inj (Option.some.inj this)).2.1
  ·rw[e]at this;exact n2 (Obj.cells.inj (Option.some.inj this)).2.1
 ·rcases List.mem_append.1 hp with hp|hp
  ·obtain⟨p',hp',rfl⟩:=List.mem_map.1 hp;refine Or.inr ⟨Or.inr ⟨p'.2,List.mem_append_left _ hp'⟩,?_⟩;obtain⟨o',ho⟩:=hbq p'.1 ((h1 _).2 ⟨_,hp'⟩);show b.heap[p'.1]? =some ((b.heap[p'.1]?).getD p'.2)
   rw[ho];rfl
  ·exact Or.inl ⟨List.mem_append_right _ hp,hn p hp⟩
theorem Bv.ref[zc](h:Bv o x t f R V U K w a Ls):RvC R U a:=by
 obtain⟨Lr,h1,h2,h3⟩:=h;exact h3
theorem Bv.vs[zc](h:Bv o x t f R V U K w a Ls):Vs o x t f V K w a Ls:=by
 obtain⟨Lr,h1,h2,h3⟩:=h;exact h2.less fun p hp=>List.mem_append_right _ hp
theorem Bv.get[zc](h:Bv o x t f R V U K w a Ls){k:Nat}{o':Obj}(hk:(k,o')∈Ls):a.heap[k]? =some o':=h.vs.get hk
theorem Bv.belowW[zc](h:Bv o x t f R V U K w a Ls):Below w.heap.size w a:=h.vs.belowW
theorem Bv.apart[zc](h:Bv o x t f R V U K w a Ls){k v r:Nat}(hk:(k,zo v r)∈Ls):¬R.has k:=fun hq=>by
 obtain⟨C,ty,hg,-,-,n3⟩:=h.ref.typ hq;have:=h.get hk
 rw[hg]at this;exact n3 (Obj.cells.inj (Option.some.inj this)).2.1
theorem Bv.own[zc]{Ls':List (Nat×Obj)}(h:Bv o x t f R V U K w a Ls)(hO:zi G a b)(hG:∀q,q<a.heap.size→G q→∃o',(q,o')∈Ls∧o'≠qP t x f∧o'≠j5 t x)(hR:∀q,R.has q→¬G q)(hL:∀p∈Ls',(p∈Ls∧¬G p.1)∨((a.heap.size≤p.1∨∃o',(p.1,o')∈Ls)∧b.heap[p.1]? =some p.2)):Bv o x t f R V U K w b Ls':=by
 obtain⟨Lr,h1,h2,h3⟩:=h;refine⟨Lr,h1,h2.own hO (fun q hq hg=> ?_) (fun p hp=> ?_),h3.only hO hR⟩
 ·obtain⟨o',ho,n1⟩:=hG q hq hg;exact⟨o',List.mem_append_right _ ho,n1⟩
 ·rcases List.mem_append.1 hp with hp|hp
  ·exact Or.inl ⟨List.mem_append_left _ hp,hR _ ((h1 _).2 ⟨_,hp⟩)⟩
  ·rcases hL p hp with⟨hp,hn⟩|⟨hor,hb⟩
   ·exact Or.inl ⟨List.mem_append_right _ hp,hn⟩
   ·exact Or.inr ⟨hor.imp id fun⟨o',ho⟩=>⟨o',List.mem_append_right _ ho⟩,hb⟩
theorem Bv.news[zc](h:Bv o x t f R V U K w a Ls)(hb:Below a.heap.size a b){Lu:List (Nat×Obj)}(hL:∀p∈Lu,a.heap.size≤p.1∧b.heap[p.1]? =some p.2):Bv o x t f R V U K w b (Lu++Ls):=
 h.own (G:=Nof) (zg hb Nof) (fun _ _ e=>e.elim) (fun _ _ e=>e) fun p hp=>by
  rcases List.mem_append.1 hp with hp|hp
  ·exact Or.inr ⟨Or.inl (hL p hp).1,(hL p hp).2⟩
  ·exact Or.inl ⟨hp,fun e=>e⟩
theorem Bv.less[zc]{Ls':List (Nat×Obj)}(h:Bv o x t f R V U K w a Ls)(hL:∀p∈Ls',p∈Ls):Bv o x t f R V U K w a Ls':=by
 obtain⟨Lr,h1,h2,h3⟩:=h;exact⟨Lr,h1,h2.less fun p hp=>(List.mem_append.1 hp).elim (fun e=>List.mem_append_left _ e) (fun e=>List.mem_append_right _ (hL p e)),h3⟩
theorem Bv.more[zc]{L:Nat}(h:Bv o x t f R V U K w a Ls)(hK:K≤L):Bv o x t f R V U L w a Ls:=by
 obtain⟨Lr,h1,h2,h3⟩:=h;exact⟨Lr,h1,h2.more hK,h3⟩
end
end
section
open Go.Shelf
attribute [local go_sem] Oper.semAt_some
theorem Zp{m sb lb ab n K q:Nat}{S:List UInt8}{a:World}{C:Array Value}{ty:TypeId}(hM:zH a m sb lb ab n S K)(h:a.heap[q]? =some (Obj.cells C ty (0,0)))(hty:ty≠126):¬zL sb lb ab q:=by
 obtain⟨k,D,_,⟨es,ck,hm,_⟩,_⟩:=hM.away;obtain⟨Z,hZ,hl⟩:=hM.lasts;obtain⟨T2,h2⟩:=hM.seenE;rintro(e|e|e)
 ·rw[e,h2]at h;exact hty (Obj.cells.inj (Option.some.inj h)).2.1.symm
 ·rw[e,hl]at h;exact hty (Obj.cells.inj (Option.some.inj h)).2.1.symm
 ·rw[e,hm]at h
  cases h
theorem jC.mem[zc]{t K:Nat}{S:List UInt8}{P:List Gd.Pa}{F:Nat→Prop}{a:World}(h:jC t S P K a F):∃sb lb ab n,zH a zc.no sb lb ab n S K∧(∀q,zL sb lb ab q→F q)∧∀(S2:List UInt8) (K2:Nat) (b:World),S2.length=S.length→zH b zc.no sb lb ab n S2 K2→zi (zL sb lb ab) a b→jC t S2 P K2 b F:=by
 obtain⟨m,g,pv,⟨sb,lb,ab,n,hM,f1,f2,f3,f4⟩,hT,hL,ft,fg,fq,hP,hn⟩:=h;subst hn;refine⟨sb,lb,ab,n,hM,fun q hq=> ?_,fun S2 K2 b hl hM2 hO=>⟨_,g,pv,⟨sb,lb,ab,n,hM2,f1,f2,f3,f4⟩,⟨(hO.block t (za hT.obj) (Zp hM hT.obj (by decide))).trans hT.obj,?_⟩,hL.keep hO (hL.apart hM),ft,fg,fq,⟨by rw[hl];exact hP.fit,hP.len,hP.many⟩,rfl⟩⟩
 ·rcases hq with rfl|rfl|rfl
  ·exact f2
  ·exact f3
  ·exact f4
 ·exact⟨hT.row.1,hT.row.2.imp id fun⟨q,cap,cur,hv,hB,hg,hr⟩=>⟨q,cap,cur,hv,hB,(hO.block q (za hg) (Zp hM hg (by decide))).trans hg,hr⟩⟩
section
variable {o x t f c K n:Nat} {S:List UInt8} {P:List Gd.Pa} {V:Gd.Vl} {w a b:World} {Ls:List (Nat×Obj)}
theorem Vp.mem[zc](h:Vp o x t f S P c K w a Ls):∃sb lb ab n,zH a zc.no sb lb ab n S K∧(∀k,k<w.heap.size→¬zL sb lb ab k)∧(∀p∈Ls,¬zL sb lb ab p.1)∧∀(S2:List UInt8) (K2:Nat) (b:World),S2.length=S.length→Gd.part S2 2688 8=Gd.part S 2688 8→zH b zc.no sb lb ab n S2 K2→zi (zL sb lb ab) a b→Vp o x t f S2 P c K2 w b Ls:=by
 obtain⟨F',h1,h2⟩:=h;have hm:=h1.inv;obtain⟨sb,lb,ab,n,hM,hF,hC⟩:=hm.txn.mem;refine⟨sb,lb,ab,n,hM,fun k hk hq=>h1.old k hk (hF k hq).1,fun p hp hq=>(h2 p (List.mem_cons_of_mem _ (List.mem_cons_of_mem _ hp))).2.1 (hF _ hq).1,fun S2 K2 b hl he hM2 hO=>⟨F',⟨⟨hC S2 K2 b hl hM2 hO,(hO.block x (za hm.obj) (Zp hM hm.obj (by decide))).trans hm.obj,hm.inF,hl.trans hm.len,he.trans hm.log,hm.light,fun k hk=>Nat.lt_of_lt_of_le (hm.tight k hk) hO.size⟩,h1.old,h1.only.trans hO fun j hj hq=>h1.old j hj (hF j hq).1⟩,fun p hp=> ?_⟩⟩;obtain⟨q1,q2,q3⟩:=h2 p hp;exact⟨q1,q2,(hO.block _ (za q3) fun hq=>q2 (hF _ hq).1).trans q3⟩
end
theorem Jf[zc]{p v r K sb lb ab n:Nat}{S:List UInt8}{a:World}(hM:zH a zc.no sb lb ab n S K)(hg:a.heap[p]? =some (zo v r))(hpl:¬zL sb lb ab p)(at_:Nat)(A:Option Addr)(L:List UInt8)(c:Nat)(hb:uB a A L)(hap:L≠[]→∀g o,A=some ⟨g,o,none⟩→¬zL sb lb ab g)(ha:at_+L.length≤S.length)(hL:L.length≤4000)(hK:K<900000000000):
 Calls prog 13 #[.pointer (some ⟨p,0,none⟩),.int .i64 at_,.slice A L.length c] a fun e b=>e= .returned (.tuple #[])∧zH b zc.no sb lb ab n (Gd.splice S at_ L) (K+20000)∧zi (zL sb lb ab) a b:=by
 have HSt:=hid (Jc at_ A c L a hM.tozZ hb (fun h0 g o hA=>by
  have h1:=hap h0 g o hA;exact⟨fun e=>h1 (Or.inl e),fun e=>h1 (Or.inr (Or.inr e))⟩) ha hL)
 have HFl:Hid (∀w1,zZ w1 zc.no sb lb ab n (Gd.splice S at_ L) K (fun q=>NoX q∨jL at_ L.length q)→Calls prog 26 #[.pointer (some ⟨zc.no,0,none⟩),.int .i64 at_,.int .i64 L.length] w1 fun e w'=>e= .returned (.int .i64 0)∧qm w' zc.no sb lb ab n (Gd.splice S at_ L) (K+20000)∧zi (fun k=>k=ab) w1 w'):=hid fun w1 h1=>yK at_ L.length w1 h1 (fun q hq=>hq.elim (fun e=>e.elim) qp) (by rw[Gd.splice_length ha];exact ha) (by omega) hK;obtain⟨c0,c1,c2⟩:=zl hg;have HG:=hid hg;have HP:=hid hpl;obtain⟨l,hl⟩:=nm L.length;rw[←hl]at HSt HFl⊢;have e1:(l:Int)≤4000:=by omega
 clear hb hap ha hL hK hM hpl hg hl;go_enter func13,ntmps13;go_wp2_with fail
 refine HSt.o.mono ?_;rintro e w1 ⟨rfl,hM1,hO1⟩;have HO1:=hid (hO1.mono (G:=zL sb lb ab) fun k _ e=>e.elim Or.inl (fun e=>Or.inr (Or.inr e)));have hg1:=(HO1.o.block p (za HG.o) HP.o).trans HG.o;have HG1:=hid hg1;obtain⟨d0,d1,d2⟩:=zl hg1;have HFl1:=hid (HFl.o w1 hM1);clear hM1 hO1 c0 c1 c2 HSt HFl hg1;go_wp2_with fail
 refine HFl1.o.mono ?_;rintro e w2 ⟨rfl,hM2,hO2⟩;have HO2:=hid (HO1.o.trans hO2 fun k _ e=>Or.inr (Or.inr e));have hg2:=(HO2.o.block p (za HG.o) HP.o).trans HG.o;obtain⟨f0,f1,f2⟩:=zl hg2;have HFe:=hid (uk w2 hM2);clear hM2 hO2 d0 d1 d2 HFl1 hg2;go_wp2_with fail
 refine HFe.o.mono ?_;rintro e w3 ⟨rfl,hM3,hO3⟩;have H3:=hid (And.intro hM3 (HO2.o.trans hO3 fun k _ e=>e.elim (fun e=>Or.inr (Or.inl e)) (fun e=>Or.inr (Or.inr e))));clear hM3 hO3 HFe f0 f1 f2;go_wp2;go_end0
 exact⟨rfl,H3.o⟩
namespace Gd
def Vol.setLogs(M:Vol)(a:Nat)(b:List UInt8):Vol:={M with logs:=splice M.logs a b}
theorem Good.setLogs{V:List UInt8}{M:Vol}(h:Good V M){a:Nat}{b:List UInt8}(hb:a+b.length≤8192):Good (splice V (6784+a) b) (M.setLogs a b):=by
 have hV:=h.len;have hf:6784+a+b.length≤V.length:=by omega
 refine⟨by rw[splice_length hf];exact hV,h.shape,h.may,fun j j1 j2=> ?_,h.mapl,?_,h.blkl,fun n n1 n2=> ?_,?_,?_⟩
 ·rw[part_splice_apart (by unfold inoAt;omega) hf (by unfold inoAt;omega)];exact h.ino j j1 j2
 ·rw[part_splice_apart (by omega) hf (by omega)];exact h.map
 ·rw[part_splice_apart (by unfold blkAt;omega) hf (by unfold blkAt;omega)];exact h.blk n n1 n2
 ·rw[part_splice_apart (by omega) hf (by omega)];exact h.head
 ·show part _ 6784 8192=splice M.logs a b
  rw[part_splice_in hb (by omega),h.logs]
def Vl.setLog(V:Vl)(c a:Nat)(b:List UInt8):Vl:={V with lg:=updF V.lg c (splice (V.lg c) a b)}
theorem Vl.Ok.setLog{V:Vl}(h:V.Ok){c a:Nat}{b:List UInt8}(hb:a+b.length≤1024):(V.setLog c a b).Ok:=by
 refine⟨h.may,fun d d1 d2=> ?_,h.file⟩;show(if d=c then splice (V.lg c) a b else V.lg d).length=1024
 split
 ·rename_i e
  subst e;have:=h.log d d1 d2
  rw[splice_length (by omega)];exact this
 ·exact h.log d d1 d2
end Gd
section
variable {o x t f K n p v r:Nat} {V:Gd.Vl} {w a b:World} {Ls:List (Nat×Obj)}
theorem Vs.lasting[zc](h:Vs o x t f V K w a Ls)(hok:V.Ok)(hp:(p,zo v r)∈Ls){c at_:Nat}(c1:1≤c)(c2:c≤8)(A:Option Addr)(L:List UInt8)(cp:Nat)(hb:uB a A L)(hap:L≠[]→∀g o,A=some ⟨g,o,none⟩→g<w.heap.size∨∃o',(g,o')∈Ls)(ha:at_+L.length≤1024)(hK:K<900000000000):
 Calls prog 13 #[.pointer (some ⟨p,0,none⟩),.int .i64 ((6784+(1024*(c-1)+at_):Nat):Int),.slice A L.length cp] a fun e b=>e= .returned (.tuple #[])∧Vs o x t f (V.setLog c at_ L) (K+20000) w b Ls:=by
 obtain⟨S,M,hV,hF,hlg⟩:=h;obtain⟨sb,lb,ab,m,hM,hlow,hLs,hC⟩:=hV.1.mem;have hSl:S.length=23168:=hV.2.1.len;have hf:6784+(1024*(c-1)+at_)+L.length≤S.length:=by omega
 refine(Jf hM (hV.get hp) (hLs _ hp) (6784+(1024*(c-1)+at_)) A L cp hb (fun h0 g o hA=> ?_) hf (by omega) hK).mono ?_
 ·rcases hap h0 g o hA with h1|⟨o',h1⟩
  ·exact hlow g h1
  ·exact hLs _ h1
 rintro e b ⟨he,hM2,hO⟩;refine⟨he,_,M.setLogs (1024*(c-1)+at_) L,⟨hC _ _ b (Gd.splice_length hf) (Gd.part_splice_apart (by omega) hf (by omega)) hM2 hO,hV.2.1.setLogs (by omega),hV.2.2.same rfl⟩,hF.same rfl rfl rfl,fun d d1 d2=> ?_⟩;have hll:M.logs.length=8192:=by
  rw[←hV.2.1.logs];exact Gd.part_length (by show 6784+8192≤S.length;omega)
 show Gd.part (Gd.splice M.logs (1024*(c-1)+at_) L) (1024*(d-1)) 1024=if d=c then Gd.splice (V.lg c) at_ L else V.lg d
 by_cases e:d=c
 ·subst e;rw[if_pos rfl,Gd.part_splice_in ha (by omega),hlg d d1 d2]
 ·rw[if_neg e,Gd.part_splice_apart (by omega) (by omega) (by omega)];exact hlg d d1 d2
end
end
end Go.Proofs.YtccpdkjonepoiaaGreatDoor
