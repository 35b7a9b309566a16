/- Walks: the document's paths, link. -/
import Derived.Test.YtckoobkjpndgnaaGreatDoorW18
set_option linter.unusedVariables false
set_option linter.unusedSimpArgs false
set_option linter.unusedSectionVars false
set_option maxHeartbeats 8000000
set_option maxRecDepth 100000
namespace Go.Proofs.YtckoobkjpndgnaaGreatDoor
open Go.RowKit
open Lib(hid)
open Go.Proofs.Tryz
theorem rpath_code(s:ByteArray)(w:World)(hs:s.size≤100000):
 Calls prog 100 #[.string s] w fun e w'=>∃A n c,e= .returned (.tuple #[.slice A n c,.int .i64 (if(Np.pathL s.data.toList).isSome then 0 else 15)])∧Below w.heap.size w w':=by
 refine(rpath_any s w hs).mono fun e w' h=> ?_
 rcases h with⟨hG,rfl,hb⟩|⟨L,hG,A,c,rfl,_,_,hb⟩
 ·rw[hG];exact⟨none,0,0,rfl,hb⟩
 ·rw[hG];exact⟨A,L.length,c,rfl,hb⟩
theorem rpaths_any(kind flags fd off n:Int)(p p2 data:ByteArray)(w:World)(hp:p.size≤100000)(hp2:p2.size≤100000):
 Calls prog 103 #[callV kind p p2 flags fd off n data] w fun e w'=>e= .returned (.bool ((Np.pathL p.data.toList).isSome&&(Np.pathL p2.data.toList).isSome))∧Below w.heap.size w w':=by
 have h1:=fun W=>rpath_code p W hp;have h2:=fun W=>rpath_code p2 W hp2;unfold callV;have FB:=hid (heap_alloc_new w (.cells #[.int .i64 kind,.string p,.string p2,.int .i64 flags,.int .i64 fd,.int .i64 off,.int .i64 n,.string data] 28));generalize (Np.pathL p.data.toList).isSome=x at h1⊢;generalize (Np.pathL p2.data.toList).isSome=y at h2⊢
 cases x<;>cases y
 all_goals
  simp only[if_true,if_false,Bool.false_eq_true]at h1 h2;have H1:=hid h1;have H2:=hid h2;clear h1 h2;go_enter func103,ntmps103;go_wp2_with fail
  refine(H1.o _).mono ?_
  rintro e w1 ⟨A1,n1,c1,rfl,hb1⟩;have hbx:=(hb1.block w.heap.size (by simp)).trans FB.o;have b2:=cell_of_row w1 _ 2 _ _ _ hbx;have HB:=hid (((Below.refl w.heap.size w).alloc (Nat.le_refl _) _).trans (hb1.mono (by simp)));clear hbx;go_wp2_with fail
  refine(H2.o _).mono ?_
  rintro e w2 ⟨A2,n2,c2,rfl,hb2⟩;have HB2:=HB.t hb2;go_wp2;go_ret
  exact⟨rfl,HB2.o⟩
theorem rlink_any(r:Nat)(S:Pz.Fil)(kind flags fd off n:Int)(p p2 data:ByteArray)(w:World)(F:Nat→Prop)(hp:p.size≤100000)(hp2:p2.size≤100000)(hG:Pz.Good 1000 S)(hR:RefF r S w F):
 Calls prog 56 #[.pointer (some ⟨r,0,none⟩),callV kind p p2 flags fd off n data] w (Does (RefF r) (Pz.link S p.data.toList p2.data.toList) w F):=by
 have hE:=hG.e;have hN:=hG.n;have h0:=fun W=>rpaths_any kind flags fd off n p p2 data W hp hp2;have h1:=fun W G (hR:RefF r S W G)=>pfind_any 0 r S p W hp (by omega) (by omega) hG.ok hR.is;have h2:=fun W G (hR:RefF r S W G)=>place_any 0 r S p2 W hp2 (by omega) (by omega) hG.ok hR.is;have FX:=pst hR kind p p2 flags fd off n data;unfold callV at h0⊢;by_cases hok:Np.pathL p.data.toList=none∨Np.pathL p2.data.toList=none
 ·rw[Pz.link,if_pos hok];rw[show((Np.pathL p.data.toList).isSome&&(Np.pathL p2.data.toList).isSome)=false by rcases hok with h|h<;>rw[h]<;>simp]at h0;have H0:=hid h0;clear h0 h1 h2 hR hG hok hp hp2 hE hN;go_enter func56,ntmps56;go_wp2_with fail
  refine(H0.o _).mono ?_
  rintro e w1 ⟨rfl,hb1⟩;have FX1:=hid (FX.o.read (RefF.held _ _) hb1);go_wp2_with fail
  refine pfail FX1.o 15 fun wf FXF=> ?_;obtain⟨c0,c1,c2,c3,c4,c5,c6,f0,f1,f2,f3,f4,f5,f6⟩:=pcells FXF.o.res;go_wp2;try simp only[Exit.inBlock,Exit.then]
  exact pret rfl FXF.o none 0 (Or.inl rfl)
 rw[Pz.link,if_neg hok];rw[show((Np.pathL p.data.toList).isSome&&(Np.pathL p2.data.toList).isSome)=true by
  cases h:Np.pathL p.data.toList with
  |none=>exact absurd (Or.inl h) hok
  |some _=>cases h':Np.pathL p2.data.toList with
   |none=>exact absurd (Or.inr h') hok
   |some _=>rfl]at h0
 have H0:=hid h0
 cases hf:Pz.find S p.data.toList with
 |error v=>
  obtain⟨hv1,hv2,hv3⟩:=ne_of_err (Pz.find_err hf);rw[hf]at h1;simp only[toT]at h1;have HF:=hid h1;clear h0 h1 h2 hR hG hok hp hp2 hE hN hf;show Calls _ _ _ _ (Does (RefF r) (S,Pz.er v) w F)
  go_enter func56,ntmps56;go_wp2_with fail
  refine(H0.o _).mono ?_
  rintro e w1 ⟨rfl,hb1⟩;have FX1:=hid (FX.o.read (RefF.held _ _) hb1);obtain⟨b0,b1,b2,b3,b4,b5,b6,b7⟩:=FX1.o.c8;go_wp2_with fail
  refine(HF.o _ _ FX1.o.inv).mono ?_
  rintro e w2 ⟨rfl,hb2⟩;have FX2:=hid (FX1.o.read (RefF.held _ _) hb2);clear b0 b1 b2 b3 b4 b5 b6 b7;go_wp2_with fail
  refine pfail FX2.o v fun wf FXF=> ?_;obtain⟨c0,c1,c2,c3,c4,c5,c6,f0,f1,f2,f3,f4,f5,f6⟩:=pcells FXF.o.res;go_wp2;try simp only[Exit.inBlock,Exit.then]
  exact pret rfl FXF.o none 0 (Or.inl rfl)
 |ok m=>
  have hm:=Pz.find_lt hG.ok hf;rw[hf]at h1;simp only[toT]at h1;have HF:=hid h1;have HD:=hid fun W G (h:RefF r S W G)=>h.dirAt hm;obtain⟨q,hq⟩:=nm S.N.length;obtain⟨D,hD⟩:=nm (Pz.isDir S.N m);have Hq:=hid hq;rw[←hq,←hD]at HD;simp only[];rw[←hD];generalize hres:(if D=true then _ else _:Pz.Fil×Pz.Rep)=R;have HRes:=hid hres.symm;have hmq:m<q:=by omega
  have hm1:(0:Int)≤m:=by omega
  have hm2:(m:Int)<q:=by omega
  have HG0:=hid (And.intro hG (And.intro h2 (And.intro hE hN)));clear h0 h1 hq hD hres hG hR hok hf h2 hE hN hp hp2 hm;go_enter func56,ntmps56;go_wp2_with fail
  refine(H0.o _).mono ?_
  rintro e w1 ⟨rfl,hb1⟩;have FX1:=hid (FX.o.read (RefF.held _ _) hb1);obtain⟨b0,b1,b2,b3,b4,b5,b6,b7⟩:=FX1.o.c8;go_wp2_with fail
  refine(HF.o _ _ FX1.o.inv).mono ?_
  rintro e w2 ⟨rfl,hb2⟩;have FX2:=hid (FX1.o.read (RefF.held _ _) hb2);clear b0 b1 b2 b3 b4 b5 b6 b7;obtain⟨b,c,g,g0,_,_⟩:=HD.o _ _ FX2.o.inv;obtain⟨b0,b1,b2,b3,b4,b5,b6,b7⟩:=FX2.o.c8
  cases D with
  |true=>
   have HRes1:=hid (HRes.o.trans (if_pos rfl));go_wp2_with fail
   refine pfail FX2.o 13 fun wf FXF=> ?_;obtain⟨c0,c1,c2,c3,c4,c5,c6,f0,f1,f2,f3,f4,f5,f6⟩:=pcells FXF.o.res;go_wp2;try simp only[Exit.inBlock,Exit.then]
   exact pret HRes1.o FXF.o none 0 (Or.inl rfl)
  |false=>
   have HRes1:=hid (HRes.o.trans (if_neg (by decide)));obtain⟨hG,h2,hE,hN⟩:=HG0.o;by_cases h47:p2.data.toList=[47]
   ·have HRes2:=hid (HRes1.o.trans (if_pos h47));have h47b:(p2.toList==[47])=true:=by rw[beq_iff_eq,Lib.toList_data];exact h47
    clear hG h2 hE hN h47;go_wp2_with fail
    refine pfail FX2.o 11 fun wf FXF=> ?_;obtain⟨c0,c1,c2,c3,c4,c5,c6,f0,f1,f2,f3,f4,f5,f6⟩:=pcells FXF.o.res;go_wp2;try simp only[Exit.inBlock,Exit.then]
    exact pret HRes2.o FXF.o none 0 (Or.inl rfl)
   have HRes2:=hid (HRes1.o.trans (if_neg h47));have hp47:=path_ne h47;clear h47
   cases hpl:Pz.place S p2.data.toList with
   |error v=>
    obtain⟨hv1,hv2,hv3⟩:=ne_of_err (Pz.place_err hpl);rw[hpl]at h2;have HRes3:Hid (R=(S,Pz.er v)):=hid (by rw[HRes2.o,hpl]);simp only[toP]at h2;have HP:=hid h2;clear hG h2 hE hN hpl;go_wp2_with fail
    refine(HP.o _ _ FX2.o.inv).mono ?_
    rintro e w3 ⟨rfl,hb3⟩;have FX3:=hid (FX2.o.read (RefF.held _ _) hb3);clear b0 b1 b2 b3 b4 b5 b6 b7;clear g g0;go_wp2_with fail
    refine pfail FX3.o v fun wf FXF=> ?_;obtain⟨c0,c1,c2,c3,c4,c5,c6,f0,f1,f2,f3,f4,f5,f6⟩:=pcells FXF.o.res;go_wp2;try simp only[Exit.inBlock,Exit.then]
    exact pret HRes3.o FXF.o none 0 (Or.inl rfl)
   |ok dx=>
    obtain⟨d,x⟩:=dx;rw[hpl]at h2;simp only[toP]at h2;have HP:=hid h2;have HL:=hid fun W G (h:RefF r S W G)=>look_any 0 r S d ⟨x.toArray⟩ W (by omega) h.is;obtain⟨z,hz⟩:=nm (Pz.look S.E d x);rw[show(⟨x.toArray⟩:ByteArray).data.toList=x from rfl,←hz]at HL;obtain⟨l,hl⟩:=nm ((Pz.nodeD S.N m).links);have hlb:l≤20∧ -1000≤l:=by rw[hl];exact Pz.nodeD_links hG (by have:=Hq.o;omega)
    obtain⟨hlb1,hlb2⟩:=hlb;have HRes3:Hid (R=if 0≤z then(S,Pz.er 11)else if l=20 then(S,Pz.er 20)else({S with E:=S.E++[⟨d,x,m⟩],N:=S.N.set m {Pz.nodeD S.N m with links:=l+1}},Pz.er 0)):=hid (by rw[HRes2.o,hpl,hz,hl]);have HPut:=hid fun W G (h:RefF r S W G)=>pput_any r S d m ⟨x.toArray⟩ W G (by omega) h;have HD2:=hid fun W G (h:RefF r {S with E:=S.E++[(⟨d,x,m⟩:Pz.En)]} W G)=>h.nodeAt (show m<S.N.length by have:=Hq.o;omega);simp only[←Hq.o,←hl]at HD2;rw[←hl]at HD;clear hG h2 hE hN hpl hz hl;go_wp2_with fail
    refine(HP.o _ _ FX2.o.inv).mono ?_
    rintro e w3 ⟨rfl,hb3⟩;have FX3:=hid (FX2.o.read (RefF.held _ _) hb3);clear b0 b1 b2 b3 b4 b5 b6 b7;clear g g0;go_wp2_with fail
    refine(HL.o _ _ FX3.o.inv).mono ?_
    rintro e w4 ⟨rfl,hb4⟩;have FX4:=hid (FX3.o.read (RefF.held _ _) hb4);by_cases hz0:0≤z
    ·have HRes4:=hid (HRes3.o.trans (if_pos hz0));go_wp2_with fail
     refine pfail FX4.o 11 fun wf FXF=> ?_;obtain⟨c0,c1,c2,c3,c4,c5,c6,f0,f1,f2,f3,f4,f5,f6⟩:=pcells FXF.o.res;go_wp2;try simp only[Exit.inBlock,Exit.then]
     exact pret HRes4.o FXF.o none 0 (Or.inl rfl)
    have HRes4:=hid (HRes3.o.trans (if_neg hz0));have hz1:z<0:=by omega
    obtain⟨b,c,g,_,_,g2⟩:=HD.o _ _ FX4.o.inv;by_cases hl20:l=20
    ·have HRes5:=hid (HRes4.o.trans (if_pos hl20));have hl20b:(l==20)=true:=by rw[beq_iff_eq];exact hl20
     clear hl20;go_wp2_with fail
     refine pfail FX4.o 20 fun wf FXF=> ?_;obtain⟨c0,c1,c2,c3,c4,c5,c6,f0,f1,f2,f3,f4,f5,f6⟩:=pcells FXF.o.res;go_wp2;try simp only[Exit.inBlock,Exit.then]
     exact pret HRes5.o FXF.o none 0 (Or.inl rfl)
    have HRes5:=hid (HRes4.o.trans (if_neg hl20));have hl20b:(l==20)=false:=by rw[beq_eq_false_iff_ne];exact hl20
    go_wp2_with fail
    refine(HPut.o _ _ FX4.o.inv).mono ?_
    rintro e w5 ⟨rfl,hi5,ho5⟩;have FX5:=hid (FX4.o.write (RefF.held _ _) hi5 ho5);clear hi5 ho5 g g2;obtain⟨b5,c5,g5,_,_,g52,_,f52,_,hst⟩:=HD2.o _ _ FX5.o.inv;have FX6:=hid (FX5.o.put (RefF.held _ _) (hst (l+1)).1 (hst (l+1)).2);clear hst;obtain⟨c0,c1,c2,c3,c4,c5,c6,f0,f1,f2,f3,f4,f5,f6⟩:=pcells FX6.o.res;go_wp2;try simp only[Exit.inBlock,Exit.then]
    exact pret HRes5.o FX6.o none 0 (Or.inl rfl)
namespace Pz
theorem look_take_same{E:List En}{i:Nat}{x:List UInt8}:look (take E i x) i x= -1:=by
 induction E with
 |nil=>rfl
 |cons e r ih=>
  unfold take at ih⊢;rw[List.filter_cons];by_cases h:e.dir=i∧e.name=x
  ·rw[if_neg (by simp[h])];exact ih
  ·rw[if_pos (by simp only[h,not_false_iff,decide_true]),look,if_neg h];exact ih
theorem look_take_other{E:List En}{i j:Nat}{x y:List UInt8}(hne:¬(j=i∧y=x)):look (take E i x) j y=look E j y:=by
 induction E with
 |nil=>rfl
 |cons e r ih=>
  unfold take at ih⊢;rw[List.filter_cons];by_cases h:e.dir=i∧e.name=x
  ·rw[if_neg (by simp[h]),look,if_neg (by rintro⟨h1,h2⟩;exact hne ⟨h1.symm.trans h.1,h2.symm.trans h.2⟩)];exact ih
  ·rw[if_pos (by simp only[h,not_false_iff,decide_true]),look,look,ih]
theorem count_of_look{E:List En}{i:Nat}{x:List UInt8}(h:0≤look E i x):0<count E i:=by
 induction E with
 |nil=>rw[look]at h;omega
 |cons e r ih=>
  unfold count at ih⊢;rw[look]at h;rw[List.filter_cons];by_cases hd:e.dir=i
  ·rw[if_pos (by simp[hd])];simp
  ·rw[if_neg (by simp[hd])];rw[if_neg (fun e=>hd e.1)]at h;exact ih h
theorem isDir_set{N:List Nd}{n:Nat}{y:Nd}(hy:y.dir=isDir N n):∀k,isDir (N.set n y) k=isDir N k:=by
 intro k;unfold isDir at hy⊢;by_cases h:n=k
 ·subst h;by_cases hl:n<N.length
  ·rw[List.getElem?_set_self hl,List.getElem?_eq_getElem hl];rw[List.getElem?_eq_getElem hl]at hy;exact hy
  ·rw[List.getElem?_eq_none (by simp;omega),List.getElem?_eq_none (by omega)]
 ·rw[List.getElem?_set_ne h]
theorem nodeD_dir(N:List Nd)(n:Nat):(nodeD N n).dir=isDir N n:=by
 unfold nodeD isDir
 cases N[n]? <;>rfl
theorem walk_apart{S T:Fil}{d:Nat}{x:List UInt8}(hT:∀k,isDir T.N k=isDir S.N k)(hE:T.E=take S.E d x)(hw:0≤look S.E d x→isDir S.N (look S.E d x).toNat=false∨count S.E (look S.E d x).toNat=0)
 {o:Nat}(hod:isDir S.N o=true)(hoc:0<count S.E o):∀{L:List (List UInt8)} {i:Nat},walk S i L= .ok o→walk T i L= .ok o
 |[],i,h=>by rw[walk]at h⊢;exact h
 |y::L,i,h=>by
  rw[walk]at h⊢;rw[hT];split at h
  ·rename_i hd
   rw[if_pos hd];split at h
   ·cases h
   ·rename_i hl
    by_cases hc:i=d∧y=x
    ·exfalso
     obtain⟨rfl,rfl⟩:=hc;rcases hw (by omega)with hf|h0
     ·cases L with
      |nil=>
       rw[walk]at h
       cases h
       rw[hf]at hod
       cases hod
      |cons y' L'=>
       rw[walk,hf]at h
       cases h
     ·cases L with
      |nil=>
       rw[walk]at h
       cases h
       omega
      |cons y' L'=>
       rw[walk]at h;split at h
       ·split at h
        ·cases h
        ·rename_i hl'
         have:=count_of_look (E:=S.E) (x:=y') (i:=(look S.E i y).toNat) (by omega)
         omega
       ·cases h
    ·have e:look T.E i y=look S.E i y:=by rw[hE];exact look_take_other hc
     rw[e,if_neg hl];exact walk_apart hT hE hw hod hoc h
  ·cases h
theorem place_walk{S:Fil}{p:List UInt8}{o:Nat}{y:List UInt8}(h:place S p= .ok (o,y)):∃L,Np.pathL p=some (L++[y])∧walk S 0 L= .ok o∧isDir S.N o=true:=by
 unfold place at h;split at h
 ·cases h
 ·rename_i L hL
  split at h
  ·cases h
  ·rename_i x hx
   cases hw:walk S 0 L.dropLast with
   |error e=>rw[hw]at h;cases h
   |ok n=>
    rw[hw]at h;unfold placeOn at h;simp only at h
    split at h
    ·rename_i hd
     cases h
     refine⟨L.dropLast,?_,hw,hd⟩;rw[hL];congr 1
     have hne:L≠[]:=fun e=>by subst e;simp at hx
     rw[List.getLast?_eq_some_getLast hne]at hx
     cases hx
     exact(List.dropLast_concat_getLast hne).symm
    ·cases h
theorem place_of_walk{S:Fil}{p:List UInt8}{o:Nat}{y:List UInt8}{L:List (List UInt8)}(hL:Np.pathL p=some (L++[y]))(hw:walk S 0 L= .ok o)(hd:isDir S.N o=true):place S p= .ok (o,y):=by
 unfold place;rw[hL];simp only[List.getLast?_concat,List.dropLast_concat,hw,placeOn,if_pos hd]
theorem place_over{S:Fil}{p:List UInt8}{n:Nat}{d:Nat}{x:List UInt8}{o:Nat}{y:List UInt8}(hp:place S p= .ok (o,y))(hl:look S.E o y=n)(h0:0≤look S.E d x)(hov:overErr S n (look S.E d x)=0):
 place (over S (look S.E d x) (d,x)) p= .ok (o,y):=by
 obtain⟨L,hL,hw,hd⟩:=place_walk hp;have hT:∀k,isDir (over S (look S.E d x) (d,x)).N k=isDir S.N k:=by
  intro k;unfold over;rw[if_pos h0];simp only
  split
  ·rfl
  ·refine isDir_set ?_ k;exact nodeD_dir _ _
 have hE:(over S (look S.E d x) (d,x)).E=take S.E d x:=by unfold over;rw[if_pos h0]
 refine place_of_walk hL (walk_apart hT hE (fun _=> ?_) hd (count_of_look (by rw[hl];omega)) hw) (by rw[hT];exact hd);unfold overErr at hov;rw[if_pos h0]at hov;by_cases h1:isDir S.N (look S.E d x).toNat=true
 ·right
  rw[if_pos h1,if_pos h1]at hov;split at hov
  ·split at hov
   ·omega
   ·omega
  ·omega
 ·left;simpa using h1
theorem overErr_nat{S:Fil}{m k:Nat}:overErr S m (k:Int)=if isDir S.N m then(if isDir S.N k then(if 0<count S.E k then 14 else 0)else 12)else(if isDir S.N k then 13 else 0):=by
 unfold overErr;rw[if_pos (by omega)];rfl
theorem over_nat{S:Fil}{k:Nat}{q:Nat×List UInt8}:over S (k:Int) q={S with E:=take S.E q.1 q.2,N:=if isDir S.N k then S.N else S.N.set k {nodeD S.N k with links:=(nodeD S.N k).links-1}}:=by
 unfold over;rw[if_pos (by omega)];rfl
theorem ok_take{S:Fil}(h:Ok S)(d:Nat)(x:List UInt8):Ok {S with E:=take S.E d x}:=
 ⟨h.root,fun e he=>h.ent e (List.mem_filter.1 he).1,h.opn⟩
theorem ok_set{S:Fil}(h:Ok S)(n:Nat)(y:Nd):Ok {S with N:=S.N.set n y}:=
 ⟨by simpa using h.root,fun e he=>by simpa using h.ent e he,fun o ho=>by simpa using h.opn o ho⟩
theorem over_len{S:Fil}(z:Int)(q:Nat×List UInt8):(over S z q).N.length=S.N.length∧(over S z q).E.length≤S.E.length∧(over S z q).O=S.O:=by
 unfold over;split
 ·refine⟨?_,take_le _ _ _,rfl⟩;simp only
  split
  ·rfl
  ·simp
 ·exact⟨rfl,Nat.le_refl _,rfl⟩
end Pz
theorem both_of{p p2:List UInt8}(h:¬(Np.pathL p=none∨Np.pathL p2=none)):((Np.pathL p).isSome&&(Np.pathL p2).isSome)=true:=by
 cases h1:Np.pathL p with
 |none=>exact absurd (Or.inl h1) h
 |some _=>cases h2:Np.pathL p2 with
  |none=>exact absurd (Or.inr h2) h
  |some _=>rfl
theorem both_not{p p2:List UInt8}(h:Np.pathL p=none∨Np.pathL p2=none):((Np.pathL p).isSome&&(Np.pathL p2).isSome)=false:=by
 rcases h with h|h<;>rw[h]<;>simp
theorem path_is{p:ByteArray}(h:p.data.toList=[47]):(p.toList==[47])=true:=by rw[beq_iff_eq,Lib.toList_data];exact h
theorem rrename_bad(r:Nat)(S:Pz.Fil)(kind flags fd off n:Int)(p p2 data:ByteArray)(w:World)(F:Nat→Prop)(hp:p.size≤100000)(hp2:p2.size≤100000)(hbad:Np.pathL p.data.toList=none∨Np.pathL p2.data.toList=none∨p.data.toList=[47]∨p2.data.toList=[47])(hR:RefF r S w F):
 Calls prog 58 #[.pointer (some ⟨r,0,none⟩),callV kind p p2 flags fd off n data] w (Does (RefF r) (S,Pz.er 15) w F):=by
 have h0:=fun W=>rpaths_any kind flags fd off n p p2 data W hp hp2;have FX:=pst hR kind p p2 flags fd off n data;unfold callV at h0⊢;by_cases hok:Np.pathL p.data.toList=none∨Np.pathL p2.data.toList=none
 ·rw[both_not hok]at h0;have H0:=hid h0;clear h0 hR hok hbad hp hp2;go_enter func58,ntmps58;go_wp2_with fail
  refine ppl FX H0 fun w1 FX1=> ?_;obtain⟨b0,b1,b2,b3,b4,b5,b6,b7⟩:=FX1.o.c8;go_wp2_with fail
  refine pfail FX1.o 15 fun wf FXF=> ?_;obtain⟨c0,c1,c2,c3,c4,c5,c6,f0,f1,f2,f3,f4,f5,f6⟩:=pcells FXF.o.res;go_wp2;try simp only[Exit.inBlock,Exit.then]
  exact pret rfl FXF.o none 0 (Or.inl rfl)
 rw[both_of hok]at h0;have H0:=hid h0;by_cases h47:p.data.toList=[47]
 ·have h47b:=path_is h47;clear h0 hR hok hbad h47 hp hp2;go_enter func58,ntmps58;go_wp2_with fail
  refine ppl FX H0 fun w1 FX1=> ?_;obtain⟨b0,b1,b2,b3,b4,b5,b6,b7⟩:=FX1.o.c8;go_wp2_with fail
  refine pfail FX1.o 15 fun wf FXF=> ?_;obtain⟨c0,c1,c2,c3,c4,c5,c6,f0,f1,f2,f3,f4,f5,f6⟩:=pcells FXF.o.res;go_wp2;try simp only[Exit.inBlock,Exit.then]
  exact pret rfl FXF.o none 0 (Or.inl rfl)
 have h47n:=path_ne h47;have h47b:=path_is (p:=p2) (by
  rcases hbad with h|h|h|h
  ·exact absurd (Or.inl h) hok
  ·exact absurd (Or.inr h) hok
  ·exact absurd h h47
  ·exact h)
 clear h0 hR hok hbad h47 hp hp2;go_enter func58,ntmps58;go_wp2_with fail
 refine ppl FX H0 fun w1 FX1=> ?_;obtain⟨b0,b1,b2,b3,b4,b5,b6,b7⟩:=FX1.o.c8;go_wp2_with fail
 refine pfail FX1.o 15 fun wf FXF=> ?_;obtain⟨c0,c1,c2,c3,c4,c5,c6,f0,f1,f2,f3,f4,f5,f6⟩:=pcells FXF.o.res;go_wp2;try simp only[Exit.inBlock,Exit.then]
 exact pret rfl FXF.o none 0 (Or.inl rfl)
structure RenPre(S:Pz.Fil)(p p2:ByteArray):Prop where
 hp:p.size≤100000
 hp2:p2.size≤100000
 good:Pz.Good 1000 S
 ok:¬(Np.pathL p.data.toList=none∨Np.pathL p2.data.toList=none)
 h1:¬p.data.toList=[47]
 h2:¬p2.data.toList=[47]
theorem rrename_err(r:Nat)(S:Pz.Fil)(kind flags fd off n:Int)(p p2 data:ByteArray)(w:World)(F:Nat→Prop)(hpre:RenPre S p p2)(v:Int)(hf:Pz.find S p.data.toList= .error v)(hR:RefF r S w F):
 Calls prog 58 #[.pointer (some ⟨r,0,none⟩),callV kind p p2 flags fd off n data] w (Does (RefF r) (S,Pz.er v) w F):=by
 have h0:=fun W=>rpaths_any kind flags fd off n p p2 data W hpre.hp hpre.hp2;have hE:=hpre.good.e;have hN:=hpre.good.n;have h1:=fun W G (hR:RefF r S W G)=>pfind_any 0 r S p W hpre.hp (by omega) (by omega) hpre.good.ok hR.is;have FX:=pst hR kind p p2 flags fd off n data;unfold callV at h0⊢;rw[both_of hpre.ok]at h0;have H0:=hid h0;have h47a:=path_ne hpre.h1;have h47b:=path_ne hpre.h2;obtain⟨hv1,hv2,hv3⟩:=ne_of_err (Pz.find_err hf);rw[hf]at h1;simp only[toT]at h1;have HF:=hid h1;clear h0 h1 hR hE hN hpre hf;go_enter func58,ntmps58;go_wp2_with fail
 refine ppl FX H0 fun w1 FX1=> ?_;obtain⟨b0,b1,b2,b3,b4,b5,b6,b7⟩:=FX1.o.c8;go_wp2_with fail
 refine prd FX1 HF fun w2 FX2=> ?_;clear b0 b1 b2 b3 b4 b5 b6 b7;obtain⟨b0,b1,b2,b3,b4,b5,b6,b7⟩:=FX2.o.c8;go_wp2_with fail
 refine pfail FX2.o v fun wf FXF=> ?_;obtain⟨c0,c1,c2,c3,c4,c5,c6,f0,f1,f2,f3,f4,f5,f6⟩:=pcells FXF.o.res;go_wp2;try simp only[Exit.inBlock,Exit.then]
 exact pret rfl FXF.o none 0 (Or.inl rfl)
theorem rrename_dir(r:Nat)(S:Pz.Fil)(kind flags fd off n:Int)(p p2 data:ByteArray)(w:World)(F:Nat→Prop)(hpre:RenPre S p p2)(m:Nat)(hf:Pz.find S p.data.toList= .ok m)(hDt:Pz.isDir S.N m=true)(hR:RefF r S w F):
 Calls prog 58 #[.pointer (some ⟨r,0,none⟩),callV kind p p2 flags fd off n data] w (Does (RefF r) (Pz.rename S p.data.toList p2.data.toList) w F):=by
 have h0:=fun W=>rpaths_any kind flags fd off n p p2 data W hpre.hp hpre.hp2;have hE:=hpre.good.e;have hN:=hpre.good.n;have h1:=fun W G (hR:RefF r S W G)=>pfind_any 0 r S p W hpre.hp (by omega) (by omega) hpre.good.ok hR.is;have h2:=fun W G (hR:RefF r S W G)=>place_any 0 r S p2 W hpre.hp2 (by omega) (by omega) hpre.good.ok hR.is;have FX:=pst hR kind p p2 flags fd off n data;unfold callV at h0⊢;rw[both_of hpre.ok]at h0;have H0:=hid h0;have h47a:=path_ne hpre.h1;have h47b:=path_ne hpre.h2;have hm:=Pz.find_lt hpre.good.ok hf;obtain⟨o,y,hpo,hlk,hod⟩:=Pz.place_of_find hf hpre.h1;rw[hf]at h1;simp only[toT]at h1;have HF:=hid h1;have HD:=hid fun W G (h:RefF r S W G)=>h.dirAt hm;obtain⟨q,hq⟩:=nm S.N.length;have Hq:=hid hq;rw[←hq,hDt]at HD;obtain⟨R,hres⟩:=nm (Pz.rename S p.data.toList p2.data.toList);rw[←hres]
 have HRes1:Hid (R=if p.data.toList≠p2.data.toList∧insideB (Np.pathL p2.data.toList) (Np.pathL p.data.toList)=true then(S,Pz.er 15)else
  match Pz.place S p2.data.toList with
  | .error g=>(S,Pz.er g)
  | .ok q=>if Pz.look S.E q.1 q.2=m then(S,Pz.er 0)else if Pz.overErr S m (Pz.look S.E q.1 q.2)≠0 then(S,Pz.er (Pz.overErr S m (Pz.look S.E q.1 q.2)))else
   match Pz.place S p.data.toList with
   | .error _=>(S,Pz.er 0)
   | .ok o=>({Pz.over S (Pz.look S.E q.1 q.2) q with E:=Pz.take (Pz.over S (Pz.look S.E q.1 q.2) q).E o.1 o.2++[⟨q.1,q.2,m⟩]},Pz.er 0)):=hid (by
  rw[hres,Pz.rename,if_neg (by
   rintro(h|h|h|h)
   ·exact hpre.ok (Or.inl h)
   ·exact hpre.ok (Or.inr h)
   ·exact hpre.h1 h
   ·exact hpre.h2 h),hf]
  simp only[hDt,true_and];rfl)
 have hmq:m<q:=by omega
 have hm1:(0:Int)≤m:=by omega
 have hm2:(m:Int)<q:=by omega
 clear h0 h1 hq hres hR hE hN hm hod;by_cases hpp:p.data.toList=p2.data.toList
 ·have hpb:(p.toList==p2.toList)=true:=by rw[beq_iff_eq,Lib.toList_data,Lib.toList_data];exact hpp
  have HRes2:=hid (HRes1.o.trans (if_neg fun h=>h.1 hpp));have hpl:Pz.place S p2.data.toList= .ok (o,y):=by rw[←hpp];exact hpo
  rw[hpl]at h2;simp only[toP]at h2;have HP:=hid h2;have hE:=hpre.good.e;have HL:=hid fun W G (h:RefF r S W G)=>look_any 0 r S o ⟨y.toArray⟩ W (by omega) h.is;rw[show(⟨y.toArray⟩:ByteArray).data.toList=y from rfl,hlk]at HL;have HRes3:Hid (R=(S,Pz.er 0)):=hid (by rw[HRes2.o,hpl];simp only[hlk,if_true]);have hzb:((m:Int)==(m:Int))=true:=by simp
  clear hpp hpl h2 hpre hlk hf hpo hE hDt;go_enter func58,ntmps58;go_wp2_with fail
  refine ppl FX H0 fun w1 FX1=> ?_;obtain⟨b0,b1,b2,b3,b4,b5,b6,b7⟩:=FX1.o.c8;go_wp2_with fail
  refine prd FX1 HF fun w2 FX2=> ?_;clear b0 b1 b2 b3 b4 b5 b6 b7;obtain⟨b0,b1,b2,b3,b4,b5,b6,b7⟩:=FX2.o.c8;obtain⟨b,c,g,g0,_,_⟩:=HD.o _ _ FX2.o.inv;go_wp2_with fail
  refine prd FX2 HP fun w3 FX3=> ?_;clear b0 b1 b2 b3 b4 b5 b6 b7;clear g g0;go_wp2_with fail
  refine prd FX3 HL fun w4 FX4=> ?_;obtain⟨b0,b1,b2,b3,b4,b5,b6,b7⟩:=FX4.o.c8;clear b0 b1 b2 b3 b4 b5 b6 b7;obtain⟨c0,c1,c2,c3,c4,c5,c6,f0,f1,f2,f3,f4,f5,f6⟩:=pcells FX4.o.res;go_wp2;try simp only[Exit.inBlock,Exit.then]
  exact pret HRes3.o FX4.o none 0 (Or.inl rfl)
 have hpb:(p.toList==p2.toList)=false:=by rw[beq_eq_false_iff_ne,Lib.toList_data,Lib.toList_data];exact hpp
 have h4:=fun W=>rinside_any p2 p W hpre.hp2 hpre.hp
 cases hin:insideB (Np.pathL p2.data.toList) (Np.pathL p.data.toList)with
 |true=>
  have HRes2:=hid (HRes1.o.trans (if_pos ⟨hpp,hin⟩));rw[hin]at h4;have HI:=hid h4;clear hpp h2 h4 hpre hlk hf hpo hDt hin;go_enter func58,ntmps58;go_wp2_with fail
  refine ppl FX H0 fun w1 FX1=> ?_;obtain⟨b0,b1,b2,b3,b4,b5,b6,b7⟩:=FX1.o.c8;go_wp2_with fail
  refine prd FX1 HF fun w2 FX2=> ?_;clear b0 b1 b2 b3 b4 b5 b6 b7;obtain⟨b0,b1,b2,b3,b4,b5,b6,b7⟩:=FX2.o.c8;obtain⟨b,c,g,g0,_,_⟩:=HD.o _ _ FX2.o.inv;go_wp2_with fail
  refine ppl FX2 HI fun w3 FX3=> ?_;clear b0 b1 b2 b3 b4 b5 b6 b7;clear g g0;go_wp2_with fail
  refine pfail FX3.o 15 fun wf FXF=> ?_;obtain⟨c0,c1,c2,c3,c4,c5,c6,f0,f1,f2,f3,f4,f5,f6⟩:=pcells FXF.o.res;go_wp2;try simp only[Exit.inBlock,Exit.then]
  exact pret HRes2.o FXF.o none 0 (Or.inl rfl)
 |false=>
  have HRes2:=hid (HRes1.o.trans (if_neg fun h=>by rw[hin]at h;exact absurd h.2 (by decide)));rw[hin]at h4;have HI:=hid h4;have HPre:=hid (And.intro hpre (And.intro h2 (And.intro hlk (And.intro hf (And.intro hpo hDt)))));clear hpp h2 h4 hpre hlk hf hpo hDt hin;go_enter func58,ntmps58;go_wp2_with fail
  refine ppl FX H0 fun w1 FX1=> ?_;obtain⟨b0,b1,b2,b3,b4,b5,b6,b7⟩:=FX1.o.c8;go_wp2_with fail
  refine prd FX1 HF fun w2 FX2=> ?_;clear b0 b1 b2 b3 b4 b5 b6 b7;obtain⟨b0,b1,b2,b3,b4,b5,b6,b7⟩:=FX2.o.c8;obtain⟨b,c,g,g0,_,_⟩:=HD.o _ _ FX2.o.inv;clear b0 b1 b2 b3 b4 b5 b6 b7;have h1:=FX2.o.c8;obtain⟨b0,b1,b2,b3,b4,b5,b6,b7⟩:=h1;go_wp2_with fail
  refine ppl FX2 HI fun w2a FX2a=> ?_;clear b0 b1 b2 b3 b4 b5 b6 b7;clear g g0;obtain⟨b,c,g,g0,_,_⟩:=HD.o _ _ FX2a.o.inv;have FX2:=FX2a;clear FX2a;obtain⟨b0,b1,b2,b3,b4,b5,b6,b7⟩:=FX2.o.c8;obtain⟨hpre,h2,hlk,hf,hpo,hDt⟩:=HPre.o
  cases hpl:Pz.place S p2.data.toList with
  |error v=>
   clear hDt hlk hpo;obtain⟨hv1,hv2,hv3⟩:=ne_of_err (Pz.place_err hpl);rw[hpl]at h2;have HRes3:Hid (R=(S,Pz.er v)):=hid (by rw[HRes2.o,hpl]);simp only[toP]at h2;have HP:=hid h2;clear h2 hpl hpre hf;go_wp2_with fail
   refine prd FX2 HP fun w3 FX3=> ?_;clear b0 b1 b2 b3 b4 b5 b6 b7;clear g g0;go_wp2_with fail
   refine pfail FX3.o v fun wf FXF=> ?_;obtain⟨c0,c1,c2,c3,c4,c5,c6,f0,f1,f2,f3,f4,f5,f6⟩:=pcells FXF.o.res;go_wp2;try simp only[Exit.inBlock,Exit.then]
   exact pret HRes3.o FXF.o none 0 (Or.inl rfl)
  |ok dx=>
   obtain⟨d,x⟩:=dx;rw[hpl]at h2;simp only[toP]at h2;have HP:=hid h2;have hE:=hpre.good.e;have hN:=hpre.good.n;have HL:=hid fun W G (h:RefF r S W G)=>look_any 0 r S d ⟨x.toArray⟩ W (by omega) h.is;have HRes3:Hid (R=if Pz.look S.E d x=m then(S,Pz.er 0)else if Pz.overErr S m (Pz.look S.E d x)≠0 then(S,Pz.er (Pz.overErr S m (Pz.look S.E d x)))else match Pz.place S p.data.toList with| .error _=>(S,Pz.er 0)| .ok o=>({Pz.over S (Pz.look S.E d x) (d,x)with E:=Pz.take (Pz.over S (Pz.look S.E d x) (d,x)).E o.1 o.2++[⟨d,x,m⟩]},Pz.er 0)):=hid (by rw[HRes2.o,hpl]);have hlq:=Pz.look_lt (n:=S.N.length) (i:=d) (x:=x) hpre.good.ok.ent;by_cases hzm:Pz.look S.E d x=m
   ·clear hDt hlk hpo;have HRes4:=hid (HRes3.o.trans (if_pos hzm));rw[show(⟨x.toArray⟩:ByteArray).data.toList=x from rfl,hzm]at HL;have hzb:((m:Int)==(m:Int))=true:=by simp
    clear h2 hpl hpre hf hE hN hzm hlq;go_wp2_with fail
    refine prd FX2 HP fun w3 FX3=> ?_;clear b0 b1 b2 b3 b4 b5 b6 b7;clear g g0;go_wp2_with fail
    refine prd FX3 HL fun w4 FX4=> ?_;obtain⟨b0,b1,b2,b3,b4,b5,b6,b7⟩:=FX4.o.c8;clear b0 b1 b2 b3 b4 b5 b6 b7;obtain⟨c0,c1,c2,c3,c4,c5,c6,f0,f1,f2,f3,f4,f5,f6⟩:=pcells FX4.o.res;go_wp2;try simp only[Exit.inBlock,Exit.then]
    exact pret HRes4.o FX4.o none 0 (Or.inl rfl)
   by_cases hz:Pz.look S.E d x<0
   ·clear hDt;have hz0:Pz.look S.E d x<0:=by omega
    have HResF:Hid (R=({S with E:=Pz.take S.E o y++[⟨d,x,m⟩]},Pz.er 0)):=hid (by
     rw[HRes3.o,if_neg hzm,if_neg (by unfold Pz.overErr;rw[if_neg (by omega)];simp),hpo];unfold Pz.over;rw[if_neg (by omega)])
    rw[show(⟨x.toArray⟩:ByteArray).data.toList=x from rfl]at HL;have hzb:(Pz.look S.E d x==(m:Int))=false:=by rw[beq_eq_false_iff_ne];exact hzm
    generalize Pz.look S.E d x=z at HL hz0 hzb;have h3:=fun W G (hR:RefF r S W G)=>place_any 0 r S p W hpre.hp (by omega) (by omega) hpre.good.ok hR.is;rw[hpo]at h3;simp only[toP]at h3;have HP1:=hid h3;have HT2:=hid fun W G (h:RefF r S W G)=>ptake_any r S o ⟨y.toArray⟩ W G (by omega) h;have HPut:=hid fun W G (h:RefF r {S with E:=Pz.take S.E o y} W G)=>pput_any r {S with E:=Pz.take S.E o y} d m ⟨x.toArray⟩ W G (by have:=Pz.take_le S.E o y;show(Pz.take S.E o y).length≤_;omega) h;clear h2 h3 hpl hpre hf hE hN hzm hlq HRes3 hpo hlk;go_wp2_with fail
    refine prd FX2 HP fun w3 FX3=> ?_;clear b0 b1 b2 b3 b4 b5 b6 b7;clear g g0;go_wp2_with fail
    refine prd FX3 HL fun w4 FX4=> ?_;obtain⟨b0,b1,b2,b3,b4,b5,b6,b7⟩:=FX4.o.c8;go_wp2_with fail
    refine prd FX4 HP1 fun w7 FX7=> ?_;clear b0 b1 b2 b3 b4 b5 b6 b7;go_wp2_with fail
    refine pwr FX7 HT2 fun w8 FX8=> ?_;go_wp2_with fail
    refine pwr FX8 HPut fun w9 FX9=> ?_;obtain⟨c0,c1,c2,c3,c4,c5,c6,f0,f1,f2,f3,f4,f5,f6⟩:=pcells FX9.o.res;go_wp2;try simp only[Exit.inBlock,Exit.then]
    exact pret HResF.o FX9.o none 0 (Or.inl rfl)
   obtain⟨k,hk⟩:∃k:Nat,Pz.look S.E d x=k:=⟨(Pz.look S.E d x).toNat,by omega⟩;have hkl:k<S.N.length:=by omega
   have HDk:=hid fun W G (h:RefF r S W G)=>h.dirAt hkl;have HCk:=hid fun W G (h:RefF r S W G)=>pcount_any 0 r S k W (by omega) h.is;rw[show(⟨x.toArray⟩:ByteArray).data.toList=x from rfl,hk]at HL;have hzb:((k:Int)==(m:Int))=false:=by rw[beq_eq_false_iff_ne];omega
   have hk1:(0:Int)≤k:=by omega
   have hk2:(k:Int)<q:=by have:=Hq.o;omega
   have hk3:0≤Pz.look S.E d x:=by omega
   obtain⟨E,hE0⟩:=nm (Pz.isDir S.N k);obtain⟨C,hC0⟩:=nm (Pz.count S.E k);rw[←Hq.o,←hE0]at HDk;rw[←hC0]at HCk;rw[hk]at HRes3;have hov:=Pz.overErr_nat (S:=S) (m:=m) (k:=k);rw[hDt,if_pos rfl,←hE0,←hC0]at hov
   cases E with
   |false=>
    have HResF:Hid (R=(S,Pz.er 12)):=hid (by rw[HRes3.o,if_neg (by omega),hov];rfl);clear h2 hpl hpre hf hE hN hzm hz hlq hpo hlk hDt hov hE0 hC0 HRes3 hk hk3 hkl;go_wp2_with fail
    refine prd FX2 HP fun w3 FX3=> ?_;clear b0 b1 b2 b3 b4 b5 b6 b7;clear g g0;go_wp2_with fail
    refine prd FX3 HL fun w4 FX4=> ?_;obtain⟨b0,b1,b2,b3,b4,b5,b6,b7⟩:=FX4.o.c8;obtain⟨bk,ck,gk,gk0,_,_⟩:=HDk.o _ _ FX4.o.inv;clear b0 b1 b2 b3 b4 b5 b6 b7;go_wp2_with fail
    refine pfail FX4.o 12 fun wf FXF=> ?_;obtain⟨c0,c1,c2,c3,c4,c5,c6,f0,f1,f2,f3,f4,f5,f6⟩:=pcells FXF.o.res;go_wp2;try simp only[Exit.inBlock,Exit.then]
    exact pret HResF.o FXF.o none 0 (Or.inl rfl)
   |true=>
    rw[if_pos rfl]at hov;by_cases hC:0<C
    ·have HResF:Hid (R=(S,Pz.er 14)):=hid (by rw[HRes3.o,if_neg (by omega),hov,if_pos hC];rfl);have hC1:(0:Int)<C:=by omega
     clear h2 hpl hpre hf hE hN hzm hz hlq hpo hlk hDt hov hE0 hC0 HRes3 hk hk3 hkl;go_wp2_with fail
     refine prd FX2 HP fun w3 FX3=> ?_;clear b0 b1 b2 b3 b4 b5 b6 b7;clear g g0;go_wp2_with fail
     refine prd FX3 HL fun w4 FX4=> ?_;obtain⟨b0,b1,b2,b3,b4,b5,b6,b7⟩:=FX4.o.c8;obtain⟨bk,ck,gk,gk0,_,_⟩:=HDk.o _ _ FX4.o.inv;clear b0 b1 b2 b3 b4 b5 b6 b7;go_wp2_with fail
     refine prd FX4 HCk fun w5 FX5=> ?_;clear gk gk0;go_wp2_with fail
     refine pfail FX5.o 14 fun wf FXF=> ?_;obtain⟨c0,c1,c2,c3,c4,c5,c6,f0,f1,f2,f3,f4,f5,f6⟩:=pcells FXF.o.res;go_wp2;try simp only[Exit.inBlock,Exit.then]
     exact pret HResF.o FXF.o none 0 (Or.inl rfl)
    ·rw[if_neg hC]at hov;have hC1:¬(0:Int)<C:=by omega
     have hC2:(C:Int)≤0:=by omega
     have hso:=Pz.over_nat (S:=S) (k:=k) (q:=(d,x));rw[←hE0,if_pos rfl]at hso;have hpo1:=Pz.place_over (d:=d) (x:=x) hpo hlk hk3 (by rw[hk];exact hov);rw[hk,hso]at hpo1;have HResF:Hid (R=({S with E:=Pz.take (Pz.take S.E d x) o y++[⟨d,x,m⟩]},Pz.er 0)):=hid (by rw[HRes3.o,if_neg (by omega),if_neg (by rw[hov];simp),hpo,hso]);have hle:=Pz.take_le S.E d x;have hle2:=Pz.take_le (Pz.take S.E d x) o y;have HT:=hid fun W G (h:RefF r S W G)=>ptake_any r S d ⟨x.toArray⟩ W G (by omega) h;have HDk1:=hid fun W G (h:RefF r {S with E:=Pz.take S.E d x} W G)=>h.dirAt (show k<S.N.length from hkl);rw[show Pz.isDir ({S with E:=Pz.take S.E d x}:Pz.Fil).N k=true from hE0.symm,show({S with E:=Pz.take S.E d x}:Pz.Fil).N.length=q from Hq.o.symm]at HDk1
     have h3:=fun W G (hR:RefF r {S with E:=Pz.take S.E d x} W G)=>place_any 0 r {S with E:=Pz.take S.E d x} p W hpre.hp (show(Pz.take S.E d x).length≤_ by omega) (show S.N.length≤_ by omega) (Pz.ok_take hpre.good.ok _ _) hR.is;rw[show Pz.place ({S with E:=Pz.take S.E d x}:Pz.Fil) p.data.toList= .ok (o,y) from hpo1]at h3;simp only[toP]at h3;have HP1:=hid h3;have HT2:=hid fun W G (h:RefF r {S with E:=Pz.take S.E d x} W G)=>ptake_any r {S with E:=Pz.take S.E d x} o ⟨y.toArray⟩ W G (show(Pz.take S.E d x).length≤_ by omega) h;have HPut:=hid fun W G (h:RefF r {S with E:=Pz.take (Pz.take S.E d x) o y} W G)=>pput_any r {S with E:=Pz.take (Pz.take S.E d x) o y} d m ⟨x.toArray⟩ W G (show(Pz.take (Pz.take S.E d x) o y).length≤_ by omega) h;clear h2 h3 hpl hpre hf hE hN hzm hz hlq hpo hlk hDt hov hE0 hC0 HRes3 hk hk3 hkl hso hpo1 hle hle2;go_wp2_with fail
     refine prd FX2 HP fun w3 FX3=> ?_;clear b0 b1 b2 b3 b4 b5 b6 b7;clear g g0;go_wp2_with fail
     refine prd FX3 HL fun w4 FX4=> ?_;obtain⟨b0,b1,b2,b3,b4,b5,b6,b7⟩:=FX4.o.c8;obtain⟨bk,ck,gk,gk0,_,_⟩:=HDk.o _ _ FX4.o.inv;clear b0 b1 b2 b3 b4 b5 b6 b7;go_wp2_with fail
     refine prd FX4 HCk fun w5 FX5=> ?_;clear gk gk0;go_wp2_with fail
     refine pwr FX5 HT fun w6 FX6=> ?_;obtain⟨bk,ck,gk,gk0,_,_⟩:=HDk1.o _ _ FX6.o.inv;obtain⟨b0,b1,b2,b3,b4,b5,b6,b7⟩:=FX6.o.c8;go_wp2_with fail
     clear gk gk0;go_wp2_with fail
     refine prd FX6 HP1 fun w7 FX7=> ?_;clear b0 b1 b2 b3 b4 b5 b6 b7;go_wp2_with fail
     refine pwr FX7 HT2 fun w8 FX8=> ?_;go_wp2_with fail
     refine pwr FX8 HPut fun w9 FX9=> ?_;obtain⟨c0,c1,c2,c3,c4,c5,c6,f0,f1,f2,f3,f4,f5,f6⟩:=pcells FX9.o.res;go_wp2;try simp only[Exit.inBlock,Exit.then]
     exact pret HResF.o FX9.o none 0 (Or.inl rfl)
end Go.Proofs.YtckoobkjpndgnaaGreatDoor
