/- Walks: metadata: keep, each way; Drop. -/
import Derived.Test.YtjlpkbhgphjpeaaGreatDoorV26
set_option linter.unusedVariables false
set_option linter.unusedSimpArgs false
set_option linter.unusedSectionVars false
set_option maxHeartbeats 8000000
set_option maxRecDepth 100000
namespace Go.Proofs.YtjlpkbhgphjpeaaGreatDoor
open Go.RowKit
open Lib(hid)
open Go.Proofs.Tryz
section
open Go.Shelf
attribute [local go_sem] Oper.semAt_some
theorem vK[zg]{x t c K:Nat}{S:List UInt8}{M:Gd.Vol}{F:Nat→Prop}(i:Nat)(y:Gd.Ino)(hy:y.Shape)(hm:Gd.mayI y=true)(hl:0≤y.l)(hO:∀n∈y.O,0≤n∧n≤8)(w:World)(h:zy x t S M c K w F)(h1:1≤i)(h2:i≤32)(hc:c+1<64):
 Calls prog 60 #[.pointer (some ⟨x,0,none⟩),.int .i64 i,zv y] w fun e w'=>e= .returned (.int .i64 0)∧zt x t S (Gd.keepV M i y) (c+2) K F w w':=by
 by_cases hk:0<y.l∨0<y.O.sum
 ·refine(Jd i y hy hm w h h1 h2 (by omega) hk).mono ?_
  rintro e w' ⟨rfl,ht⟩;rw[Gd.keepV_set hk];exact⟨rfl,ht.more (by omega)⟩
 ·have hs:=(Gd.sum_nonneg y.O fun n hn=>(hO n hn).1).1;refine(QI i y hy hO w h h1 h2 hc (by omega)).mono ?_
  rintro e w' ⟨rfl,ht⟩;unfold Gd.keepV;rw[if_neg hk];exact⟨rfl,ht⟩
namespace Gd
def usedD(D:Nat→Nat→Nat)(k n:Nat):Nat:=((List.range 8).filter fun b=>decide (1≤D k b∧D k b≤n)).length
theorem usedD_le(D:Nat→Nat→Nat)(k n:Nat):usedD D k n≤8:=by
 unfold usedD;have:=List.length_filter_le (fun b=>decide (1≤D k b∧D k b≤n)) (List.range 8)
 rw[List.length_range]at this;exact this
theorem filter_lt{α:Type}{p q:α→Bool}(h:∀a,p a=true→q a=true):∀(l:List α) (b:α),b∈l→p b=false→q b=true→(l.filter p).length+1≤(l.filter q).length
 |[],b,hb,_,_=>by cases hb
 |a::r,b,hb,h1,h2=>by
  have hle:(r.filter p).length≤(r.filter q).length:=by
   rw[←List.countP_eq_length_filter,←List.countP_eq_length_filter];exact List.countP_mono_left fun x _ hx=>h x hx
  rcases List.mem_cons.1 hb with rfl|hb
  ·rw[List.filter_cons,List.filter_cons,h1,h2];simp only[if_true,List.length_cons];have:(if false=true then b::r.filter p else r.filter p)=r.filter p:=rfl
   simp only[Bool.false_eq_true,if_false];omega
  ·have ih:=filter_lt h r b hb h1 h2;rw[List.filter_cons,List.filter_cons]
   cases hp:p a with
   |true=>
    rw[h a hp];simp only[if_true,List.length_cons];omega
   |false=>
    cases hq:q a with
    |true=>
     simp only[Bool.false_eq_true,if_false,if_true,List.length_cons];omega
    |false=>
     simp only[Bool.false_eq_true,if_false];exact ih
theorem usedD_step{D:Nat→Nat→Nat}{k n:Nat}(h:∃b,b<8∧D k b=n+1):usedD D k n+1≤usedD D k (n+1):=by
 obtain⟨b,hb,e⟩:=h;unfold usedD;refine filter_lt (fun a ha=> ?_) (List.range 8) b (List.mem_range.2 hb) (by simp;omega) (by simp;omega);simp only[decide_eq_true_eq]at ha⊢;omega
theorem usedD_mono(D:Nat→Nat→Nat)(k n:Nat):usedD D k n≤usedD D k (n+1):=by
 unfold usedD;rw[←List.countP_eq_length_filter,←List.countP_eq_length_filter];refine List.countP_mono_left fun x _ hx=> ?_;simp only[decide_eq_true_eq]at hx⊢;omega
end Gd
def Yj[zg](x t c K:Nat)(S0:List UInt8)(F:Nat→Prop)(T:Nat→Gd.Tab)(S:Pz.Fil)(φ:Nat→Nat)(D:Nat→Nat→Nat)(k n:Nat)(w a:World):Prop:=
 ∃N,Tl x t S0 N (c+2*Gd.usedD D k n) K F w a []∧Gd.Rel N T S φ∧Gd.Cnt N T (Gd.dropN D k n) fun _=>0
theorem XK[zg]{x t c K k:Nat}{S0:List UInt8}{M:Gd.Vol}{T:Nat→Gd.Tab}{S:Pz.Fil}{φ:Nat→Nat}{D:Nat→Nat→Nat}{F:Nat→Prop}(hk:k<8)(w:World)(h:zy x t S0 M c K w F)(hR:Gd.Rel M T S φ)(hC:Gd.Cnt M T D fun _=>0)(hc:c+20<64):
 Calls prog 24 #[.pointer (some ⟨x,0,none⟩),.int .i64 ((k:Int)+1)] w fun e w'=>e= .returned (.int .i64 0)∧Yj x t c K S0 F T S φ D k 32 w w':=by
 have HI:=hid fun W=>j3 ((k:Int)+1) W;rw[show(decide ((1:Int)≤(k:Int)+1)&&decide ((k:Int)+1≤8))=true by simp;omega]at HI;have hk8:(k:Int)<8:=by omega
 have hk0:(0:Int)≤k:=by omega
 have HK8:Hid (k<8):=hid hk;have HC64:Hid (c+20<64):=hid hc;have HG:Hid (Yj x t c K S0 F T S φ D k 0 w w):=hid (by
  refine⟨M,?_,hR,Gd.dropN_start hC k⟩;have hz:Gd.usedD D k 0=0:=by
   unfold Gd.usedD;rw[List.length_eq_zero_iff,List.filter_eq_nil_iff];intro b _;simp
   omega
  rw[hz];exact Tl.start h)
 clear h hR hC hk hc;go_enter func24,ntmps24;go_upto_region 4 with(go_at_call 59;refine(HI.o _).mono ?_;rintro e wq ⟨rfl,rfl⟩)
 go_loopw[12] (fun z wr=>∃n:Nat,z= .int .i64 n∧n≤32∧Hid (Yj x t c K S0 F T S φ D k n wq wr)) (fun z _=>32-(intOf z).toNat)
 case atStart=>exact⟨0,rfl,by omega,HG⟩
 case round=>
  obtain⟨n,rfl,hn,HGn⟩:=hrel;by_cases hlt:n<32
  ·obtain⟨N,hT,hR,hC⟩:=HGn.o;have HT:=hid hT;have HR:=hid hR;have HC:=hid hC;have hsh:=(hR.hold.may (n+1) (by omega) (by omega)).1;obtain⟨o,ho⟩:∃o,(N.ino (n+1)).O[k]? =some o:=⟨_,List.getElem?_eq_getElem (by rw[hsh.2];exact HK8.o)⟩;have HIn:=hid (hT.fino ((n:Int)+1) (by omega) (by omega));rw[show((n:Int)+1).toNat=n+1 by omega]at HIn;obtain⟨y,hy⟩:=nm (N.ino (n+1));rw[←hy]at HIn;have Hy:=hid hy;have HS:Hid ((zf y).size=15):=hid (by rw[hy];exact zm hsh);have HSh:Hid y.Shape:=hid (by rw[hy];exact hsh);have Ho:=hid ho;have HN32:Hid (n<32):=hid hlt;have hi1:(n:Int)<32:=by omega
   have hi0:(0:Int)≤n:=by omega
   unfold zv at HIn;clear hT hR hC hsh ho hy hlt HGn;go_upto_region 7 with(first|(go_at_call 17;refine HIn.o.mono ?_;rintro e w2 ⟨rfl,hb2⟩;have HL2:=hid (HT.o.below hb2);clear hb2)|(rw[←zA];refine wpList_store_mid rfl 48 _ _ rfl w2.heap.size 0 (zf y) rfl rfl (zd (heap_alloc_new _ _) (by rw[zc,HS.o])) (by rw[HS.o];exact sizeIno) (zr _) ?_;obtain⟨hbw,hbg⟩:=zi w2 zU 48 (zf y).toList (by rw[zc,Array.length_toList,HS.o]);generalize (World.setCells _ _ _ _)=w3 at hbw hbg⊢;have HL3:=hid (HL2.o.new hbw (Nat.le_refl _) (o:= .cells (zf y) 48 (0,0)) hbg);clear hbw hbg))
   obtain⟨ib,hib⟩:=nm w2.heap.size;rw[←hib]at HL3⊢;clear hib;have hI3:zp w3 ib y:=⟨HL3.o.get (k:=ib) (by simp),HSh.o⟩;obtain⟨b1,f1⟩:=hI3.cO (k:=k) (n:=o) (by rw[Hy.o];exact Ho.o);clear hI3;by_cases h0:o=0
   ·subst h0;have HGx:Hid (Yj x t c K S0 F T S φ D k (n+1) wq w3):=hid (by
     obtain⟨h1,_⟩:=Gd.drop_skip HR.o HC.o HK8.o (by have:=HN32.o;omega) Ho.o;refine⟨N,?_,HR.o,h1⟩;have:=Gd.usedD_mono D k n
     obtain⟨F',s,_⟩:=HL3.o;exact⟨F',s.mono fun hi=>hi.more (by omega) (Nat.le_refl _),fun p hp=>by cases hp⟩)
    have hn2:n+1≤32:=by have:=HN32.o;omega
    clear Ho;go_wp2;go_roundw
    case rel=>exact⟨n+1,by go_num,hn2,HGx⟩
    case measure=>simp[intOf];omega
   ·have hob:(o==0)=false:=by simp[h0]
    obtain⟨⟨hm2,hB2,hl2,hO2⟩,hR2,hC2,hex⟩:=Gd.drop_one HR.o HC.o HK8.o (by have:=HN32.o;omega) Ho.o h0;have HSt:=hid (jz (qQ HSh.o HK8.o 0));have HS2:=hid (zm (Gd.Ino.setO_shape HSh.o k 0));obtain⟨w4,hw4⟩:=nm (w3.setCell ⟨ib,7+k,none⟩ (.int .i64 0));have HL4:Hid (Tl x t S0 N (c+2*Gd.usedD D k n) K F wq w4 [(ib,.cells (zf (y.setO k 0)) 48 (0,0))]):=hid (by
     rw[hw4,←HSt.o];exact HL3.o.set (k:=ib) (j:=7+k) (C:=zf y) (ty:=48) (v:= .int .i64 0) (by simp) _ (fun p hp=>Or.inl (List.mem_singleton.1 hp)))
    have HN4:=hid (HL4.o.get (k:=ib) (o:= .cells (zf (y.setO k 0)) 48 (0,0)) (by simp));have HW4:=hid hw4.symm;have HKp:Hid (Calls prog 60 #[.pointer (some ⟨x,0,none⟩),.int .i64 ((n:Int)+1),zv (y.setO k 0)] w4 fun e w'=>e= .returned (.int .i64 0)∧Yj x t c K S0 F T S φ D k (n+1) wq w'):=hid (by
     obtain⟨F4,s4,l4⟩:=HL4.o;have hle:=Gd.usedD_le D k n;have hst:=Gd.usedD_step hex;have:=vK (n+1) (y.setO k 0) (Gd.Ino.setO_shape HSh.o k 0) (by rw[Hy.o];exact hm2) (by rw[Hy.o];exact hl2) (by rw[Hy.o];exact hO2) w4 s4.inv (by omega) (by have:=HN32.o;omega) (by have:=HC64.o;omega)
     rw[show(((n+1:Nat):Int))=(n:Int)+1 by omega]at this;refine this.mono ?_;rintro e w' ⟨rfl,ht⟩;refine⟨rfl,Gd.keepV N (n+1) (y.setO k 0),?_,by rw[Hy.o];exact hR2,by rw[Hy.o];exact hC2⟩;obtain⟨F5,s5,l5⟩:=Tl.next s4 l4 ht;exact⟨F5,s5.mono fun hi=>hi.more (by omega) (Nat.le_refl _),fun p hp=>by cases hp⟩)
    have hn2:n+1≤32:=by have:=HN32.o;omega
    unfold zv at HKp;clear hw4 hm2 hB2 hl2 hO2 hR2 hC2 hex Ho;go_upto_region 9 with fail
    rw[HW4.o];go_wp2_with(first|(refine wpList_load_row rfl 48 _ rfl ib rfl 48 (zf (y.setO k 0)) (0,0) _ HN4.o underlying48 rfl (by rw[HS2.o];exact sizeIno) ?_)|(go_at_call 60;refine HKp.o.mono ?_;rintro e w6 ⟨rfl,hr6⟩))
    go_roundw
    case rel=>exact⟨n+1,by go_num,hn2,hid hr6⟩
    case measure=>simp[intOf];omega
  ·have e:n=32:=by omega
   have HG32:Hid (Yj x t c K S0 F T S φ D k 32 wq wr):=hid (by rw[←e];exact HGn.o);subst e;clear hlt hn HGn;go_wp2_with fail
   go_ret
   exact⟨rfl,HG32.o⟩
end
section
open Go.Shelf
variable {x t c K:Nat} {S:List UInt8} {M:Gd.Vol} {T:Nat→Gd.Tab} {Z:Pz.Fil} {φ:Nat→Nat} {D:Nat→Nat→Nat} {F:Nat→Prop}
theorem qb[zg](s:ByteArray)(w:World)(h:zy x t S M c K w F)(hT:Gd.Tree M T)(hs:s.size≤100000)(hM:Mx w):
 Calls prog 25 #[.pointer (some ⟨x,0,none⟩),.string s] w fun e w'=>e= .returned (.tuple #[.int .i64 ((Gd.walkP M T s.data.toList).1:Nat),.int .i64 ((Gd.walkP M T s.data.toList).2:Nat)])∧Below w.heap.size w w':=by
 obtain⟨m,hm⟩:=hM
 cases hp:Np.pathL s.data.toList with
 |none=>
  have e:Gd.walkP M T s.data.toList=(0,15):=by unfold Gd.walkP;rw[hp]
  rw[e];exact YV _ s m w hs hm hp
 |some L=>
  have e:Gd.walkP M T s.data.toList=Gd.walkT M T L 1:=by unfold Gd.walkP;rw[hp]
  rw[e];exact qN s L m w h hT hs hm hp
theorem j9[zg](s:ByteArray)(w:World)(h:zy x t S M c K w F)(hT:Gd.Tree M T)(hs:s.size≤100000)(hM:Mx w):
 Calls prog 89 #[.pointer (some ⟨x,0,none⟩),.string s] w fun e w'=>e= .returned (.tuple #[.int .i64 ((Gd.placeQ M T s.data.toList).1:Nat),.string ⟨(Gd.placeQ M T s.data.toList).2.1.toArray⟩,.int .i64 ((Gd.placeQ M T s.data.toList).2.2:Nat)])∧Below w.heap.size w w':=by
 obtain⟨m,hm⟩:=hM
 cases hp:Np.pathL s.data.toList with
 |none=>
  have e:Gd.placeQ M T s.data.toList=(0,[],15):=by unfold Gd.placeQ;rw[hp]
  rw[e];exact uJ _ s m w hs hm (Or.inl hp)
 |some L=>
  cases hl:L.getLast? with
  |none=>
   have e:Gd.placeQ M T s.data.toList=(0,[],15):=by unfold Gd.placeQ;rw[hp];dsimp only;rw[hl]
   rw[e];have:L=[]:=List.getLast?_eq_none_iff.1 hl
   subst this;exact uJ _ s m w hs hm (Or.inr hp)
  |some n=>
   have e:Gd.placeQ M T s.data.toList=Gd.placeP M T L.dropLast n:=by unfold Gd.placeQ;rw[hp];dsimp only;rw[hl]
   rw[e];obtain⟨Y,hY⟩:=List.getLast?_eq_some_iff.1 hl;have hd:L.dropLast=Y:=by rw[hY,List.dropLast_concat]
   rw[hd];exact qY s Y n m w h hT hs hm (by rw[hp,hY])
theorem zt.mx[zg]{w W:World}(h:zt x t S M c K F w W)(hM:Mx w)(hF:¬F 0):Mx W:=by
 obtain⟨F',h⟩:=h;obtain⟨m,hm⟩:=hM;exact⟨m,(h.only.cell (p:=⟨0,0,none⟩) (uH hm) hF).trans hm⟩
theorem zt.then[zg]{c2 c3:Nat}{M2 M3:Gd.Vol}{w W w':World}(h:zt x t S M2 c2 K F w W)(hn:∀F1,zy x t S M2 c2 K W F1→(∀k,k<w.heap.size→F1 k→F k)→zt x t S M3 c3 K F1 W w'):zt x t S M3 c3 K F w w':=by
 obtain⟨F1,h1⟩:=h;obtain⟨F2,h2⟩:=hn F1 h1.inv h1.old;exact⟨F2,h1.trans h2⟩
theorem zt.lt[zg]{w W:World}(h:zt x t S M c K F w W):w.heap.size≤W.heap.size:=by
 obtain⟨F',h⟩:=h;exact h.only.size
namespace Gd
theorem first_freeN(M:Vol):∀n,(∀i,1≤i→i≤n→(M.ino i).k≠0)∨∃f,1≤f∧f≤n∧(M.ino f).k=0∧∀i,1≤i→i<f→(M.ino i).k≠0
 |0=>Or.inl fun i h1 h2=>by omega
 |n+1=>by
  rcases first_freeN M n with h|⟨f,f1,f2,f3,f4⟩
  ·by_cases hk:(M.ino (n+1)).k=0
   ·exact Or.inr ⟨n+1,by omega,Nat.le_refl _,hk,fun i i1 i2=>h i i1 (by omega)⟩
   ·refine Or.inl fun i i1 i2=> ?_;by_cases e:i=n+1
    ·rw[e];exact hk
    ·exact h i i1 (by omega)
  ·exact Or.inr ⟨f,f1,by omega,f3,f4⟩
theorem first_free(M:Vol):(∀i,1≤i→i≤32→(M.ino i).k≠0)∨∃f,1≤f∧f≤32∧(M.ino f).k=0∧∀i,1≤i→i<f→(M.ino i).k≠0:=first_freeN M 32
structure NewI(y:Ino):Prop where
 shape:y.Shape
 may:mayI y=true
 kind:y.k=1∨y.k=2
 blk:y.B=[0,0,0,0]
 size:y.s=0
 links:y.l=1
theorem rootI_new:NewI rootI:=⟨⟨rfl,rfl⟩,by decide,Or.inr rfl,rfl,rfl,rfl⟩
theorem newF_new{k:Nat}(hk:k<8):NewI (jf.setO k 1):=by
 have h:∀k:Fin 8,mayI (jf.setO k.val 1)=true:=by decide
 exact⟨Ino.setO_shape jk k 1,h ⟨k,hk⟩,Or.inl rfl,rfl,rfl,rfl⟩
end Gd
def Zu[zg](x t c K:Nat)(S:List UInt8)(M:Gd.Vol)(T:Nat→Gd.Tab)(d:Nat)(s:List UInt8)(y:Gd.Ino)(spare:Int)(F:Nat→Prop)(w:World)(v r:Int)(w':World):Prop:=
 (v=0∧r=18∧((∀i,1≤i→i≤32→(M.ino i).k≠0)∨Gd.namedT (T d) 16=16∨128-(Gd.countB M.map:Int)≤max 0 spare)∧∃N c2,zt x t S N c2 K F w w')∨
 (r=0∧∃(f j:Nat) (N:Gd.Vol),v=(f:Int)∧(1≤f∧f≤32)∧(M.ino f).k=0∧zt x t S N (c+5) K F w w'∧j<16∧Gd.entAt (Gd.upd T f Gd.noTab d) j=Gd.noEnt∧Gd.Chg (M.setIno f y) (Gd.upd T f Gd.noTab) N d (Gd.setT (Gd.upd T f Gd.noTab d) j ⟨s,f⟩))
theorem Jc[zg]{d:Nat}(s:List UInt8)(y:Gd.Ino)(spare:Int)(w:World)(h:zy x t S M c K w F)(hR:Gd.Rel M T Z φ)(hZ:Pz.Ok Z)(d1:1≤d)(d2:d≤32)(hk:(M.ino d).k=2)(hs:Np.nameB s=true)(hf:Gd.findT (T d) s (Gd.hN s)=none)(hy:Gd.NewI y)(hc:c+20<64):
 Calls prog 91 #[.pointer (some ⟨x,0,none⟩),.int .i64 d,.string ⟨s.toArray⟩,zv y,.int .i64 spare] w fun e w'=>∃v r:Int,e= .returned (.tuple #[.int .i64 v,.int .i64 r])∧Zu x t c K S M T d s y spare F w v r w':=by
 rcases Gd.first_free M with hl|⟨f,f1,f2,f3,f4⟩
 ·refine(XP ⟨s.toArray⟩ y spare w h hl).mono ?_
  rintro e w' ⟨rfl,hb⟩;exact⟨0,18,rfl,Or.inl ⟨rfl,rfl,Or.inl hl,M,c,zt.keep h hb⟩⟩
 ·have hdf:d≠f:=fun e=>by
   rw[e,f3]at hk;exact absurd hk (by decide)
  have hH:=(hR.new hZ f1 f2 f3 hy.shape hy.may hy.kind hy.blk hy.size hy.links).hold;have hk2:((M.setIno f y).ino d).k=2:=by rw[Gd.setIno_other M y hdf];exact hk
  have hT:Gd.upd T f Gd.noTab d=T d:=Gd.upd_other hdf;refine(Y0 (d:=d) ⟨s.toArray⟩ f y spare w (fun r w'=>(r=18∧(Gd.namedT (T d) 16=16∨128-(Gd.countB M.map:Int)≤max 0 spare)∧∃N c2,zt x t S N c2 K F w w')∨(r=0∧∃(j:Nat) (N:Gd.Vol),zt x t S N (c+5) K F w w'∧j<16∧Gd.entAt (Gd.upd T f Gd.noTab d) j=Gd.noEnt∧Gd.Chg (M.setIno f y) (Gd.upd T f Gd.noTab) N d (Gd.setT (Gd.upd T f Gd.noTab d) j ⟨s,f⟩))) h hy.shape hy.may f1 f2 f3 f4 (by omega) fun W hW=> ?_).mono ?_
  ·obtain⟨F1,hs1⟩:=hW;refine(Zd (d:=d) s f spare W hs1.inv hH d1 d2 hk2 hs f1 f2 (by rw[hT];exact hf) (by omega)).mono ?_
   rintro e w' (⟨rfl,N,j,hp⟩|⟨rfl,hr,hp⟩)
   ·obtain⟨F2,hs2⟩:=hp.turns;exact⟨0,rfl,Or.inr ⟨rfl,j,N,⟨F2,hs1.trans hs2⟩,hp.lt,hp.no,hp.chg⟩⟩
   ·obtain⟨F2,hs2⟩:=hp;rw[hT]at hr;exact⟨18,rfl,Or.inl ⟨rfl,hr,_,_,F2,hs1.trans hs2⟩⟩
  ·rintro e w' ⟨r,rfl,hr⟩;rcases hr with⟨rfl,hr,hN⟩|⟨rfl,j,N,hN,hj,he,hc2⟩
   ·exact⟨_,_,rfl,Or.inl ⟨rfl,rfl,Or.inr hr,hN⟩⟩
   ·exact⟨_,_,rfl,Or.inr ⟨rfl,f,j,N,rfl,⟨f1,f2⟩,f3,hN,hj,he,hc2⟩⟩
def xg(M:Gd.Vol)(T:Nat→Gd.Tab)(p:List UInt8)(spare:Int):Prop:=(∀i,1≤i→i≤32→(M.ino i).k≠0)∨128-(Gd.countB M.map:Int)≤max 0 spare∨((Gd.placeQ M T p).2.2=0∧Gd.namedT (T (Gd.placeQ M T p).1) 16=16)
def Out[zg](x t K:Nat)(S:List UInt8)(M:Gd.Vol)(room:Prop)(F:Nat→Prop)(w:World)(Z:Pz.Fil)(z:Pz.Fil×Pz.Rep)(q:Pz.Rep)(D':Nat→Nat→Nat)(r:Int)(w':World):Prop:=
 (r=18∧room∧∃N c,zt x t S N c K F w w')∨(r≠0∧r≠18∧z=(Z,Pz.er r)∧zt x t S M 0 K F w w')∨(r=0∧z.2=q∧∃N T' φ',zt x t S N 57 K F w w'∧Gd.Sim N T' D' z.1 φ')
theorem zP[zg]{room:Prop}{w w':World}{z:Pz.Fil×Pz.Rep}{q:Pz.Rep}{D':Nat→Nat→Nat}{r:Int}(h:zy x t S M 0 K w F)(h0:r≠0)(h18:r≠18)(hz:z=(Z,Pz.er r))(hb:Below w.heap.size w w'):Out x t K S M room F w Z z q D' r w':=Or.inr (Or.inl ⟨h0,h18,hz,zt.keep h hb⟩)
namespace Gd
theorem walkT_err(M:Vol)(T:Nat→Tab):∀(L:List (List UInt8)) (d:Nat),(walkT M T L d).2=0∨(walkT M T L d).2=10∨(walkT M T L d).2=12
 |[],_=>Or.inl rfl
 |s::r,d=>by
  unfold walkT;split
  ·split
   ·exact Or.inr (Or.inl rfl)
   ·exact walkT_err M T r _
  ·exact Or.inr (Or.inr rfl)
theorem walkP_err(M:Vol)(T:Nat→Tab)(p:List UInt8):(walkP M T p).2=0∨(walkP M T p).2=10∨(walkP M T p).2=12∨(walkP M T p).2=15:=by
 unfold walkP;split
 ·exact Or.inr (Or.inr (Or.inr rfl))
 ·rcases walkT_err M T _ 1 with h|h|h
  ·exact Or.inl h
  ·exact Or.inr (Or.inl h)
  ·exact Or.inr (Or.inr (Or.inl h))
theorem placeP_err(M:Vol)(T:Nat→Tab)(L:List (List UInt8))(x:List UInt8):(placeP M T L x).2.2=0∨(placeP M T L x).2.2=10∨(placeP M T L x).2.2=12∨(placeP M T L x).2.2=15:=by
 unfold placeP;split
 ·rename_i h0
  rcases walkT_err M T L 1 with h|h|h
  ·exact absurd h h0
  ·exact Or.inr (Or.inl h)
  ·exact Or.inr (Or.inr (Or.inl h))
 ·split
  ·exact Or.inl rfl
  ·exact Or.inr (Or.inr (Or.inl rfl))
theorem placeQ_err(M:Vol)(T:Nat→Tab)(p:List UInt8):(placeQ M T p).2.2=0∨(placeQ M T p).2.2=10∨(placeQ M T p).2.2=12∨(placeQ M T p).2.2=15:=by
 unfold placeQ;split
 ·exact Or.inr (Or.inr (Or.inr rfl))
 ·split
  ·exact Or.inr (Or.inr (Or.inr rfl))
  ·exact placeP_err M T _ _
end Gd
theorem XC[zg](k:Nat)(hk:k<8)(s:ByteArray)(fl spare:Int)(w:World)(h:zy x t S M 0 K w F)(hs:s.size≤100000)(hM:Mx w)(hSim:Gd.Sim M T D Z φ)(hZ:Pz.Ok Z):
 Calls prog 40 #[.pointer (some ⟨x,0,none⟩),.int .i64 ((k:Int)+1),.string s,.int .i64 fl,.bool (decide (Gd.freeD D k=8)),.int .i64 spare] w fun e w'=>∃(i:Nat) (r:Int),e= .returned (.tuple #[.int .i64 i,.int .i64 r])∧(r≠0→i=0)∧(r=0→Gd.freeD D k<8)∧Out x t K S M (xg M T s.data.toList spare) F w Z (Pz.opens Z ((k:Int)+1) fl s.data.toList) (Pz.fdR (Gd.freeD D k)) (Gd.updD D k (Gd.freeD D k) i) r w':=by
 have hT:=hSim.rel.tree;have hfr:Pz.free Z.O ((k:Int)+1)=Gd.freeD D k:=Gd.free_eq hSim.ofd hk;have hfi:=hSim.rel.find s.data.toList;have hpl:=hSim.rel.place s.data.toList;have hW:=fun W (hb:Below w.heap.size w W)=>qb s W (h.below hb) hT hs (hM.keep hb);have hP:=fun W (hb:Below w.heap.size w W)=>j9 s W (h.below hb) hT hs (hM.keep hb);have herr:=Gd.walkP_err M T s.data.toList;have hat:=hSim.rel.at (p:=s.data.toList);have hisP:=hSim.rel.isPlace (p:=s.data.toList);have hroom:∀q,q=s.data.toList→xg M T q spare→xg M T s.data.toList spare:=fun q e hq=>by rw[←e];exact hq
 by_cases hf:vT fl
 ·have hf':fl=0∨fl=1∨fl=3:=hf;by_cases hE:(Gd.walkP M T s.data.toList).2=0
  ·
   rw[if_pos hE]at hfi;rw[hE]at hW;obtain⟨i1,i2,i3⟩:=hat hE;obtain⟨i,hi⟩:=nm ((Gd.walkP M T s.data.toList).1);rw[←hi]at hfi hW i1 i2 i3;have hop:Pz.opens Z ((k:Int)+1) fl s.data.toList=if fl=3 then(Z,Pz.er 11)else if Pz.isDir Z.N (φ i)then(Z,Pz.er 13)else if Gd.freeD D k=8 then(Z,Pz.er 17)else({Z with O:=Z.O++[⟨(k:Int)+1,Pz.free Z.O ((k:Int)+1),φ i⟩]},Pz.fdR (Gd.freeD D k)):=by
    unfold Pz.opens;rw[if_neg (fun e=>e hf'),hfi,hfr]
   by_cases h3:fl=3
   ·subst h3;refine(JZ k hk s _ _ _ _ spare _ w hW hP).mono ?_
    rintro e w' ⟨rfl,hb⟩;refine⟨0,11,rfl,fun _=>rfl,fun e=>absurd e (by decide),zP h (by decide) (by decide) ?_ hb⟩;rw[hop,if_pos rfl]
   ·have hf2:fl=0∨fl=1:=by omega
    obtain⟨hsh,hmy⟩:=hSim.rel.hold.may i i1 i2;have hI:=fun W (hb:Below w.heap.size w W)=>zZ (i:Int) W (h.below hb) (by omega) (by omega);rw[Int.toNat_natCast]at hI;have hkd:=hSim.rel.kind i1 i2 i3;by_cases hk2:(M.ino i).k=2
    ·refine(YR k hk s _ i _ _ fl spare _ (M.ino i) hsh hk2 w hf2 hW hP hI).mono ?_
     rintro e w' ⟨rfl,hb⟩;refine⟨0,13,rfl,fun _=>rfl,fun e=>absurd e (by decide),zP h (by decide) (by decide) ?_ hb⟩;rw[hop,if_neg h3,hkd,hk2];rfl
    ·have hdn:Pz.isDir Z.N (φ i)=false:=by rw[hkd];exact decide_eq_false hk2
     have hk1:(M.ino i).k=1:=by
      rcases Gd.kinds hmy with e|e|e
      ·exact absurd e i3
      ·exact e
      ·exact absurd e hk2
     by_cases h8:Gd.freeD D k=8
     ·rw[decide_eq_true h8];refine(Xv k hk s _ i _ _ fl spare (M.ino i) hsh hk2 w hf2 hW hP hI).mono ?_
      rintro e w' ⟨rfl,hb⟩;refine⟨0,17,rfl,fun _=>rfl,fun e=>absurd e (by decide),zP h (by decide) (by decide) ?_ hb⟩;rw[hop,if_neg h3,hdn,if_neg (by decide),if_pos h8]
     ·rw[decide_eq_false h8];have hlt:Gd.freeD D k<8:=by
       have:=Gd.freeD_le (D:=D) (k:=k)
       omega
      have hO:=hSim.cnt.opn i i1 i2 hk1 k hk;obtain⟨hS1,o0,o8⟩:=hSim.reopen i1 i2 hk1 hk hlt hO;refine(YO k hk s _ i _ _ fl spare _ (M.ino i) hsh hk2 hO o0 o8 w (fun w'=>zt x t S (M.setIno i ((M.ino i).setO k ((Gd.cntD D k i:Int)+1))) 1 K F w w') hf2 hW hP hI fun W hb=> ?_).mono ?_
      ·have hm2:=(hS1.rel.hold.may i i1 i2).2;rw[Gd.setIno_at]at hm2;have:=jI (i:Int) ((M.ino i).setO k ((Gd.cntD D k i:Int)+1)) (Gd.Ino.setO_shape hsh k _) hm2 W (h.below hb) (by omega) (by omega) (by omega)
       rw[Int.toNat_natCast]at this;exact this.mono fun e w' hq=>⟨hq.1,hq.2.behind hb⟩
      ·rintro e w' ⟨rfl,hN⟩;refine⟨i,0,rfl,fun e=>absurd rfl e,fun _=>hlt,Or.inr (Or.inr ⟨rfl,?_,_,T,φ,hN.more (by omega),?_⟩)⟩
       ·rw[hop,if_neg h3,hdn,if_neg (by decide),if_neg h8]
       ·rw[hop,if_neg h3,hdn,if_neg (by decide),if_neg h8];exact hS1
  ·rw[if_neg hE]at hfi;have hop:Pz.opens Z ((k:Int)+1) fl s.data.toList=if((Gd.walkP M T s.data.toList).2:Int)=10∧fl≠0 then
    match Pz.place Z s.data.toList with
    | .error _=>(Z,Pz.er ((Gd.walkP M T s.data.toList).2:Int))
    | .ok q=>if Gd.freeD D k=8 then(Z,Pz.er 17)else({N:=Z.N++[⟨false,[],1⟩],E:=Z.E++[⟨q.1,q.2,Z.N.length⟩],O:=Z.O++[⟨(k:Int)+1,Pz.free Z.O ((k:Int)+1),Z.N.length⟩]},Pz.fdR (Gd.freeD D k))
    else(Z,Pz.er ((Gd.walkP M T s.data.toList).2:Int)):=by
    unfold Pz.opens;rw[if_neg (fun e=>e hf'),hfi,hfr];rfl
   have hE':((Gd.walkP M T s.data.toList).2:Int)≠0:=by omega
   by_cases hmk:(Gd.walkP M T s.data.toList).2=10∧(Gd.placeQ M T s.data.toList).2.2=0∧fl≠0
   ·obtain⟨h10,hz,hf0⟩:=hmk;rw[if_pos hz]at hpl;have hI:=hisP hz;rw[h10]at hW;rw[hz]at hP;have hf3:fl=1∨fl=3:=by omega
    rw[if_pos ⟨by rw[h10];rfl,hf0⟩,hpl]at hop;by_cases h8:Gd.freeD D k=8
    ·rw[decide_eq_true h8];refine(Xx k hk s _ _ _ fl spare w hf3 hW hP).mono ?_
     rintro e w' ⟨rfl,hb⟩;refine⟨0,17,rfl,fun _=>rfl,fun e=>absurd e (by decide),zP h (by decide) (by decide) ?_ hb⟩;rw[hop];exact if_pos h8
    ·rw[decide_eq_false h8];have hlt:Gd.freeD D k<8:=by
      have:=Gd.freeD_le (D:=D) (k:=k)
      omega
     have hwk:=hI.walk;have hfd:Gd.findT (T (Gd.placeQ M T s.data.toList).1) (Gd.placeQ M T s.data.toList).2.1 (Gd.hN (Gd.placeQ M T s.data.toList).2.1)=none:=by
      cases hq:Gd.findT (T (Gd.placeQ M T s.data.toList).1) (Gd.placeQ M T s.data.toList).2.1 (Gd.hN (Gd.placeQ M T s.data.toList).2.1)with
      |none=>rfl
      |some j=>
       rw[hq]at hwk;rw[hwk]at h10;exact absurd h10 (by dsimp only;omega)
     refine(Xw k hk s _ _ _ fl spare w (fun v r w'=>Zu x t 0 K S M T (Gd.placeQ M T s.data.toList).1 (Gd.placeQ M T s.data.toList).2.1 (jf.setO k 1) spare F w v r w') hf3 hW hP fun W hb=> ?_).mono ?_
     ·refine(Jc (Gd.placeQ M T s.data.toList).2.1 (jf.setO k 1) spare W (h.below hb) hSim.rel hZ hI.lo hI.hi hI.kind hI.name hfd (Gd.newF_new hk) (by omega)).mono ?_
      rintro e w' ⟨v,r,rfl,ho⟩;refine⟨v,r,rfl,?_⟩;rcases ho with⟨e1,e2,e3,N,c2,hN⟩|⟨e1,f,j,N,e2,e3,e4,hN,e5⟩
      ·exact Or.inl ⟨e1,e2,e3,N,c2,hN.behind hb⟩
      ·exact Or.inr ⟨e1,f,j,N,e2,e3,e4,hN.behind hb,e5⟩
     ·rintro e w' ⟨v,r,rfl,ho⟩;rcases ho with⟨rfl,rfl,e3,N,c2,hN⟩|⟨rfl,f,j,N,rfl,⟨f1,f2⟩,f3,hN,hj,hej,hc⟩
      ·refine⟨0,18,rfl,fun _=>rfl,fun e=>absurd e (by decide),Or.inl ⟨rfl,?_,N,c2,hN⟩⟩;rcases e3 with e3|e3|e3
       ·exact Or.inl e3
       ·exact Or.inr (Or.inr ⟨hz,e3⟩)
       ·exact Or.inr (Or.inl e3)
      ·obtain⟨T',φ',hS'⟩:=hSim.create hZ f1 f2 f3 hk hlt (Gd.newF_new hk).may hI.lo hI.hi hI.kind (Np.name_ne hI.name) hfd hj hej hc;refine⟨f,0,rfl,fun e=>absurd rfl e,fun _=>hlt,Or.inr (Or.inr ⟨rfl,?_,N,T',φ',hN.more (by omega),?_⟩)⟩
       ·rw[hop];show(if _ then _ else _:Pz.Fil×Pz.Rep).2=_
        rw[if_neg h8]
       ·rw[hop];show Gd.Sim N T' _ (if _ then _ else _:Pz.Fil×Pz.Rep).1 φ'
        rw[if_neg h8];exact hS'
   ·refine(YQ k hk s _ _ _ _ _ fl spare _ w hf hE' ?_ hW hP).mono ?_
    ·by_cases a:(Gd.walkP M T s.data.toList).2=10
     ·by_cases b:(Gd.placeQ M T s.data.toList).2.2=0
      ·exact Or.inr (Or.inr (Classical.not_not.1 fun e=>hmk ⟨a,b,e⟩))
      ·exact Or.inr (Or.inl (by omega))
     ·exact Or.inl (by omega)
    ·rintro e w' ⟨rfl,hb⟩;refine⟨0,_,rfl,fun _=>rfl,fun e=>absurd e hE',zP h hE' (by omega) ?_ hb⟩;rw[hop];split
     ·rename_i hcd
      rw[if_neg (fun b=>hmk ⟨by omega,b,hcd.2⟩)]at hpl;rw[hpl]
     ·rfl
 ·refine(YS k hk s fl spare _ w hf).mono ?_
  rintro e w' ⟨rfl,rfl⟩;refine⟨0,15,rfl,fun _=>rfl,fun e=>absurd e (by decide),zP h (by decide) (by decide) ?_ (Below.refl _ _)⟩;unfold Pz.opens;exact if_pos hf
theorem J3[zg](k fd:Nat)(hk:k<8)(hfd:fd<8)(w:World)(h:zy x t S M 0 K w F)(hSim:Gd.Sim M T D Z φ):
 Calls prog 42 #[.pointer (some ⟨x,0,none⟩),.int .i64 ((k:Int)+1),.int .i64 (D k fd:Nat)] w fun e w'=>∃r:Int,e= .returned (.int .i64 r)∧Out x t K S M False F w Z (if Pz.ofd Z.O ((k:Int)+1) fd<0 then(Z,Pz.er 16)else({Z with O:=Pz.shut Z.O ((k:Int)+1) fd},Pz.er 0)) (Pz.er 0) (Gd.updD D k fd 0) r w':=by
 have ho:=hSim.ofd k hk fd;by_cases h0:D k fd=0
 ·rw[if_neg (fun e=>e.2.2 (by rw[Int.toNat_natCast];exact h0))]at ho;rw[h0];refine(Ya ((k:Int)+1) w h).mono ?_
  rintro e w' ⟨rfl,hb⟩;refine⟨16,rfl,zP h (by decide) (by decide) ?_ hb⟩;rw[ho,if_pos (by decide)]
 ·rw[if_pos ⟨by omega,by omega,by rw[Int.toNat_natCast];exact h0⟩]at ho;obtain⟨i1,i2,hk1⟩:=hSim.cnt.fds k fd hk hfd h0;have hO:=hSim.cnt.opn _ i1 i2 hk1 k hk;obtain⟨hS1,o1,o8,hm⟩:=hSim.shut hk hfd h0 hO;obtain⟨hsh,hmy⟩:=hSim.rel.hold.may _ i1 i2;refine(Jr k (D k fd) _ 0 w (fun w'=>zt x t S (Gd.keepV M (D k fd) ((M.ino (D k fd)).setO k ((Gd.cntD D k (D k fd):Int)-1))) 2 K F w w') h i1 i2 hk hO o1 o8 fun W hb=> ?_).mono ?_
  ·refine(vK (D k fd) ((M.ino (D k fd)).setO k ((Gd.cntD D k (D k fd):Int)-1)) (Gd.Ino.setO_shape hsh k _) hm (Gd.file_links hk1 hmy).1 (Gd.file_opn (x:=(M.ino (D k fd)).setO k ((Gd.cntD D k (D k fd):Int)-1)) hk1 hm) W (h.below hb) i1 i2 (by omega)).mono ?_
   rintro e w' ⟨rfl,hN⟩;exact⟨rfl,hN.behind hb⟩
  ·rintro e w' ⟨rfl,hN⟩;refine⟨0,rfl,Or.inr (Or.inr ⟨rfl,?_,_,T,φ,hN.more (by omega),?_⟩)⟩
   ·rw[ho,if_neg (by omega)]
   ·rw[ho,if_neg (by omega)];exact hS1
theorem J1[zg](s:ByteArray)(spare:Int)(w:World)(h:zy x t S M 0 K w F)(hs:s.size≤100000)(hM:Mx w)(hSim:Gd.Sim M T D Z φ)(hZ:Pz.Ok Z):
 Calls prog 39 #[.pointer (some ⟨x,0,none⟩),.string s,.int .i64 spare] w fun e w'=>∃r:Int,e= .returned (.int .i64 r)∧Out x t K S M (xg M T s.data.toList spare) F w Z (Pz.mkdir Z s.data.toList) (Pz.er 0) D r w':=by
 have hT:=hSim.rel.tree;have hfi:=hSim.rel.find s.data.toList;have hpl:=hSim.rel.place s.data.toList;have hW:=fun W (hb:Below w.heap.size w W)=>qb s W (h.below hb) hT hs (hM.keep hb);have hP:=fun W (hb:Below w.heap.size w W)=>j9 s W (h.below hb) hT hs (hM.keep hb);have hisP:=hSim.rel.isPlace (p:=s.data.toList);have herr:=Gd.placeQ_err M T s.data.toList;by_cases hE:(Gd.walkP M T s.data.toList).2=0
 ·rw[hE]at hW;rw[if_pos hE]at hfi;refine(Jb s _ spare w hW).mono ?_
  rintro e w' ⟨rfl,hb⟩;refine⟨11,rfl,zP h (by decide) (by decide) ?_ hb⟩;unfold Pz.mkdir;rw[hfi]
 ·rw[if_neg hE]at hfi;have hE':((Gd.walkP M T s.data.toList).2:Int)≠0:=by omega
  by_cases hz:(Gd.placeQ M T s.data.toList).2.2=0
  ·rw[if_pos hz]at hpl;rw[hz]at hP;have hI:=hisP hz;have hwk:=hI.walk;have hfd:Gd.findT (T (Gd.placeQ M T s.data.toList).1) (Gd.placeQ M T s.data.toList).2.1 (Gd.hN (Gd.placeQ M T s.data.toList).2.1)=none:=by
    cases hq:Gd.findT (T (Gd.placeQ M T s.data.toList).1) (Gd.placeQ M T s.data.toList).2.1 (Gd.hN (Gd.placeQ M T s.data.toList).2.1)with
    |none=>rfl
    |some j=>
     rw[hq]at hwk;rw[hwk]at hE;exact absurd rfl hE
   have hnm:=Gd.nameB_ok hI.name;refine(XJ s _ _ _ _ spare hE' w (fun r w'=>∃v,Zu x t 0 K S M T (Gd.placeQ M T s.data.toList).1 (Gd.placeQ M T s.data.toList).2.1 Gd.rootI spare F w v r w') hW hP (fun W hb=>ve _ W (h.below hb) (hT.dir _ hI.lo hI.hi hI.kind) (by omega) hnm.1 hfd) fun W hb=> ?_).mono ?_
   ·refine(Jc (Gd.placeQ M T s.data.toList).2.1 Gd.rootI spare W (h.below hb) hSim.rel hZ hI.lo hI.hi hI.kind hI.name hfd Gd.rootI_new (by omega)).mono ?_
    rintro e w' ⟨v,r,rfl,ho⟩;refine⟨v,r,rfl,v,?_⟩;rcases ho with⟨e1,e2,e3,N,c2,hN⟩|⟨e1,f,j,N,e2,e3,e4,hN,e5⟩
    ·exact Or.inl ⟨e1,e2,e3,N,c2,hN.behind hb⟩
    ·exact Or.inr ⟨e1,f,j,N,e2,e3,e4,hN.behind hb,e5⟩
   ·rintro e w' ⟨r,rfl,v,ho⟩;refine⟨r,rfl,?_⟩;rcases ho with⟨rfl,rfl,e3,N,c2,hN⟩|⟨rfl,f,j,N,rfl,⟨f1,f2⟩,f3,hN,hj,hej,hc⟩
    ·refine Or.inl ⟨rfl,?_,N,c2,hN⟩;rcases e3 with e3|e3|e3
     ·exact Or.inl e3
     ·exact Or.inr (Or.inr ⟨hz,e3⟩)
     ·exact Or.inr (Or.inl e3)
    ·obtain⟨T',φ',hS'⟩:=hSim.mkdir hZ f1 f2 f3 hI.lo hI.hi hI.kind (Np.name_ne hI.name) hfd hj hej hc;refine Or.inr (Or.inr ⟨rfl,?_,N,T',φ',hN.more (by omega),?_⟩)
     ·unfold Pz.mkdir;rw[hfi,hpl]
     ·unfold Pz.mkdir;rw[hfi,hpl];exact hS'
  ·rw[if_neg hz]at hpl;have hz':((Gd.placeQ M T s.data.toList).2.2:Int)≠0:=by omega
   refine(uk s _ _ _ _ _ spare hE' hz' w hW hP).mono ?_
   rintro e w' ⟨rfl,hb⟩;refine⟨_,rfl,zP h hz' (by omega) ?_ hb⟩;unfold Pz.mkdir;rw[hfi,hpl]
end
section
open Go.Shelf
namespace Gd
theorem rawN_mem{T:Tab}(hT:T.length=16)(x:List UInt8):∀k,k≤16→(x∈rawN T k↔x≠[]∧∃j,j<k∧(entAt T j).s=x)
 |0,_=>by
  constructor
  ·intro h;unfold rawN at h;rw[List.take_zero]at h
   cases h
  ·rintro⟨_,j,hj,_⟩;omega
 |k+1,hk=>by
  rw[rawN_step hT (by omega),List.mem_append,rawN_mem hT x k (by omega)];constructor
  ·rintro(⟨h1,j,h2,h3⟩|h)
   ·exact⟨h1,j,by omega,h3⟩
   ·split at h
    ·cases h
    ·rename_i hne
     rw[List.mem_singleton]at h;rw[h];exact⟨hne,k,by omega,rfl⟩
  ·rintro⟨h1,j,h2,h3⟩;by_cases e:j=k
   ·right
    rw[←e,h3,if_neg h1];exact List.mem_singleton.2 rfl
   ·exact Or.inl ⟨h1,j,by omega,h3⟩
theorem rawN_nodup{T:Tab}(hT:T.length=16)(hu:Uniq T):∀k,k≤16→(rawN T k).Nodup
 |0,_=>by
  unfold rawN;rw[List.take_zero];exact List.Pairwise.nil
 |k+1,hk=>by
  rw[rawN_step hT (by omega)];refine List.nodup_append.2 ⟨rawN_nodup hT hu k (by omega),?_,fun a ha b hb e=> ?_⟩
  ·split
   ·exact List.Pairwise.nil
   ·exact List.pairwise_singleton _ _
  ·subst e;split at hb
   ·cases hb
   ·rename_i hne
    rw[List.mem_singleton]at hb;obtain⟨h1,j,h2,h3⟩:=(rawN_mem hT a k (by omega)).1 ha;have:=hu j k (by omega) (by omega) (by rw[h3];exact h1) (by rw[h3,hb])
    omega
theorem rawN_len(T:Tab):(rawN T 16).length=namedT T 16:=by
 unfold rawN namedT;rw[List.filter_map,List.length_map];rfl
theorem namesT_named(T:Tab):(namesT T).length=namedT T 16:=by rw[namesT_len,rawN_len]
section
variable {M:Vol} {T:Nat→Tab} {Z:Pz.Fil} {φ:Nat→Nat} {D:Nat→Nat→Nat}
theorem Rel.perm(h:Rel M T Z φ)(ho:Z.E.Pairwise fun a b=>¬(a.dir=b.dir∧a.name=b.name))(hn:∀e∈Z.E,Np.nameB e.name=true){d:Nat}(d1:1≤d)(d2:d≤32)(hk:(M.ino d).k=2):(rawN (T d) 16).Perm ((Z.E.filter fun e=>e.dir==φ d).map (·.name)):=by
 have hD:=h.hold.dir d d1 d2 hk;refine(List.perm_ext_iff_of_nodup (rawN_nodup hD.ok.len (h.hold.uniq d d1 d2 hk) 16 (by omega)) (Pz.names_nodup ho)).2 fun x=> ?_
 rw[rawN_mem hD.ok.len x 16 (by omega),Pz.names_mem,h.look d d1 d2 hk x];constructor
 ·rintro⟨h1,j,h2,h3⟩;rw[if_neg]
  ·omega
  ·rw[dirE_at (h.hold.uniq d d1 d2 hk) h2 h1 h3];rcases entAt_may hD.ok j with e|⟨_,e,_⟩
   ·rw[e]at h3;exact absurd h3.symm h1
   ·omega
 ·intro h0;by_cases hx:dirE (T d) x=0
  ·rw[if_pos hx]at h0;omega
  ·unfold dirE at hx
   cases hf:findT (T d) x (hN x)with
   |none=>
    rw[hf]at hx;exact absurd rfl hx
   |some j=>
    obtain⟨e1,e2⟩:=find_some hf;exact⟨e2,j.val,j.isLt,e1⟩
theorem Rel.names{K:Nat}(h:Rel M T Z φ)(hG:Pz.Good K Z){d:Nat}(d1:1≤d)(d2:d≤32)(hk:(M.ino d).k=2):namesT (T d)=Pz.namesOf Z.E (φ d)∧Pz.count Z.E (φ d)=namedT (T d) 16:=by
 have hp:=h.perm hG.once hG.name d1 d2 hk;refine⟨Pz.namesOf_eq hp,?_⟩;have:=hp.length_eq
 rw[List.length_map,rawN_len]at this;exact this.symm
end
theorem walkP_root(M:Vol)(T:Nat→Tab):walkP M T [47]=(1,0):=rfl
end Gd
theorem yc{s:ByteArray}(h:s.data.toList=[47]):s=⟨#[47]⟩:=by
 obtain⟨d⟩:=s;exact congrArg ByteArray.mk (Array.ext' h)
variable {x t c K Kg:Nat} {S:List UInt8} {M:Gd.Vol} {T:Nat→Gd.Tab} {Z:Pz.Fil} {φ:Nat→Nat} {D:Nat→Nat→Nat} {F:Nat→Prop}
theorem vw[zg]{i d:Nat}{y:List UInt8}{j:Fin 16}(s:ByteArray)(w:World)(h:zy x t S M c K w F)(hc:c+20<64)(hs:s.size≤100000)(hM:Mx w)(hSim:Gd.Sim M T D Z φ)(hp:Gd.placeQ M T s.data.toList=(d,y,0))(hI:Gd.IsPlace M T s.data.toList d y)(hf:Gd.findT (T d) y (Gd.hN y)=some j)(he:(Gd.entAt (T d) j.val).i=i)(hk:(M.ino i).k=2)(hn:Gd.namedT (T i) 16=0):
 Calls prog 93 #[.pointer (some ⟨x,0,none⟩),.string s,.int .i64 i,.func (.func 102) #[.pointer (some ⟨x,0,none⟩)] #[]] w fun e w'=>e= .returned (.int .i64 0)∧∃N,zt x t S (N.setIno i Gd.noIno) (c+5) K F w w'∧Gd.Chg M T N d (Gd.setT (T d) j.val Gd.noEnt)∧Gd.countB N.map≤Gd.countB M.map∧Gd.Sim (N.setIno i Gd.noIno) (Gd.upd T d (Gd.setT (T d) j.val Gd.noEnt)) D {Z with E:=Pz.take Z.E (φ d) y} φ:=by
 have hT:=hSim.rel.tree;have hnm:=Gd.nameB_ok hI.name;have hfe:=Gd.find_ent hT hI.lo hI.hi hI.kind hf;rw[he]at hfe;obtain⟨i1,i2,i3,-⟩:=hfe;refine Zc s ⟨y.toArray⟩ (i:Int) (d:Int) 0 w (fun w'=>∃N:Gd.Vol,vg x t (c+4) K S M T d j.val F w w' N) _ (fun W hb=> ?_) (fun W hb=> ?_) fun W hQ=> ?_
 ·have:=j9 s W (h.below hb) hT hs (hM.keep hb)
  rw[hp]at this;exact this
 ·refine(vi y j W (h.below hb) hSim.rel.hold hI.lo hI.hi hI.kind (by omega) hf (by omega)).mono ?_
  rintro e w' ⟨rfl,N,hN⟩;exact⟨rfl,N,hN.turns.behind hb,hN.chg,hN.count⟩
 ·obtain⟨N,hN⟩:=hQ;obtain⟨F1,h1⟩:=hN.turns;have hsi:=jI (i:Int) Gd.noIno qd (by decide) W h1.inv (by omega) (by omega) (by omega);rw[Int.toNat_natCast]at hsi;refine(X5 (i:Int) 0 W _ hsi).mono ?_
  rintro e w' ⟨rfl,F2,h2⟩;exact⟨rfl,N,⟨F2,h1.trans h2⟩,hN.chg,hN.count,hSim.rmdir hI.lo hI.hi hI.kind hf he hk hn hN.chg⟩
theorem yS[zg]{i d:Nat}{y:List UInt8}{j:Fin 16}(s:ByteArray)(w:World)(h:zy x t S M c K w F)(hc:c+20<64)(hs:s.size≤100000)(hM:Mx w)(hSim:Gd.Sim M T D Z φ)(hp:Gd.placeQ M T s.data.toList=(d,y,0))(hI:Gd.IsPlace M T s.data.toList d y)(hf:Gd.findT (T d) y (Gd.hN y)=some j)(he:(Gd.entAt (T d) j.val).i=i)(hk:(M.ino i).k=1):
 Calls prog 93 #[.pointer (some ⟨x,0,none⟩),.string s,.int .i64 i,.func (.func 94) #[.pointer (some ⟨x,0,none⟩)] #[]] w fun e w'=>e= .returned (.int .i64 0)∧∃N,zt x t S (Gd.keepV N i ((N.ino i).setL ((N.ino i).l-1))) (c+6) K F w w'∧Gd.Chg M T N d (Gd.setT (T d) j.val Gd.noEnt)∧Gd.countB N.map≤Gd.countB M.map∧(N.ino i).B=[0,0,0,0]∧Gd.Sim (Gd.keepV N i ((N.ino i).setL ((N.ino i).l-1))) (Gd.upd T d (Gd.setT (T d) j.val Gd.noEnt)) D {Z with E:=Pz.take Z.E (φ d) y,N:=Z.N.set (φ i) ⟨false,[],(M.ino i).l-1⟩} φ:=by
 have hT:=hSim.rel.tree;have hnm:=Gd.nameB_ok hI.name;have hfe:=Gd.find_ent hT hI.lo hI.hi hI.kind hf;rw[he]at hfe;obtain⟨i1,i2,i3,-⟩:=hfe;refine uA s ⟨y.toArray⟩ i d 0 w (fun w'=>∃N:Gd.Vol,vg x t (c+4) K S M T d j.val F w w' N) _ (fun W hb=> ?_) (fun W hb=> ?_) fun W hQ=> ?_
 ·have:=j9 s W (h.below hb) hT hs (hM.keep hb)
  rw[hp]at this;exact this
 ·refine(vi y j W (h.below hb) hSim.rel.hold hI.lo hI.hi hI.kind (by omega) hf (by omega)).mono ?_
  rintro e w' ⟨rfl,N,hN⟩;exact⟨rfl,N,hN.turns.behind hb,hN.chg,hN.count⟩
 ·obtain⟨N,hN⟩:=hQ;obtain⟨F1,h1⟩:=hN.turns;obtain⟨hl,hm,hS'⟩:=hSim.unlink hI.lo hI.hi hI.kind hf he hk hN.chg;have hk1:(N.ino i).k=1:=by rw[hN.chg.kindAll];exact hk
  obtain⟨hsh,hmy⟩:=hN.chg.hold.may i i1 i2;refine(QH i 0 W (fun w'=>zt x t S (Gd.keepV N i ((N.ino i).setL ((N.ino i).l-1))) (c+6) K F w w') h1.inv i1 i2 hl fun W2 hb2=> ?_).mono ?_
  ·refine(vK i ((N.ino i).setL ((N.ino i).l-1)) (Gd.Ino.setL_shape hsh _) hm (by show(0:Int)≤(N.ino i).l-1;omega) (fun n hn=>Gd.file_opn (x:=N.ino i) hk1 hmy n hn) W2 (h1.inv.below hb2) i1 i2 (by omega)).mono ?_
   rintro e w' ⟨rfl,F2,h2⟩;obtain⟨F3,h3⟩:=zt.behind hb2 ⟨F2,h2⟩;exact⟨rfl,F3,h1.trans h3⟩
  ·rintro e w' ⟨rfl,hN2⟩;exact⟨rfl,N,hN2,hN.chg,hN.count,(hN.chg.hold.file i i1 i2 hk1).1,hS'⟩
theorem J0[zg](s:ByteArray)(w:World)(h:zy x t S M 0 K w F)(hs:s.size≤100000)(hM:Mx w)(hSim:Gd.Sim M T D Z φ)(hG:Pz.Good Kg Z):
 Calls prog 52 #[.pointer (some ⟨x,0,none⟩),.string s] w fun e w'=>∃r:Int,e= .returned (.int .i64 r)∧Out x t K S M False F w Z (Pz.rmdirR Z s.data.toList) (Pz.er 0) D r w':=by
 have hT:=hSim.rel.tree;have hfi:=hSim.rel.find s.data.toList;have hpl:=hSim.rel.place s.data.toList;have hW:=fun W (hb:Below w.heap.size w W)=>qb s W (h.below hb) hT hs (hM.keep hb);have herr:=Gd.walkP_err M T s.data.toList;by_cases h47:s.data.toList=[47]
 ·have:=yc h47
  subst this;refine(JN w).mono ?_
  rintro e w' ⟨rfl,rfl⟩;refine⟨15,rfl,zP h (by decide) (by decide) ?_ (Below.refl _ _)⟩;unfold Pz.rmdirR;rw[if_pos h47]
 ·by_cases hE:(Gd.walkP M T s.data.toList).2=0
  ·rw[hE]at hW;rw[if_pos hE]at hfi;obtain⟨i1,i2,i3⟩:=hSim.rel.at hE;obtain⟨hz,j,hj,hje⟩:=hSim.rel.placed hE h47;have hI:=hSim.rel.isPlace hz;rw[if_pos hz]at hpl;obtain⟨i,hi⟩:=nm ((Gd.walkP M T s.data.toList).1);rw[←hi]at hfi hW i1 i2 i3 hje;have hkd:=hSim.rel.kind i1 i2 i3;by_cases hk2:(M.ino i).k=2
   ·obtain⟨hnm,hct⟩:=hSim.rel.names hG i1 i2 hk2;have hlen:=Gd.namesT_named (T i);replace hkd:Pz.isDir Z.N (φ i)=true:=by rw[hkd];exact decide_eq_true hk2
    have hTI:=fun W (hb:Below w.heap.size w W)=>jw W (h.below hb) (hT.dir i i1 i2 hk2);by_cases hn:0<Gd.namedT (T i) 16
    ·refine(Za s (i:Int) (T i) h47 (hT.dir i i1 i2 hk2).ok (by omega) w hW hTI).mono ?_
     rintro e w' ⟨rfl,hb⟩;refine⟨14,rfl,zP h (by decide) (by decide) ?_ hb⟩;unfold Pz.rmdirR;rw[if_neg h47,hfi];dsimp only;rw[hkd,if_pos rfl,hct,if_pos hn]
    ·have hn0:Gd.namedT (T i) 16=0:=by omega
     have hpq:Gd.placeQ M T s.data.toList=((Gd.placeQ M T s.data.toList).1,(Gd.placeQ M T s.data.toList).2.1,0):=Prod.ext rfl (Prod.ext rfl hz);refine(Xc s (i:Int) 0 (T i) h47 (hT.dir i i1 i2 hk2).ok (by omega) w (fun w'=>∃N:Gd.Vol,zt x t S (N.setIno i Gd.noIno) 5 K F w w'∧Gd.Sim (N.setIno i Gd.noIno) (Gd.upd T (Gd.placeQ M T s.data.toList).1 (Gd.setT (T (Gd.placeQ M T s.data.toList).1) j.val Gd.noEnt)) D {Z with E:=Pz.take Z.E (φ (Gd.placeQ M T s.data.toList).1) (Gd.placeQ M T s.data.toList).2.1} φ) hW hTI fun W hb=> ?_).mono ?_
     ·refine(vw s W (h.below hb) (by omega) hs (hM.keep hb) hSim hpq hI hj hje hk2 hn0).mono ?_
      rintro e w' ⟨rfl,N,hN,-,-,hS'⟩;exact⟨rfl,N,(hN.behind hb).more (by omega),hS'⟩
     ·rintro e w' ⟨rfl,N,hN,hS'⟩;have hz2:Pz.rmdirR Z s.data.toList=({Z with E:=Pz.take Z.E (φ (Gd.placeQ M T s.data.toList).1) (Gd.placeQ M T s.data.toList).2.1},Pz.er 0):=by
       unfold Pz.rmdirR;rw[if_neg h47,hfi];dsimp only;rw[hkd,if_pos rfl,hct,if_neg hn,hpl]
      refine⟨0,rfl,Or.inr (Or.inr ⟨rfl,by rw[hz2],_,Gd.upd T (Gd.placeQ M T s.data.toList).1 (Gd.setT (T (Gd.placeQ M T s.data.toList).1) j.val Gd.noEnt),φ,hN.more (by omega),?_⟩)⟩;rw[hz2];exact hS'
   ·refine(Xb s (i:Int) 12 h47 (by decide) w hW fun W hb=>qV W (h.below hb) i1 i2 hk2).mono ?_
    rintro e w' ⟨rfl,hb⟩;refine⟨12,rfl,zP h (by decide) (by decide) ?_ hb⟩;unfold Pz.rmdirR;rw[if_neg h47,hfi];dsimp only;rw[hkd,decide_eq_false hk2,if_neg (by decide)]
  ·rw[if_neg hE]at hfi;have hE':((Gd.walkP M T s.data.toList).2:Int)≠0:=by omega
   refine(Xd s _ _ h47 hE' w hW).mono ?_
   rintro e w' ⟨rfl,hb⟩;refine⟨_,rfl,zP h hE' (by omega) ?_ hb⟩;unfold Pz.rmdirR;rw[if_neg h47,hfi]
theorem Zg{i:Nat}{p:List UInt8}(h:Gd.Rel M T Z φ)(hi:i=(Gd.walkP M T p).1)(hk:(M.ino i).k≠2):p≠[47]:=fun e=>by
 rw[e,Gd.walkP_root]at hi;rw[hi]at hk;exact hk h.root.1
theorem qX{i:Nat}(h:Gd.Rel M T Z φ)(i1:1≤i)(i2:i≤32)(hk:(M.ino i).k=1):Pz.nodeD Z.N (φ i)=⟨false,[],(M.ino i).l⟩:=by
 unfold Pz.nodeD;rw[h.file i i1 i2 hk]
theorem Z8[zg](s:ByteArray)(w:World)(h:zy x t S M 0 K w F)(hs:s.size≤100000)(hM:Mx w)(hSim:Gd.Sim M T D Z φ):
 Calls prog 41 #[.pointer (some ⟨x,0,none⟩),.string s] w fun e w'=>∃r:Int,e= .returned (.int .i64 r)∧Out x t K S M False F w Z (Pz.unlink Z s.data.toList) (Pz.er 0) D r w':=by
 have hT:=hSim.rel.tree;have hfi:=hSim.rel.find s.data.toList;have hpl:=hSim.rel.place s.data.toList;have hW:=fun W (hb:Below w.heap.size w W)=>qb s W (h.below hb) hT hs (hM.keep hb);have herr:=Gd.walkP_err M T s.data.toList;by_cases hE:(Gd.walkP M T s.data.toList).2=0
 ·rw[hE]at hW;rw[if_pos hE]at hfi;obtain⟨i1,i2,i3⟩:=hSim.rel.at hE;have hnr:=fun hk=>Zg (p:=s.data.toList) hSim.rel rfl hk;have hpd:=hSim.rel.placed (p:=s.data.toList) hE;obtain⟨i,hi⟩:=nm ((Gd.walkP M T s.data.toList).1);rw[←hi]at hfi hW i1 i2 i3 hpd hnr;have hkd:=hSim.rel.kind i1 i2 i3;obtain⟨hsh,hmy⟩:=hSim.rel.hold.may i i1 i2;have hI:=fun W (hb:Below w.heap.size w W)=>zZ (i:Int) W (h.below hb) (by omega) (by omega);rw[Int.toNat_natCast]at hI;by_cases hk2:(M.ino i).k=2
  ·refine(JG s (i:Int) (M.ino i) hsh hk2 w hW hI).mono ?_
   rintro e w' ⟨rfl,hb⟩;refine⟨13,rfl,zP h (by decide) (by decide) ?_ hb⟩;unfold Pz.unlink;rw[hfi];dsimp only;rw[hkd,hk2];rfl
  ·have hk1:(M.ino i).k=1:=by
    rcases Gd.kinds hmy with e|e|e
    ·exact absurd e i3
    ·exact e
    ·exact absurd e hk2
   obtain⟨hz,j,hj,hje⟩:=hpd (hnr hk2);have hIp:=hSim.rel.isPlace hz;rw[if_pos hz]at hpl;have hpq:Gd.placeQ M T s.data.toList=((Gd.placeQ M T s.data.toList).1,(Gd.placeQ M T s.data.toList).2.1,0):=Prod.ext rfl (Prod.ext rfl hz);refine(un s i (M.ino i) 0 hsh hk2 w (fun w'=>∃N:Gd.Vol,zt x t S (Gd.keepV N i ((N.ino i).setL ((N.ino i).l-1))) 6 K F w w'∧Gd.Sim (Gd.keepV N i ((N.ino i).setL ((N.ino i).l-1))) (Gd.upd T (Gd.placeQ M T s.data.toList).1 (Gd.setT (T (Gd.placeQ M T s.data.toList).1) j.val Gd.noEnt)) D {Z with E:=Pz.take Z.E (φ (Gd.placeQ M T s.data.toList).1) (Gd.placeQ M T s.data.toList).2.1,N:=Z.N.set (φ i) ⟨false,[],(M.ino i).l-1⟩} φ) hW hI fun W hb=> ?_).mono ?_
   ·refine(yS s W (h.below hb) (by omega) hs (hM.keep hb) hSim hpq hIp hj hje hk1).mono ?_
    rintro e w' ⟨rfl,N,hN,-,-,-,hS'⟩;exact⟨rfl,N,(hN.behind hb).more (by omega),hS'⟩
   ·rintro e w' ⟨rfl,N,hN,hS'⟩;have hz2:Pz.unlink Z s.data.toList=({Z with E:=Pz.take Z.E (φ (Gd.placeQ M T s.data.toList).1) (Gd.placeQ M T s.data.toList).2.1,N:=Z.N.set (φ i) ⟨false,[],(M.ino i).l-1⟩},Pz.er 0):=by
     unfold Pz.unlink;rw[hfi];dsimp only;rw[hkd,decide_eq_false hk2,if_neg (by decide),hpl,qX hSim.rel i1 i2 hk1]
    refine⟨0,rfl,Or.inr (Or.inr ⟨rfl,by rw[hz2],_,Gd.upd T (Gd.placeQ M T s.data.toList).1 (Gd.setT (T (Gd.placeQ M T s.data.toList).1) j.val Gd.noEnt),φ,hN.more (by omega),?_⟩)⟩;rw[hz2];exact hS'
 ·rw[if_neg hE]at hfi;have hE':((Gd.walkP M T s.data.toList).2:Int)≠0:=by omega
  refine(JF s _ _ hE' w hW).mono ?_
  rintro e w' ⟨rfl,hb⟩;refine⟨_,rfl,zP h hE' (by omega) ?_ hb⟩;unfold Pz.unlink;rw[hfi]
theorem XH[zg](s u:ByteArray)(spare:Int)(w:World)(h:zy x t S M 0 K w F)(hs:s.size≤100000)(hu:u.size≤100000)(hM:Mx w)(hSim:Gd.Sim M T D Z φ):
 Calls prog 53 #[.pointer (some ⟨x,0,none⟩),.string s,.string u,.int .i64 spare] w fun e w'=>∃r:Int,e= .returned (.int .i64 r)∧Out x t K S M (xg M T u.data.toList spare) F w Z (Pz.link Z s.data.toList u.data.toList) (Pz.er 0) D r w':=by
 have hT:=hSim.rel.tree;have hfi:=hSim.rel.find s.data.toList;have hpl:=hSim.rel.place u.data.toList;have hW:=fun W (hb:Below w.heap.size w W)=>qb s W (h.below hb) hT hs (hM.keep hb);have hP:=fun W (hb:Below w.heap.size w W)=>j9 u W (h.below hb) hT hu (hM.keep hb);have hB:=fun W (hb:Below w.heap.size w W)=>Jt s u W hs hu (hM.keep hb);have herr:=Gd.walkP_err M T s.data.toList;have herr2:=Gd.placeQ_err M T u.data.toList;by_cases hno:Np.pathL s.data.toList=none∨Np.pathL u.data.toList=none
 ·have hbv:(decide (Np.pathL s.data.toList≠none)&&decide (Np.pathL u.data.toList≠none))=false:=by
   rcases hno with e|e<;>rw[e]<;>simp
  refine(J6 s u spare w fun W hb=>by rw[←hbv];exact hB W hb).mono ?_
  rintro e w' ⟨rfl,hb⟩;refine⟨15,rfl,zP h (by decide) (by decide) ?_ hb⟩;unfold Pz.link;rw[if_pos hno]
 ·have hbv:(decide (Np.pathL s.data.toList≠none)&&decide (Np.pathL u.data.toList≠none))=true:=by
   simp only[not_or]at hno;rw[decide_eq_true hno.1,decide_eq_true hno.2];rfl
  rw[hbv]at hB;by_cases hE:(Gd.walkP M T s.data.toList).2=0
  ·rw[hE]at hW;rw[if_pos hE]at hfi;obtain⟨i1,i2,i3⟩:=hSim.rel.at hE;obtain⟨i,hi⟩:=nm ((Gd.walkP M T s.data.toList).1);rw[←hi]at hfi hW i1 i2 i3;have hkd:=hSim.rel.kind i1 i2 i3;obtain⟨hsh,hmy⟩:=hSim.rel.hold.may i i1 i2;have hI:=fun W (hb:Below w.heap.size w W)=>zZ (i:Int) W (h.below hb) (by omega) (by omega);rw[Int.toNat_natCast]at hI;by_cases hk2:(M.ino i).k=2
   ·refine(Y9 s u spare (i:Int) (M.ino i) hsh hk2 w hB hW hI).mono ?_
    rintro e w' ⟨rfl,hb⟩;refine⟨13,rfl,zP h (by decide) (by decide) ?_ hb⟩;unfold Pz.link;rw[if_neg hno,hfi];dsimp only;rw[hkd,hk2];rfl
   ·have hk1:(M.ino i).k=1:=by
     rcases Gd.kinds hmy with e|e|e
     ·exact absurd e i3
     ·exact e
     ·exact absurd e hk2
    rw[decide_eq_false hk2]at hkd;by_cases hu47:u.data.toList=[47]
    ·have:=yc hu47
     subst this;refine(XU s spare (i:Int) (M.ino i) hsh hk2 w hB hW hI).mono ?_
     rintro e w' ⟨rfl,hb⟩;refine⟨11,rfl,zP h (by decide) (by decide) ?_ hb⟩;unfold Pz.link;rw[if_neg hno,hfi];dsimp only;rw[hkd,if_neg (by decide),if_pos hu47]
    ·by_cases hz:(Gd.placeQ M T u.data.toList).2.2=0
     ·rw[if_pos hz]at hpl;rw[hz]at hP;have hIp:=hSim.rel.isPlace hz;obtain⟨d,hd⟩:=nm ((Gd.placeQ M T u.data.toList).1);obtain⟨y,hy⟩:=nm ((Gd.placeQ M T u.data.toList).2.1);rw[←hd,←hy]at hpl hP hIp;have hnm:=Gd.nameB_ok hIp.name;have hD:=hT.dir d hIp.lo hIp.hi hIp.kind;have hlk:=hSim.rel.look d hIp.lo hIp.hi hIp.kind y;have hz2:∀q,Pz.look Z.E (φ d) y=q→Pz.link Z s.data.toList u.data.toList=if 0≤q then(Z,Pz.er 11)else if(M.ino i).l=20 then(Z,Pz.er 20)else({Z with E:=Z.E++[⟨φ d,y,φ i⟩],N:=Z.N.set (φ i) ⟨false,[],(M.ino i).l+1⟩},Pz.er 0):=fun q hq=>by
       unfold Pz.link;rw[if_neg hno,hfi];dsimp only;rw[hkd,if_neg (by decide),if_neg hu47,hpl];dsimp only;rw[hq,qX hSim.rel i1 i2 hk1]
      cases hf:Gd.findT (T d) y (Gd.hN y)with
      |some j=>
       have hfe:=Gd.find_ent hT hIp.lo hIp.hi hIp.kind hf;rw[Gd.dirE_some hf,if_neg (by omega)]at hlk;have hFi:=fun W (hb:Below w.heap.size w W)=>find_some y j W (h.below hb) hT hIp.lo hIp.hi hIp.kind (by omega) hnm.1 hf;refine(J7 s u spare (i:Int) (M.ino i) hsh hk2 hu47 _ _ _ (by omega) w hB hW hI hP hFi).mono ?_
       rintro e w' ⟨rfl,hb⟩;refine⟨11,rfl,zP h (by decide) (by decide) ?_ hb⟩;rw[hz2 _ hlk,if_pos (by omega)]
      |none=>
       rw[Gd.dirE_none hf,if_pos rfl]at hlk;have hFi:=fun W (hb:Below w.heap.size w W)=>ve y W (h.below hb) hD (by omega) hnm.1 hf;have hll:=Gd.file_links hk1 hmy;have hz3:=hz2 _ hlk;rw[if_neg (show ¬(0:Int)≤ -1 by decide)]at hz3;by_cases h20:(M.ino i).l=20
       ·refine(XV s u spare (i:Int) (M.ino i) hsh hk2 hu47 (by omega) _ _ w hB hW hI hP hFi).mono ?_
        rintro e w' ⟨rfl,hb⟩;refine⟨20,rfl,zP h (by decide) (by decide) ?_ hb⟩;rw[hz3,if_pos h20]
       ·rw[if_neg h20]at hz3;obtain⟨fB,fs⟩:=hSim.rel.hold.file i i1 i2 hk1;have hm:Gd.mayI ((M.ino i).setL ((M.ino i).l+1))=true:=Gd.file_may' hk1 ⟨by show(0:Int)≤(M.ino i).l+1;omega,by show(M.ino i).l+1≤20;omega⟩ fB fs (fun n hn=>Gd.file_opn (x:=M.ino i) hk1 hmy n hn);have hH2:=(hSim.rel.setF (y:=(M.ino i).setL ((M.ino i).l+1)) i1 i2 hk1 (Gd.Ino.setL_shape hsh _) hm hk1 fB fs).hold;have hdi:d≠i:=fun e=>by
         have:=hIp.kind
         rw[e,hk1]at this;exact absurd this (by decide)
        have hkd2:((M.setIno i ((M.ino i).setL ((M.ino i).l+1))).ino d).k=2:=by rw[Gd.setIno_other M _ hdi];exact hIp.kind
        refine(Y7 s u spare (i:Int) (M.ino i) hsh hk2 hu47 ⟨by omega,by omega⟩ _ _ w (fun W=>zt x t S (M.setIno i ((M.ino i).setL ((M.ino i).l+1))) 1 K F w W) (fun r w'=>Out x t K S M (xg M T u.data.toList spare) F w Z (Pz.link Z s.data.toList u.data.toList) (Pz.er 0) D r w') hB hW hI hP hFi (fun W hb=> ?_) fun W hQ=> ?_)
        ·have:=jI (i:Int) ((M.ino i).setL ((M.ino i).l+1)) (Gd.Ino.setL_shape hsh _) hm W (h.below hb) (by omega) (by omega) (by omega)
         rw[Int.toNat_natCast]at this;exact this.mono fun e w' hq=>⟨hq.1,hq.2.behind hb⟩
        ·obtain⟨F1,h1⟩:=hQ;refine(Zd y i spare W h1.inv hH2 hIp.lo hIp.hi hkd2 hIp.name i1 i2 hf (by omega)).mono ?_
         rintro e w' (⟨rfl,N,j,hp⟩|⟨rfl,hr,hp⟩)
         ·obtain⟨F2,h2⟩:=hp.turns;have hN:zt x t S N 5 K F w w':=⟨F2,h1.trans h2⟩;refine⟨0,rfl,Or.inr (Or.inr ⟨rfl,by rw[hz3],N,Gd.upd T d (Gd.setT (T d) j ⟨y,i⟩),φ,hN.more (by omega),?_⟩)⟩;rw[hz3];exact hSim.link hIp.lo hIp.hi hIp.kind i1 i2 hk1 (by omega) hnm.1 hf hp.lt hp.no hp.chg
         ·obtain⟨F2,h2⟩:=hp;refine⟨18,rfl,Or.inl ⟨rfl,?_,_,_,F2,h1.trans h2⟩⟩;rcases hr with hr|hr
          ·exact Or.inr (Or.inr ⟨hz,by rw[←hd];exact hr⟩)
          ·exact Or.inr (Or.inl hr)
     ·rw[if_neg hz]at hpl;have hz':((Gd.placeQ M T u.data.toList).2.2:Int)≠0:=by omega
      refine(Zj s u spare (i:Int) (M.ino i) hsh hk2 hu47 _ _ _ hz' w hB hW hI hP).mono ?_
      rintro e w' ⟨rfl,hb⟩;refine⟨_,rfl,zP h hz' (by omega) ?_ hb⟩;unfold Pz.link;rw[if_neg hno,hfi];dsimp only;rw[hkd,if_neg (by decide),if_neg hu47,hpl]
  ·rw[if_neg hE]at hfi;have hE':((Gd.walkP M T s.data.toList).2:Int)≠0:=by omega
   refine(Y8 s u spare _ _ hE' w hB hW).mono ?_
   rintro e w' ⟨rfl,hb⟩;refine⟨_,rfl,zP h hE' (by omega) ?_ hb⟩;unfold Pz.link;rw[if_neg hno,hfi]
theorem XE[zg](s:ByteArray)(w:World)(h:zy x t S M c K w F)(hs:s.size≤100000)(hM:Mx w)(hSim:Gd.Sim M T D Z φ)(hG:Pz.Good Kg Z):
 Calls prog 47 #[.pointer (some ⟨x,0,none⟩),.string s] w fun e w'=>∃A cp,e= .returned (.tuple #[.slice A (Pz.tells Z 12 s.data.toList).2.names.length cp,.int .i64 (Pz.tells Z 12 s.data.toList).2.errno])∧jb w' w.heap.size A (Pz.tells Z 12 s.data.toList).2.names∧Below w.heap.size w w':=by
 have hT:=hSim.rel.tree;have hfi:=hSim.rel.find s.data.toList;have hW:=fun W (hb:Below w.heap.size w W)=>qb s W (h.below hb) hT hs (hM.keep hb);by_cases hE:(Gd.walkP M T s.data.toList).2=0
 ·rw[hE]at hW;rw[if_pos hE]at hfi;obtain⟨i1,i2,i3⟩:=hSim.rel.at hE;obtain⟨i,hi⟩:=nm ((Gd.walkP M T s.data.toList).1);rw[←hi]at hfi hW i1 i2 i3;have hkd:=hSim.rel.kind i1 i2 i3;by_cases hk2:(M.ino i).k=2
  ·have hz:Pz.tells Z 12 s.data.toList=(Z,Pz.namesR (Gd.namesT (T i))):=by
    unfold Pz.tells;rw[hfi];dsimp only;rw[hkd,decide_eq_true hk2,if_neg (by decide),if_pos rfl,(hSim.rel.names hG i1 i2 hk2).1]
   rw[hz];refine(YW s i (T i) (hT.dir i i1 i2 hk2).ok w hW fun W hb=>jw W (h.below hb) (hT.dir i i1 i2 hk2)).mono ?_
   rintro e w' ⟨A,cp,rfl,hS,hb⟩;exact⟨A,cp,rfl,hS,hb⟩
  ·have hz:Pz.tells Z 12 s.data.toList=(Z,Pz.er 12):=by
    unfold Pz.tells;rw[hfi];dsimp only;rw[hkd,decide_eq_false hk2,if_neg (by decide),if_neg (by decide)]
   rw[hz];refine(XF s i 12 (by decide) w hW fun W hb=>qV W (h.below hb) i1 i2 hk2).mono ?_
   rintro e w' ⟨rfl,hb⟩;exact⟨none,0,rfl,Or.inl rfl,hb⟩
 ·rw[if_neg hE]at hfi;have hz:Pz.tells Z 12 s.data.toList=(Z,Pz.er ((Gd.walkP M T s.data.toList).2:Int)):=by
   unfold Pz.tells;rw[hfi]
  rw[hz];refine(XG s _ _ (by omega) w (hW w (Below.refl _ _))).mono ?_
  rintro e w' ⟨rfl,hb⟩;exact⟨none,0,rfl,Or.inl rfl,hb⟩
theorem XB[zg](s:ByteArray)(w:World)(h:zy x t S M c K w F)(hs:s.size≤100000)(hM:Mx w)(hSim:Gd.Sim M T D Z φ)(hG:Pz.Good Kg Z):
 Calls prog 26 #[.pointer (some ⟨x,0,none⟩),.string s] w fun e w'=>e= .returned (.tuple #[.agg #[.int .i64 (Pz.tells Z 13 s.data.toList).2.kind,.int .i64 (Pz.tells Z 13 s.data.toList).2.links,.int .i64 (Pz.tells Z 13 s.data.toList).2.size],.int .i64 (Pz.tells Z 13 s.data.toList).2.errno])∧Below w.heap.size w w':=by
 have hT:=hSim.rel.tree;have hfi:=hSim.rel.find s.data.toList;have hW:=fun W (hb:Below w.heap.size w W)=>qb s W (h.below hb) hT hs (hM.keep hb);by_cases hE:(Gd.walkP M T s.data.toList).2=0
 ·rw[hE]at hW;rw[if_pos hE]at hfi;obtain⟨i1,i2,i3⟩:=hSim.rel.at hE;obtain⟨i,hi⟩:=nm ((Gd.walkP M T s.data.toList).1);rw[←hi]at hfi hW i1 i2 i3;have hkd:=hSim.rel.kind i1 i2 i3;obtain⟨hsh,hmy⟩:=hSim.rel.hold.may i i1 i2;have hI:=fun W (hb:Below w.heap.size w W)=>zZ (i:Int) W (h.below hb) (by omega) (by omega);rw[Int.toNat_natCast]at hI;have hz:(Pz.tells Z 13 s.data.toList).2=Pz.infoR (M.ino i).k (M.ino i).l (M.ino i).s:=by
   unfold Pz.tells;rw[hfi];dsimp only;rw[if_pos rfl,hkd];by_cases hk2:(M.ino i).k=2
   ·rw[decide_eq_true hk2,if_pos rfl,(hSim.rel.names hG i1 i2 hk2).2,hSim.rel.hold.size i i1 i2 hk2,hk2,(Gd.dir_facts hk2 hmy).1]
   ·have hk1:(M.ino i).k=1:=by
     rcases Gd.kinds hmy with e|e|e
     ·exact absurd e i3
     ·exact e
     ·exact absurd e hk2
    rw[decide_eq_false hk2,if_neg (by decide),qX hSim.rel i1 i2 hk1,hk1,(hSim.rel.hold.file i i1 i2 hk1).2];rfl
  rw[hz];exact Qz s i (M.ino i) hsh w hW hI
 ·rw[if_neg hE]at hfi;have hz:Pz.tells Z 13 s.data.toList=(Z,Pz.er ((Gd.walkP M T s.data.toList).2:Int)):=by
   unfold Pz.tells;rw[hfi]
  rw[hz];have hE':((Gd.walkP M T s.data.toList).2:Int)≠0:=by omega
  exact Yt s _ _ hE' w hW
end
end Go.Proofs.YtjlpkbhgphjpeaaGreatDoor
