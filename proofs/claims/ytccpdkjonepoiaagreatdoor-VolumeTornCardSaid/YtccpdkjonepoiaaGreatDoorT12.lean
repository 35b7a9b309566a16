/- Walks: the path test, slices.IndexFunc, slices.ContainsFunc at it, commonsref05.Same. -/
import Derived.Test.YtccpdkjonepoiaaGreatDoorT11
import Derived.Test.YtccpdkjonepoiaaGreatDoorShelf3
import Derived.Lib.SplitLaws
import Derived.Sort.QuietIn
set_option linter.unusedVariables false
set_option linter.unusedSimpArgs false
set_option linter.unusedSectionVars false
set_option maxHeartbeats 8000000
set_option maxRecDepth 100000
namespace Go.Proofs.YtccpdkjonepoiaaGreatDoor
open Go.RowKit
open Lib(hid)
open Go.Proofs.Tryz
def xu(w:World)(B:Nat)(A:Option Addr)(L:List (List UInt8)):Prop:=
 L=[]∨∃b o,A=some ⟨b,o,none⟩∧B≤b∧b<w.heap.size∧(∀j x,L[j]? =some x→w.cell? ⟨b,o+j,none⟩=some (.string ⟨x.toArray⟩))∧∀j,w.frozen? ⟨b,j,none⟩=false
theorem xu.keep{w w':World}{B:Nat}{A:Option Addr}{L:List (List UInt8)}(h:xu w B A L)(hb:Below w.heap.size w w'):xu w' B A L:=by
 rcases h with h|⟨b,o,h1,h2,h3,h4,h5⟩
 ·exact Or.inl h
 ·have:=hb.size
  exact Or.inr ⟨b,o,h1,h2,by omega,fun j x hx=>(hb.cell (p:=⟨b,o+j,none⟩) h3).trans (h4 j x hx),fun j=>(hb.frozen (p:=⟨b,j,none⟩) h3).trans (h5 j)⟩
theorem xu.low{w:World}{B B':Nat}{A:Option Addr}{L:List (List UInt8)}(h:xu w B A L)(hB:B'≤B):xu w B' A L:=by
 rcases h with h|⟨b,o,h1,h2,h3,h4⟩
 ·exact Or.inl h
 ·exact Or.inr ⟨b,o,h1,by omega,h3,h4⟩
theorem xu.drewN{w:World}{B:Nat}{A:Option Addr}{L:List (List UInt8)}(h:xu w B A L)(n:Nat):xu (w.drewN n) B A L:=h
theorem Vt(s:ByteArray)(w:World)(hs:s.size≤9223372036854775807):
 Calls prog 165 #[.string s] w fun e w'=>e= .returned (.bool (!Np.nameB s.data.toList))∧Below w.heap.size w w':=by
 go_enter func165,ntmps165;go_wp2_with(go_at_call 166;refine(may_any s _ hs).mono ?_;rintro e w' ⟨rfl,hb⟩)
 go_ret
 exact⟨rfl,by assumption⟩
theorem Y1{L:List (List UInt8)}{k:Nat}{x:List UInt8}(h:(L.take k).all Np.nameB=true)(hx:L[k]? =some x):(L.take (k+1)).all Np.nameB=Np.nameB x:=by
 rw[List.take_add_one,hx,List.all_append,h];simp
theorem VP(x:List UInt8)(b:Bool)(h:Np.nameB x=b)(w:World)(hs:x.length≤1000000):
 Calls prog 165 #[.string ⟨x.toArray⟩] w fun e w'=>e= .returned (.bool (!b))∧Below w.heap.size w w':=by
 have:=Vt ⟨x.toArray⟩ w (by rw[Lib.size_eq];show x.length≤_;omega)
 rw[show(⟨x.toArray⟩:ByteArray).data.toList=x from rfl,h]at this;exact this
def VM(L:List (List UInt8))(w:World)(e:Ending)(w':World):Prop:=∃r:Int,e= .returned (.int .i64 r)∧decide (0≤r)= !L.all Np.nameB∧Below w.heap.size w w'
theorem XL{L:List (List UInt8)}{k:Nat}{x:List UInt8}(hx:L[k]? =some x)(h:Np.nameB x=false):L.all Np.nameB=false:=by
 rw[List.all_eq_false];exact⟨x,List.mem_of_getElem? hx,by rw[h];simp⟩
theorem Xs(A:Option Addr)(L:List (List UInt8))(c:Nat)(B:Nat)(w:World)(hL:L.length≤1000000)(hsz:∀x∈L,x.length≤1000000)(hS:xu w B A L):
 Calls prog 189 #[.slice A L.length c,.func (.func 165) #[] #[]] w (VM L w):=by
 have HS:=hid hS;clear hS;have HZ:=hid hsz;clear hsz;go_enter func189,ntmps189;go_wp2;go_loopw[5,8] (fun _ i wr=>∃k:Nat,k≤L.length∧i= .int .i64 k∧Hid ((L.take k).all Np.nameB=true)∧Below w.heap.size w wr) (fun _ i _=>L.length-(intOf i).toNat)
 case atStart=>exact⟨0,by omega,rfl,by show(L.take 0).all _=true;simp,Below.refl _ _⟩
 case round=>
  obtain⟨k,hk,rfl,hok,hbw⟩:=hrel;by_cases hlt:k<L.length
  ·obtain⟨x,hx⟩:∃x,L[k]? =some x:=⟨_,List.getElem?_eq_getElem hlt⟩;rcases HS.o with h|⟨b,o,rfl,h2,h3,h4,_⟩
   ·subst h;simp at hlt
   have hc:wr.cell? ⟨b,o+k,none⟩=some (.string ⟨x.toArray⟩):=(hbw.cell (p:=⟨b,o+k,none⟩) h3).trans (h4 k x hx);clear h4;have hxl:=HZ.o x (List.mem_of_getElem? hx);have Hx:=hid hx;clear hx;by_cases hn:Np.nameB x=true
   ·have Hn:=hid hn;clear hn;go_wp2_with fail
    refine(VP x true Hn.o _ hxl).mono ?_
    rintro e w2 ⟨rfl,hb⟩;go_wp2;go_roundw
    case rel=>exact⟨k+1,by omega,by go_num,by show _=_;rw[Y1 hok.o Hx.o,Hn.o],hbw.trans (hb.mono hbw.size)⟩
    case measure=>simp[intOf];omega
   ·have hn':Np.nameB x=false:=by simpa using hn
    have Hn:=hid hn';clear hn hn';go_wp2_with fail
    refine(VP x false Hn.o _ hxl).mono ?_
    rintro e w2 ⟨rfl,hb⟩;go_wp2;go_ret
    refine⟨_,rfl,?_,hbw.trans (hb.mono hbw.size)⟩;rw[XL Hx.o Hn.o];simp
  ·go_wp2;go_ret
   refine⟨_,rfl,?_,hbw⟩;have:=hok.o
   rw[List.take_of_length_le (by omega)]at this;rw[this];rfl
theorem Zv(A:Option Addr)(L:List (List UInt8))(c:Nat)(B:Nat)(w:World)(hL:L.length≤1000000)(hsz:∀x∈L,x.length≤1000000)(hS:xu w B A L):
 Calls prog 164 #[.slice A L.length c,.func (.func 165) #[] #[]] w fun e w'=>e= .returned (.bool (!L.all Np.nameB))∧Below w.heap.size w w':=by
 have h:=fun W=>Xs A L c B W hL hsz;have H:=hid h;clear h;have HS:=hid hS;clear hS;clear hsz;go_enter func164,ntmps164;go_wp2_with fail
 refine(H.o _ HS.o).mono ?_
 rintro e w2 ⟨r,rfl,hr,hb⟩;have Hr:=hid hr;clear hr;go_wp2;go_ret
 exact⟨zn Hr.o,hb⟩
theorem uO:∀l:List UInt8,Lib.splitK [47] 0 (Lib.count l [47]) l=Np.splitS l
 |[]=>by rw[Lib.count_miss (by simp[Lib.index])];rfl
 |b::l=>by
  have ih:=uO l;by_cases h:b=47
  ·subst h;have hix:Lib.index (47::l) [47]=((0:Nat):Int):=by rw[Lib.index];simp[List.isPrefixOf]
   rw[Lib.count_cons_eq,Nat.add_comm,Lib.splitK,hix];simp only[Np.splitS,if_true];rw[if_neg (by simp)];simp[ih]
  ·have hp:([47]:List UInt8).isPrefixOf (b::l)=false:=by simp[List.isPrefixOf,Ne.symm h]
   have hix:Lib.index (b::l) [47]=if Lib.index l [47]== -1 then-1 else Lib.index l [47]+1:=by rw[Lib.index,hp];simp
   rw[Lib.count_cons_ne b 47 l h];rw[Np.splitS,if_neg h,←ih]
   cases hk:Lib.count l [47]with
   |zero=>simp[Lib.splitK]
   |succ k=>
    by_cases hm:Lib.index l [47]= -1
    ·rw[Lib.count_miss hm]at hk;cases hk
    ·have hge:=Lib.index_ge l [47];obtain⟨i,hi⟩:∃i:Nat,Lib.index l [47]=i:=⟨(Lib.index l [47]).toNat,by omega⟩;have hix':Lib.index (b::l) [47]=((i+1:Nat):Int):=by rw[hix,if_neg (fun e=>hm (beq_iff_eq.1 e)),hi];omega
     rw[Lib.splitK,Lib.splitK,hix',hi,if_neg (by simp<;>omega),if_neg (by simp<;>omega)];simp
theorem JZ(w:World)(c:Array Value)(t:TypeId)(j:Nat):(w.alloc (.cells c t)).frozen? ⟨w.heap.size,j,none⟩=false:=by
 unfold World.frozen?;rw[heap_alloc_new];simp
theorem QW(s:ByteArray)(m:Int)(w:World)(hs:s.size≤100000)(hm:w.cell? ⟨0,0,none⟩=some (.int .i64 m)):
 Calls prog 163 #[.string s,.string ⟨#[47]⟩] w fun e w'=>
  e= .returned (.slice (some ⟨w.heap.size,0,none⟩) (Np.splitS s.data.toList).length (Np.splitS s.data.toList).length)∧
  (∀j x,(Np.splitS s.data.toList)[j]? =some x→w'.cell? ⟨w.heap.size,j,none⟩=some (.string ⟨x.toArray⟩))∧(∀j,w'.frozen? ⟨w.heap.size,j,none⟩=false)∧w.heap.size<w'.heap.size∧Below w.heap.size w w':=by
 have h:=strings_Split s ⟨#[47]⟩ m w (by omega) hm (by decide);refine h.mono fun e w' ⟨he,hw⟩=> ?_;have hd:(Lib.splitB ⟨#[47]⟩ 0 (Lib.countB s ⟨#[47]⟩) s).map (·.data.toList)=Np.splitS s.data.toList:=by
  rw[Lib.splitB_data];exact uO _
 have hl:(Lib.splitB ⟨#[47]⟩ 0 (Lib.countB s ⟨#[47]⟩) s).length=Lib.countB s ⟨#[47]⟩+1:=Lib.splitB_all _ (by decide) 0 _ s rfl;have hl2:(Np.splitS s.data.toList).length=Lib.countB s ⟨#[47]⟩+1:=by rw[←hd,List.length_map,hl]
 refine⟨by rw[hl2];exact he,?_,?_,?_,?_⟩
 ·intro j x hx;rw[←hd,List.getElem?_map]at hx
  cases hj:(Lib.splitB ⟨#[47]⟩ 0 (Lib.countB s ⟨#[47]⟩) s)[j]? with
  |none=>rw[hj]at hx;cases hx
  |some y=>
   rw[hj]at hx;have hxy:y.data.toList=x:=Option.some.inj hx;rw[hw,World.cell?_alloc_new];rw[List.getElem?_toArray,List.getElem?_map,hj,←hxy,vr];rfl
 ·intro j;rw[hw];exact JZ _ _ _ _
 ·rw[hw];simp
 ·rw[hw];exact(Below.refl _ _).alloc (Nat.le_refl _) _
theorem Z5(l:List UInt8)(h:l≠[47]):Np.pathL l=if decide (2≤(Np.splitS l).length)&&decide ((Np.splitS l).length≤7)&&(Np.headS l).isEmpty&&(Np.tailS l).all Np.nameB then some (Np.tailS l)else none:=by
 rw[Np.splitS_eq l]
 cases l with
 |nil=>rfl
 |cons c r=>
  by_cases hc:c=47
  ·subst hc;have hr:r≠[]:=fun e=>h (by rw[e]);rw[Np.pathL,if_pos rfl,if_neg hr];have e1:Np.headS (47::r)=[]:=by rw[Np.headS,if_pos rfl]
   have e2:Np.tailS (47::r)=Np.splitS r:=by rw[Np.tailS,if_pos rfl]
   rw[e1,e2];have h1:1≤(Np.splitS r).length:=by rw[Np.splitS_eq];simp
   have e:(decide (2≤(([]:List UInt8)::Np.splitS r).length)&&decide ((([]:List UInt8)::Np.splitS r).length≤7)&&([]:List UInt8).isEmpty&&(Np.splitS r).all Np.nameB)=(decide ((Np.splitS r).length≤6)&&(Np.splitS r).all Np.nameB):=by
    congr 1
    rw[Bool.eq_iff_iff];simp only[List.length_cons,List.isEmpty_nil,Bool.and_true,Bool.and_eq_true,decide_eq_true_eq];omega
   rw[e]
  ·rw[Np.pathL,if_neg hc];have e1:Np.headS (c::r)=c::Np.headS r:=by rw[Np.headS,if_neg hc]
   rw[e1];simp
theorem QU{l:List UInt8}{j:Nat}:(Np.tailS l)[j]? =(Np.splitS l)[j+1]? :=by rw[Np.splitS_eq l];simp
theorem Z7{l:List UInt8}{L:List (List UInt8)}(h:Np.pathL l=some L):L.length≤6∧∀x∈L,Np.nameB x=true:=by
 have:=(Np.pathL_some h).1
 simpa using this
theorem Xg{x:List UInt8}(h:Np.nameB x=true):x.length≤12:=by
 unfold Np.nameB at h;simp only[Bool.and_eq_true,decide_eq_true_eq]at h;exact h.1.1.2
theorem jV:∀{l:List UInt8} {x:List UInt8},x∈Np.splitS l→x.length≤l.length
 |[],x,h=>by simp[Np.splitS]at h;simp[h]
 |c::r,x,h=>by
  unfold Np.splitS at h;split at h
  ·rcases List.mem_cons.1 h with rfl|h
   ·simp
   ·have:=jV h;simp;omega
  ·rw[Np.splitS_eq r]at h;rcases List.mem_cons.1 h with rfl|h
   ·have:=jV (l:=r) (x:=Np.headS r) (by rw[Np.splitS_eq];simp)
    simp;exact this
   ·have:=jV (l:=r) (x:=x) (by rw[Np.splitS_eq];simp[h])
    simp;omega
def Zx(L:List (List UInt8))(w:World)(e:Ending)(w':World):Prop:=
 ∃A c,e= .returned (.tuple #[.slice A L.length c,.int .i64 0])∧L.length≤c∧xu w' w.heap.size A L∧Below w.heap.size w w'
theorem Q8(w:World):Calls prog 131 #[.string ⟨#[47]⟩] w (Zx [] w):=by
 go_enter func131,ntmps131;go_wp2;go_ret2
 exact⟨_,_,rfl,Nat.le_refl _,Or.inl rfl,Below.refl _ _⟩
theorem uF(s:ByteArray)(m:Int)(w:World)(hs:s.size≤100000)(hm:w.cell? ⟨0,0,none⟩=some (.int .i64 m))(h47:(s.toList==[47])=false)
 (h2:2≤(Np.splitS s.data.toList).length)(h7:(Np.splitS s.data.toList).length≤7)(h0:(Np.headS s.data.toList).isEmpty=true)(hb:(Np.tailS s.data.toList).all Np.nameB=true):
 Calls prog 131 #[.string s] w (Zx (Np.tailS s.data.toList) w):=by
 have h:=QW s m w hs hm;have H:=hid h;clear h;have heq:=Np.splitS_eq s.data.toList;have hpl:∀x∈Np.tailS s.data.toList,x.length≤1000000:=fun x hx=>by
  have:=jV (l:=s.data.toList) (x:=x) (by rw[heq];simp[hx])
  rw[←Lib.size_eq]at this;omega
 have htl:(Np.tailS s.data.toList).length=(Np.splitS s.data.toList).length-1:=by rw[heq];simp
 have hsg:∀j x,(Np.tailS s.data.toList)[j]? =some x→(Np.splitS s.data.toList)[j+1]? =some x:=fun j x hx=>by rw[←QU];exact hx
 have h00:(Np.splitS s.data.toList)[0]? =some []:=by
  rw[heq]
  cases h:Np.headS s.data.toList with
  |nil=>rfl
  |cons _ _=>rw[h]at h0;cases h0
 obtain⟨P,hP⟩:=nm (Np.splitS s.data.toList);obtain⟨T,hT⟩:=nm (Np.tailS s.data.toList);rw[←hP]at H h2 h7 htl hsg h00;rw[←hT]at hpl htl hsg hb⊢;clear heq hP hT h0 hm;have H0:=hid h00;clear h00;have Hsg:=hid hsg;clear hsg;have Hpl:=hid hpl;clear hpl;have hT1:T.length≤6:=by omega
 obtain⟨n,hn⟩:=nm T.length;have hPn:P.length=n+1:=by omega
 rw[hPn]at H;have Hn:=hid hn;have hn1:1≤n:=by omega
 have hn2:n≤6:=by omega
 clear hn hPn htl h2 h7 hT1;have Hb:=hid hb;clear hb;go_enter func131,ntmps131;go_wp2_with fail
 refine H.o.mono ?_;rintro e w1 ⟨rfl,hc,hf,hz,hB⟩;have c0:=hc 0 _ H0.o;have hS:xu w1 w.heap.size (some ⟨w.heap.size,1,none⟩) T:=Or.inr ⟨_,_,rfl,Nat.le_refl _,hz,fun j x hx=>by rw[Nat.add_comm];exact hc (j+1) x (Hsg.o j x hx),hf⟩;clear hc hf;have hcn:=Zv (some ⟨w.heap.size,1,none⟩) T n w.heap.size w1 (by have:=Hn.o;omega) Hpl.o hS;rw[←Hn.o,Hb.o]at hcn;have Hcn:=hid hcn;clear hcn;have HS:=hid hS;clear hS;have hne:¬(n+1=1):=by omega
 go_wp2_with fail
 refine Hcn.o.mono ?_;rintro e w2 ⟨rfl,hb2⟩;go_wp2;go_ret2
 refine⟨some ⟨w.heap.size,1,none⟩,n,?_,by rw[←Hn.o];exact Nat.le_refl _,HS.o.keep hb2,hB.trans (hb2.mono hB.size)⟩;rw[←Hn.o];rfl
theorem Z4(s:ByteArray)(L:List (List UInt8))(m:Int)(w:World)(hs:s.size≤100000)(hm:w.cell? ⟨0,0,none⟩=some (.int .i64 m))(h:Np.pathL s.data.toList=some L):
 Calls prog 131 #[.string s] w (Zx L w):=by
 by_cases h47:s.data.toList=[47]
 ·rw[h47]at h;obtain rfl:([]:List (List UInt8))=L:=Option.some.inj h
  obtain rfl:s=⟨#[47]⟩:=va h47
  exact Q8 w
 ·rw[Z5 _ h47]at h;split at h
  ·rename_i hc
   simp only[Bool.and_eq_true,decide_eq_true_eq]at hc;obtain rfl:Np.tailS s.data.toList=L:=Option.some.inj h
   exact uF s m w hs hm (by rw[Lib.toList_data];exact beq_eq_false_iff_ne.2 h47) hc.1.1.1 hc.1.1.2 hc.1.2 hc.2
  ·cases h
def Ut(L:List (List UInt8))(x:List UInt8)(w:World)(e:Ending)(w':World):Prop:=
 ∃A,e= .returned (.tuple #[.slice A L.length L.length,.string ⟨x.toArray⟩,.int .i64 0])∧xu w' w.heap.size A L∧Below w.heap.size w w'
theorem JO(s:ByteArray)(L:List (List UInt8))(x:List UInt8)(m:Int)(w:World)(hs:s.size≤100000)(hm:w.cell? ⟨0,0,none⟩=some (.int .i64 m))(h:Np.pathL s.data.toList=some (L++[x])):
 Calls prog 133 #[.string s] w (Ut L x w):=by
 have hp:=Z4 s (L++[x]) m w hs hm h;have hl6:=(Z7 h).1;obtain⟨n,hn⟩:=nm L.length;have hx:(L++[x])[n]? =some x:=by rw[hn];simp
 rw[show(L++[x]).length=n+1 by simp[hn]]at hl6;have hpre:∀j y,L[j]? =some y→(L++[x])[j]? =some y:=fun j y hy=>by rw[List.getElem?_append_left (List.getElem?_eq_some_iff.1 hy).1];exact hy
 have Hp:Hid (Calls prog 131 #[.string s] w fun e w'=>∃b o c,e= .returned (.tuple #[.slice (some ⟨b,o,none⟩) (n+1) c,.int .i64 0])∧n+1≤c∧w'.cell? ⟨b,o+n,none⟩=some (.string ⟨x.toArray⟩)∧xu w' w.heap.size (some ⟨b,o,none⟩) L∧Below w.heap.size w w'):=by
  refine hp.mono fun e w' ⟨A,c,he,hc,hS,hB⟩=> ?_;rcases hS with h0|⟨b,o,rfl,h1,h2,h3,h4⟩
  ·simp at h0
  ·refine⟨b,o,c,by rw[he];simp[hn],by simpa [hn]using hc,h3 n x hx,Or.inr ⟨b,o,rfl,h1,h2,fun j y hy=>h3 j y (hpre j y hy),h4⟩,hB⟩
 clear hp h hx hpre hm;have Hn:=hid hn;clear hn;go_enter func133,ntmps133;go_wp2_with fail
 refine Hp.o.mono ?_;rintro e w1 ⟨b,o,c,rfl,hc,hcell,hS,hB⟩;have HS:=hid hS;clear hS;have hi1:(0:Int)≤n:=by omega
 have hi2:(n:Int)<(n:Int)+1:=by omega
 have hi3:(n:Int)≤c:=by omega
 go_wp2;go_quiet (fail)
 go_wp2;go_ret3
 rw[Hn.o];exact⟨_,rfl,HS.o.drewN _,below_drewN hB _⟩
theorem Uv(h:Nat)(c:UInt8)(hh:h<4294967296):bits BinOp.xor IntKind.u32 (h:Int) ((c.toNat:Int) % 4294967296)*16777619 % 4294967296=((Np.hashStep h c:Nat):Int):=by
 have hc:c.toNat<256:=c.toNat_lt;rw[show((c.toNat:Int) % 4294967296)=((c.toNat:Nat):Int) by omega,u32_xor_nat h c.toNat hh (by omega)];unfold Np.hashStep;simp
def xH(l:List UInt8):Int:=((Np.hashN l/268435456:Nat):Int)
theorem YD{l:List UInt8}{h:Nat}(e:h=Np.hashN l):(h:Int)/268435456=xH l:=by
 subst e;unfold xH;omega
theorem Jm(l:List UInt8):0≤xH l∧xH l≤15:=by
 have:=Np.hashN_lt l
 unfold xH;omega
theorem YC(s:ByteArray)(w:World)(hs:s.size≤100000):
 Calls prog 208 #[.string s] w fun e w'=>e= .returned (.int .i64 (xH s.data.toList))∧w=w':=by
 go_enter func208,ntmps208;go_wp2;go_loop [3,4,7] (fun h _ i=>∃k n:Nat,k≤s.size∧n<4294967296∧i= .int .i64 k∧h= .int .u32 n∧Hid (n=Np.hashN (s.data.toList.take k))) (fun _ _ i=>s.size-(intOf i).toNat)
 case atStart=>exact⟨0,2166136261,by omega,by omega,rfl,rfl,rfl⟩
 case round=>
  obtain⟨k,h,hk,hlt',rfl,rfl,Hh⟩:=hrel;by_cases hlt:k<s.size
  ·go_wp2;go_round
   case rel=>
    refine⟨k+1,Np.hashStep h (s[k]'hlt),by omega,Np.hashStep_lt _ _,by go_num,by rw[Uv h _ hlt'],?_⟩;show Np.hashStep h (s[k]'hlt)=_
    rw[uM s k hlt,Np.hashN_snoc,←Hh.o]
   case measure=>simp[intOf];omega
  ·go_wp2;go_ret
   refine⟨?_,rfl⟩;rw[←YD (h:=h) (by rw[Hh.o,List.take_of_length_le (by rw[←Lib.size_eq];omega)])];rfl
namespace Gd
structure Ent where
 s:List UInt8
 i:Nat
deriving instance DecidableEq for Ent
def noEnt:Ent:=⟨[],0⟩
def Ent.May(e:Ent):Prop:=e=noEnt∨(Np.nameB e.s=true∧1≤e.i∧e.i≤32)
abbrev Tab:=List Ent
def noTab:Tab:=List.replicate 16 noEnt
structure TabOk(T:Tab):Prop where
 len:T.length=16
 may:∀e∈T,e.May
def entB(e:Ent):List UInt8:=UInt8.ofNat e.i::UInt8.ofNat e.s.length::(e.s++List.replicate (14-e.s.length) 0)
def blkT(T:Tab)(k:Nat):List UInt8:=((T.drop (4*k)).take 4).flatMap entB
def placesL(h:Nat):List (Fin 16):=(List.range 16).map fun i=>⟨(h+i) % 16,Nat.mod_lt _ (by omega)⟩
def entAt(T:Tab)(j:Nat):Ent:=T.getD j noEnt
def findT(T:Tab)(s:List UInt8)(h:Nat):Option (Fin 16):=(placesL h).find? fun j=>decide ((entAt T j.val).s=s)&& !s.isEmpty
def placeT(T:Tab)(h:Nat):Option (Fin 16):=(placesL h).find? fun j=>decide (entAt T j.val=noEnt)
def setT(T:Tab)(j:Nat)(e:Ent):Tab:=T.set j e
def usedT(T:Tab)(k:Nat):Bool:=((T.drop (4*k)).take 4).any fun e=>decide (e≠noEnt)
theorem entAt_get{T:Tab}{j:Nat}(hT:T.length=16)(hj:j<16):T[j]? =some (entAt T j):=by
 unfold entAt;rw[List.getD_eq_getElem?_getD,List.getElem?_eq_getElem (by omega)];rfl
theorem May.len{e:Ent}(h:e.May):e.s.length≤12∧e.i≤32:=by
 rcases h with rfl|⟨h1,h2,h3⟩
 ·exact⟨by decide,by decide⟩
 ·unfold Np.nameB at h1;simp only[Bool.and_eq_true,decide_eq_true_eq]at h1;omega
theorem entB_length{e:Ent}(h:e.May):(entB e).length=16:=by
 have:=May.len h
 unfold entB;simp only[List.length_cons,List.length_append,List.length_replicate];omega
theorem noTab_ok:TabOk noTab:=⟨rfl,fun e he=>Or.inl (List.eq_of_mem_replicate he)⟩
theorem TabOk.set{T:Tab}(h:TabOk T){j:Nat}{e:Ent}(he:e.May):TabOk (setT T j e):=by
 refine⟨by unfold setT;rw[List.length_set];exact h.len,fun x hx=> ?_⟩;rcases List.mem_or_eq_of_mem_set hx with hx|rfl
 ·exact h.may x hx
 ·exact he
theorem entAt_may{T:Tab}(h:TabOk T)(j:Nat):(entAt T j).May:=by
 unfold entAt;rw[List.getD_eq_getElem?_getD]
 cases hx:T[j]? with
 |none=>exact Or.inl rfl
 |some e=>exact h.may e (List.mem_of_getElem? hx)
end Gd
section
open Go.Shelf
attribute [local go_sem] Oper.semAt_some
def yn(e:Gd.Ent):List Value:=[.string ⟨e.s.toArray⟩,.int .i64 e.i]
def zp(T:Gd.Tab):Array Value:=(T.flatMap yn).toArray
def jz(T:Gd.Tab):Value:= .agg (zp T)
theorem um:∀{T:Gd.Tab} {k:Nat} {e:Gd.Ent} (i:Nat),T[k]? =some e→i<2→(T.flatMap yn)[k*2+i]? =(yn e)[i]?
 |[],k,e,i,hx,_=>by simp at hx
 |a::r,0,e,i,hx,hi=>by
  simp at hx
  subst hx;rw[List.flatMap_cons,List.getElem?_append_left (by show 0*2+i<2;omega),Nat.zero_mul,Nat.zero_add]
 |a::r,k+1,e,i,hx,hi=>by
  rw[List.flatMap_cons,List.getElem?_append_right (by show 2≤_;omega)];have:=um (T:=r) (k:=k) (e:=e) i (by simpa using hx) hi
  rw[←this];congr 1
  show(k+1)*2+i-2=_
  omega
theorem yL:∀(T:Gd.Tab),(T.flatMap yn).length=T.length*2
 |[]=>rfl
 |a::r=>by
  rw[List.flatMap_cons,List.length_append,yL r,List.length_cons];show 2+_=_
  omega
theorem zU{T:Gd.Tab}(h:T.length=16):(zp T).size=32:=by
 unfold zp;rw[List.size_toArray,yL,h]
theorem qt{w:World}{b t:Nat}{T:Gd.Tab}(h:w.heap[b]? =some (.cells (zp T) t (0,0))){k:Nat}{e:Gd.Ent}(hk:T[k]? =some e):w.cell? ⟨b,k*2,none⟩=some (.string ⟨e.s.toArray⟩)∧w.cell? ⟨b,k*2+1,none⟩=some (.int .i64 e.i):=by
 refine⟨(cell_of_row w b (k*2) _ _ _ h).trans ?_,(cell_of_row w b (k*2+1) _ _ _ h).trans ?_⟩
 ·unfold zp;rw[List.getElem?_toArray];exact um 0 hk (by omega)
 ·unfold zp;rw[List.getElem?_toArray];exact um 1 hk (by omega)
theorem jl(T:Gd.Tab):(zp T).all (·.oneCell')=true:=by
 unfold zp;refine all_oneCell_toArray fun v hv=> ?_;obtain⟨e,_,he⟩:=List.mem_flatMap.1 hv;simp only[yn,List.mem_cons,List.mem_nil_iff,or_false]at he;rcases he with rfl|rfl<;>rfl
theorem sizeTab:(prog.info? 194).map (fun i=>i.size)=some 32:=by kernel_rfl
theorem Ja(F:Fence)(n:Nat)(hF:F=Fence.wide)(hn:2≤n)(nb:Nat)(s:ByteArray)(hs:s.size≤100000)(h:Nat)(hh:(h:Int)=xH s.data.toList)(h16:h<16)(Kp:World→World→Prop)(w:World)(hc:w.cell? ⟨nb,0,none⟩=some (.string s))(hb:nb<w.heap.size):
 SeqStopsK F n prog 207 #[.pointer (some ⟨nb,0,none⟩)] (fun j:Fin 16=>#[.int .i64 (j.val:Nat)]) Kp (fun xs=>xs=Gd.placesL h) (fun pre=>pre<+:Gd.placesL h) 16 w:=fun l J Jx W hW hJa _ hY h0=>by
 subst hF;have hcW:=(hW.cell (p:=⟨nb,0,none⟩) hb).trans hc;have h1:1≤n:=by omega
 have HY:=hid hY;have H0:=hid h0;have HHa:Hid (∀V,CallsIn Fence.wide (n-1) prog 208 #[.string s] V fun e w'=>e= .returned (.int .i64 h)∧V=w'):=hid fun V=>callsIn_wide.2 (by rw[hh];exact YC s V hs);have hh16:(h:Int)<16:=by omega
 clear hY h0 hJa hc hh hW;refine callsIn_of_wp func207 rfl trivial ?_ rfl;simp only[ntmps207,List.size_toArray,List.length_cons,List.length_nil,Nat.reduceAdd,Nat.reduceSub,Array.replicate_succ,Array.replicate_zero,List.push_toArray,List.append_toArray,List.nil_append,List.cons_append];gi_wp2
 refine⟨trivial,(HHa.o _).mono ?_⟩;rintro e w' ⟨rfl,rfl⟩;clear hcW HHa;gi_wp2
 gi_loopw [7] (fun z wr=>∃i:Nat,z= .int .i64 i∧i≤16∧Hid (J ((Gd.placesL h).take i) wr)) (fun z _=>16-(intOf z).toNat)
 case atStart=>exact⟨0,rfl,by omega,hid (by rw[List.take_zero];exact H0.o)⟩
 case round=>
  obtain⟨i,rfl,hi,HJ⟩:=hrel;have hpl:(Gd.placesL h).length=16:=by unfold Gd.placesL;rw[List.length_map,List.length_range]
  by_cases hlt:i<16
  ·obtain⟨j,hj⟩:∃j:Fin 16,j=⟨(h+i) % 16,Nat.mod_lt _ (by omega)⟩:=⟨_,rfl⟩;have hgj:(Gd.placesL h)[i]? =some j:=by unfold Gd.placesL;rw[List.getElem?_map,List.getElem?_range hlt,hj];rfl
   have htk:(Gd.placesL h).take (i+1)=(Gd.placesL h).take i++[j]:=by rw[List.take_add_one,hgj];rfl
   obtain⟨fn,tmps,assign,body,hy,hR⟩:=HY.o ((Gd.placesL h).take i) j wr HJ.o (by rw[List.length_take];omega);rw[←htk]at hR;have HRR:=hid hR;have HP:=hid (List.take_prefix (i+1) (Gd.placesL h));have h2:(i:Int)<16:=by omega
   have h3:((h:Int)+(i:Int)) % 16=((j.val:Nat):Int):=by rw[hj];show _=(((h+i) % 16:Nat):Int);omega
   clear hj hgj htk hR hpl hlt;gi_wp2
   refine HRR.o.mono ?_;rintro e W3 (⟨rfl,hJ3,hk3⟩|⟨rfl,hJx3⟩)
   ·have HJ3:=hid hJ3;clear hJ3 hk3 hy HRR;gi_wp2
    go_roundw
    case rel=>exact⟨i+1,by go_num,by omega,HJ3⟩
    case measure=>simp[intOf];omega
   ·have HX3:=hid hJx3;clear hJx3 hy HRR;gi_wp2
    refine bodyPost_ret (results_none rfl _ _ _) rfl ?_;exact⟨⟨_,rfl⟩,Or.inr ⟨_,HP.o,HX3.o⟩⟩
  ·obtain rfl:i=16:=by omega
   clear hlt;gi_wp2
   go_end0
   refine⟨⟨_,rfl⟩,Or.inl ⟨_,rfl,?_⟩⟩;have:=HJ.o
   rw[List.take_of_length_le (by omega)]at this;exact this
theorem Zc(s:ByteArray)(w:World):Calls prog 190 #[.string s] w fun e w'=>e= .returned (.func (.func 207) #[] #[.pointer (some ⟨w.heap.size,0,none⟩)])∧w'=w.alloc (.cells #[.string s] 9):=by
 have hmf:∀(fn:Fn) (first cap:Array Value) (w:World),(Instr.makeFunc fn first cap).run prog w= .ok (.func fn first cap) w:=fun _ _ _ _=>rfl;go_enter func190,ntmps190;go_wp2;go_ret
 exact⟨rfl,rfl⟩
end
section
open Go.Shelf
attribute [local go_sem] Oper.semAt_some
def JQ:Option (Fin 16)→Int
 |some j=>((j.val:Nat):Int)
 |none=> -1
def Jn(T:Gd.Tab)(s:List UInt8)(j:Fin 16):Bool:=decide ((Gd.entAt T j.val).s=s)&& !s.isEmpty
theorem XY(T:Gd.Tab)(hT:T.length=16)(s:ByteArray)(hs:s.size≤100000)(hne:s.data.toList≠[])(h:Nat)(hh:(h:Int)=xH s.data.toList)(w:World):
 CallsIn Fence.wide 6 prog 167 #[jz T,.string s] w fun e W'=>e= .returned (.int .i64 (JQ (Gd.findT T s.data.toList h)))∧Below w.heap.size w W':=by
 have h16:h<16:=by have:=Jm s.data.toList;omega
 have hmf:∀(fn:Fn) (first cap:Array Value) (w:World),(Instr.makeFunc fn first cap).run prog w= .ok (.func fn first cap) w:=fun _ _ _ _=>rfl;have HOf:Hid (∀V,CallsIn Fence.wide 5 prog 190 #[.string s] V fun e w'=>e= .returned (.func (.func 207) #[] #[.pointer (some ⟨V.heap.size,0,none⟩)])∧w'=V.alloc (.cells #[.string s] 9)):=hid fun V=>callsIn_wide.2 (Zc s V);have HNe:Hid (s.toList.isEmpty=false):=hid (by rw[Lib.toList_data];cases hl:s.data.toList with|nil=>exact absurd hl hne|cons a r=>rfl);refine callsIn_of_wp_marks func167 rfl trivial ?_ rfl;simp only[ntmps167,List.size_toArray,List.length_cons,List.length_nil,Nat.reduceAdd,Nat.reduceSub,Array.replicate_succ,Array.replicate_zero,List.push_toArray,List.append_toArray,List.nil_append,List.cons_append];unfold jz
 have HH:=hid (And.intro hT (And.intro hs (And.intro hh h16)));clear hT hs hne hh h16 hmf;gi_wp2
 refine⟨trivial,(HOf.o _).mono ?_⟩;rintro e W0 ⟨rfl,hW0⟩;have c0:zd W0 w.heap.size 194 (zp T):=by rw[hW0];exact(((zd.alloc (heap_alloc_new w _) _).alloc _).alloc _)
 have c1:zd W0 (w.heap.size+1) 9 #[.string s]:=by rw[hW0];have:=heap_alloc_new (w.alloc (.cells (zp T) 194)) (.cells #[.string s] 9);rw[World.size_alloc]at this;exact(zd.alloc this _).alloc _
 have c2:zd W0 (w.heap.size+1+1) 3 #[.int .i64 0]:=by rw[hW0];have:=heap_alloc_new ((w.alloc (.cells (zp T) 194)).alloc (.cells #[.string s] 9)) (.cells #[.int .i64 0] 3);rw[World.size_alloc,World.size_alloc]at this;exact zd.alloc this _
 have c3:zd W0 (w.heap.size+3) 9 #[.string s]:=by rw[hW0];have:=heap_alloc_new (((w.alloc (.cells (zp T) 194)).alloc (.cells #[.string s] 9)).alloc (.cells #[.int .i64 0] 3)) (.cells #[.string s] 9);rw[World.size_alloc,World.size_alloc,World.size_alloc]at this;exact this
 have hB0:Below w.heap.size w W0:=by rw[hW0];exact((((Below.refl _ w).alloc (Nat.le_refl _) _).alloc (by simp) _).alloc (by simp;omega) _).alloc (by simp;omega) _
 have hsz:W0.heap.size=w.heap.size+4:=by rw[hW0];simp
 have hnb:(((w.alloc (.cells (zp T) 194)).alloc (.cells #[.string s] 9)).alloc (.cells #[.int .i64 0] 3)).heap.size=w.heap.size+3:=by simp
 rw[hnb];clear hW0 hnb HOf;gi_wp2
 refine wpIn_rangeFunc_ownH rfl (by omega) (gf:=207) (lb:=#[.pointer (some ⟨w.heap.size+3,0,none⟩)]) rfl trivial (enters_of func207 (by kernel_rfl) rfl)
  (Ja Fence.wide (6-1) rfl (by omega) (w.heap.size+3) s HH.o.2.1 h HH.o.2.2.1 HH.o.2.2.2 (xq 0) W0 (cell_of_row W0 _ 0 _ _ _ c3) c3.lt) (yG 0) (yI 0 (w:=W0)) (Below.refl _ _) (fun _=>rfl)
  (fun(pre:List (Fin 16)) W=>((((∀j∈pre,Jn T s.data.toList j=false)∧zd W w.heap.size 194 (zp T))∧zd W (w.heap.size+1) 9 #[.string s])∧zd W (w.heap.size+1+1) 3 #[.int .i64 0])∧Below w.heap.size w W)
  (fun c (pre:List (Fin 16)) W=>(c= .ret∧(∃(q:List (Fin 16)) (j:Fin 16),(pre=q++[j]∧(∀r∈q,Jn T s.data.toList r=false)∧Jn T s.data.toList j=true)∧zd W (w.heap.size+1+1) 3 #[.int .i64 (j.val:Nat)]))∧Below w.heap.size w W)
  ?o1 ?o2 ?o3
  (fun(x:Fin 16) a' W=>a'={tmps:=#[.agg (zp T),.string s,.pointer (some ⟨w.heap.size,0,none⟩),.pointer (some ⟨w.heap.size+1,0,none⟩),.pointer (some ⟨w.heap.size+1+1,0,none⟩),.int .i64 (x.val:Nat),.string s,.func (.func 207) #[] #[.pointer (some ⟨w.heap.size+3,0,none⟩)],.int .i64 (x.val:Nat),undef,undef,undef,undef,undef,undef,undef,undef,undef,undef,undef],defers:=[]})
  ?o4 ?assign ?body ?done ?stop
 case o1=>exact OwnFrom.and (OwnFrom.and (OwnFrom.and (OwnFrom.and (ownFrom_pure _ _) (Own.from (zJ _ _ _) _)) (Own.from (zJ _ _ _) _)) (Own.from (zJ _ _ _) _)) (ownFrom_below (Nat.le_refl _) (by omega))
 case o2=>
  refine fun c=>OwnFrom.and (OwnFrom.and (ownFrom_pure _ _) ?_) (ownFrom_below (Nat.le_refl _) (by omega));rintro s X Y row ⟨q,p,hp,hc⟩ hg hr;exact⟨q,p,hp,zJ _ _ (fun(_:Unit)=>#[Value.int .i64 (p.val:Nat)]) () X Y row hc hg (fun r e=>(hr r e).2)⟩
 case o4=>
  rintro x a' _ X Y row h hg hr;exact h
 case o3=>exact⟨⟨⟨⟨by simp,c0⟩,c1⟩,c2⟩,hB0⟩
 case assign=>
  rintro l pre x W K ⟨⟨⟨⟨hp,q0⟩,q1⟩,q2⟩,hB1⟩ hK;have HK:=hid hK;have HP:=hid (And.intro hp (And.intro q0 (And.intro q1 (And.intro q2 hB1))));clear hK hp q0 q1 q2 hB1;gi_wp2
  exact HK.o _ _ (KeepsFrom.refl _ _) (xG _ _) ⟨⟨⟨⟨HP.o.1,HP.o.2.1⟩,HP.o.2.2.1⟩,HP.o.2.2.2.1⟩,HP.o.2.2.2.2⟩ rfl
 case body=>
  rintro l pre x a' W hl ⟨r,hr⟩ ⟨⟨⟨⟨hp,q0⟩,q1⟩,q2⟩,hB1⟩ rfl hlt;have HP:=hid (And.intro hp (And.intro q0 (And.intro q1 (And.intro q2 hB1))));have HB:=hid hB1;obtain⟨e,he⟩:=nm (Gd.entAt T x.val);have hge:=Gd.entAt_get HH.o.1 x.isLt;rw[←he]at hge;obtain⟨x0,-⟩:=qt q0 hge;obtain⟨k,hk⟩:∃k:Nat,k=x.val:=⟨_,rfl⟩;rw[←hk]at x0;rw[←hk];have hk16:(k:Int)<16:=by have:=x.isLt;omega
  have hk0:(0:Int)≤k:=by omega
  obtain⟨es,hes⟩:∃es:ByteArray,es=⟨e.s.toArray⟩:=⟨_,rfl⟩;rw[←hes]at x0;have xs:=cell_of_row W _ 0 _ _ _ q1;have y0:=cell_of_row W _ 0 _ _ _ q2;have z0:=frozen_of_row W _ 0 _ _ q2;have HE:Hid (Jn T s.data.toList x=(es.toList==s.toList)):=hid (by
   unfold Jn;rw[←he,hes];have h1:=HNe.o;rw[Lib.toList_data]at h1;rw[h1,Bool.not_false,Bool.and_true,Bool.eq_iff_iff,decide_eq_true_iff,beq_iff_eq,Lib.toList_data,Lib.toList_data])
  have Hk:=hid hk;have hne:=HNe.o
  cases hm:(es.toList==s.toList)with
  |true=>
   rw[hm]at HE;clear hl hr hp q0 q1 q2 hB1 hlt hge he hes hk;gi_wp2
   gi_region
   all_goals
    gi_wp2
    refine⟨((KeepsOthers.setCell W ⟨w.heap.size+1+1,0,none⟩ (.int .i64 k)).trans (KeepsOthers.drew _)).from _,⟨rfl,pre,x,⟨rfl,HP.o.1,HE.o⟩,?_⟩,(HB.o.setCell (show w.heap.size≤w.heap.size+1+1 by omega) _).drew⟩;rw[←Hk.o];exact Go.heap_setCell_same W _ 0 _ _ (.int .i64 k) HP.o.2.2.2.1
  |false=>
   rw[hm]at HE;clear hl hr hp q0 q1 q2 hB1 hlt hge he hes hk;gi_wp2
   gi_region
   all_goals
    gi_wp2
    exact⟨(KeepsOthers.drew W).from _,fun j _ c t fr h=>h,⟨⟨⟨fun j hj=>(List.mem_append.1 hj).elim (HP.o.1 j) (fun e=>by rw[List.mem_singleton.1 e];exact HE.o),HP.o.2.1⟩,HP.o.2.2.1⟩,HP.o.2.2.2.1⟩,HB.o.drew⟩
 case done=>
  rintro D zs W hD rfl ⟨⟨⟨⟨hp,q0⟩,q1⟩,q2⟩,hB1⟩ hK;have HN:Hid (Gd.findT T s.data.toList h=none):=hid (List.find?_eq_none.2 fun j hj=>by
   have:=hp j hj
   unfold Jn at this;rw[this];decide)
  have y0:=cell_of_row W _ 0 _ _ _ q2;have z0:=frozen_of_row W _ 0 _ _ q2;have HK:=hid (And.intro hD (And.intro q2 (And.intro hB1 hK)));clear hp q0 q1 q2 hB1 hK;gi_wp2
  obtain⟨V,hV⟩:=nm (W.setCell ⟨w.heap.size+1+1,0,none⟩ (.int .i64 (-1)));rw[←hV];have v2:zd V (w.heap.size+1+1) 3 #[.int .i64 (-1)]:=by rw[hV];exact Go.heap_setCell_same W _ 0 _ _ (.int .i64 (-1)) HK.o.2.1
  have vk:V.heap[D]? =some (.deferred (some [])):=by rw[hV];exact(Go.heap_setCell_other W ⟨w.heap.size+1+1,0,none⟩ _ _ (show D≠w.heap.size+1+1 by omega)).trans HK.o.2.2.2
  have vb:Below w.heap.size w V:=by rw[hV];exact HK.o.2.2.1.setCell (show w.heap.size≤w.heap.size+1+1 by omega) _
  clear hV y0 z0;have e2:zd (V.putObj D (.deferred none)) (w.heap.size+1+1) 3 _:=(World.putObj_heap_other (show w.heap.size+1+1≠D by omega)).trans v2;have y0:=cell_of_row _ _ 0 _ _ _ e2;refine⟨by simp,.inl ⟨_,_,rfl,run_takeDeferred vk,?_⟩⟩;refine⟨.int .i64 (-1),?_,by rw[HN.o];rfl,vb.trans ?_⟩
  ·simp[results,f167,go_sem,y0]
  ·exact belowK_b (w:=w) (Nat.le_refl _) _ D _ _ (by omega) vk rfl rfl
 case stop=>
  rintro D c pre W hD hpre ⟨⟨rfl,q,j,⟨rfl,hq,hj⟩,q2⟩,hB1⟩ hK;have HF:Hid (Gd.findT T s.data.toList h=some j):=hid (by
   obtain⟨r,hr⟩:=hpre;unfold Gd.findT;rw[←hr,List.append_assoc,List.find?_append,List.find?_eq_none.2 (fun k hk=>by
    have:=hq k hk
    unfold Jn at this;rw[this];decide)]
   unfold Jn at hj;rw[List.singleton_append,List.find?_cons,hj];rfl)
  gi_wp2
  have e2:zd (W.putObj D (.deferred none)) (w.heap.size+1+1) 3 _:=(World.putObj_heap_other (show w.heap.size+1+1≠D by omega)).trans q2;have y0:=cell_of_row _ _ 0 _ _ _ e2;refine⟨by simp,.inl ⟨_,_,rfl,run_takeDeferred hK,?_⟩⟩;refine⟨.int .i64 (j.val:Nat),?_,by rw[HF.o];rfl,hB1.trans ?_⟩
  ·simp[results,f167,go_sem,y0]
  ·exact belowK_b (w:=w) (Nat.le_refl _) _ D _ _ (by omega) hK rfl rfl
theorem QT(T:Gd.Tab)(hT:T.length=16)(s:ByteArray)(hs:s.size≤100000)(hne:s.data.toList≠[])(h:Nat)(hh:(h:Int)=xH s.data.toList)(w:World):
 Calls prog 167 #[jz T,.string s] w fun e W'=>e= .returned (.int .i64 (JQ (Gd.findT T s.data.toList h)))∧Below w.heap.size w W':=
 callsIn_wide.1 (XY T hT s hs hne h hh w)
end
section
open Go.Shelf
attribute [local go_sem] Oper.semAt_some
def Jg(T:Gd.Tab)(j:Fin 16):Bool:=decide (Gd.entAt T j.val=Gd.noEnt)
theorem QR(T:Gd.Tab)(hOk:Gd.TabOk T)(s:ByteArray)(hs:s.size≤100000)(h:Nat)(hh:(h:Int)=xH s.data.toList)(w:World):
 CallsIn Fence.wide 6 prog 170 #[jz T,.string s] w fun e W'=>e= .returned (.int .i64 (JQ (Gd.placeT T h)))∧Below w.heap.size w W':=by
 have h16:h<16:=by have:=Jm s.data.toList;omega
 have hmf:∀(fn:Fn) (first cap:Array Value) (w:World),(Instr.makeFunc fn first cap).run prog w= .ok (.func fn first cap) w:=fun _ _ _ _=>rfl;have HOf:Hid (∀V,CallsIn Fence.wide 5 prog 190 #[.string s] V fun e w'=>e= .returned (.func (.func 207) #[] #[.pointer (some ⟨V.heap.size,0,none⟩)])∧w'=V.alloc (.cells #[.string s] 9)):=hid fun V=>callsIn_wide.2 (Zc s V);have hT:=hOk.len;have HOk:=hid hOk;refine callsIn_of_wp_marks func170 rfl trivial ?_ rfl;simp only[ntmps170,List.size_toArray,List.length_cons,List.length_nil,Nat.reduceAdd,Nat.reduceSub,Array.replicate_succ,Array.replicate_zero,List.push_toArray,List.append_toArray,List.nil_append,List.cons_append];unfold jz;have HH:=hid (And.intro hT (And.intro hs (And.intro hh h16)));clear hT hs hOk hh h16 hmf;gi_wp2
 refine⟨trivial,(HOf.o _).mono ?_⟩;rintro e W0 ⟨rfl,hW0⟩;have c0:zd W0 w.heap.size 194 (zp T):=by rw[hW0];exact((zd.alloc (heap_alloc_new w _) _).alloc _)
 have c2:zd W0 (w.heap.size+1) 3 #[.int .i64 0]:=by rw[hW0];have:=heap_alloc_new (w.alloc (.cells (zp T) 194)) (.cells #[.int .i64 0] 3);rw[World.size_alloc]at this;exact zd.alloc this _
 have c3:zd W0 (w.heap.size+2) 9 #[.string s]:=by rw[hW0];have:=heap_alloc_new ((w.alloc (.cells (zp T) 194)).alloc (.cells #[.int .i64 0] 3)) (.cells #[.string s] 9);rw[World.size_alloc,World.size_alloc]at this;exact this
 have hB0:Below w.heap.size w W0:=by rw[hW0];exact(((Below.refl _ w).alloc (Nat.le_refl _) _).alloc (by simp) _).alloc (by simp;omega) _
 have hsz:W0.heap.size=w.heap.size+3:=by rw[hW0];simp
 have hnb:((w.alloc (.cells (zp T) 194)).alloc (.cells #[.int .i64 0] 3)).heap.size=w.heap.size+2:=by simp
 rw[hnb];clear hW0 hnb HOf;gi_wp2
 refine wpIn_rangeFunc_ownH rfl (by omega) (gf:=207) (lb:=#[.pointer (some ⟨w.heap.size+2,0,none⟩)]) rfl trivial (enters_of func207 (by kernel_rfl) rfl)
  (Ja Fence.wide (6-1) rfl (by omega) (w.heap.size+2) s HH.o.2.1 h HH.o.2.2.1 HH.o.2.2.2 (xq 0) W0 (cell_of_row W0 _ 0 _ _ _ c3) c3.lt) (yG 0) (yI 0 (w:=W0)) (Below.refl _ _) (fun _=>rfl)
  (fun(pre:List (Fin 16)) W=>(((∀j∈pre,Jg T j=false)∧zd W w.heap.size 194 (zp T))∧zd W (w.heap.size+1) 3 #[.int .i64 0])∧Below w.heap.size w W)
  (fun c (pre:List (Fin 16)) W=>(c= .ret∧(∃(q:List (Fin 16)) (j:Fin 16),(pre=q++[j]∧(∀r∈q,Jg T r=false)∧Jg T j=true)∧zd W (w.heap.size+1) 3 #[.int .i64 (j.val:Nat)]))∧Below w.heap.size w W)
  ?o1 ?o2 ?o3
  (fun(x:Fin 16) a' W=>a'={tmps:=#[.agg (zp T),.string s,.pointer (some ⟨w.heap.size,0,none⟩),undef,.pointer (some ⟨w.heap.size+1,0,none⟩),.int .i64 (x.val:Nat),.string s,.func (.func 207) #[] #[.pointer (some ⟨w.heap.size+2,0,none⟩)],.int .i64 (x.val:Nat),undef,undef,undef,undef,undef,undef],defers:=[]})
  ?o4 ?assign ?body ?done ?stop
 case o1=>exact OwnFrom.and (OwnFrom.and (OwnFrom.and (ownFrom_pure _ _) (Own.from (zJ _ _ _) _)) (Own.from (zJ _ _ _) _)) (ownFrom_below (Nat.le_refl _) (by omega))
 case o2=>
  refine fun c=>OwnFrom.and (OwnFrom.and (ownFrom_pure _ _) ?_) (ownFrom_below (Nat.le_refl _) (by omega));rintro s X Y row ⟨q,p,hp,hc⟩ hg hr;exact⟨q,p,hp,zJ _ _ (fun(_:Unit)=>#[Value.int .i64 (p.val:Nat)]) () X Y row hc hg (fun r e=>(hr r e).2)⟩
 case o4=>
  rintro x a' _ X Y row h hg hr;exact h
 case o3=>exact⟨⟨⟨by simp,c0⟩,c2⟩,hB0⟩
 case assign=>
  rintro l pre x W K ⟨⟨⟨hp,q0⟩,q2⟩,hB1⟩ hK;have HK:=hid hK;have HP:=hid (And.intro hp (And.intro q0 (And.intro q2 hB1)));clear hK hp q0 q2 hB1;gi_wp2
  exact HK.o _ _ (KeepsFrom.refl _ _) (xG _ _) ⟨⟨⟨HP.o.1,HP.o.2.1⟩,HP.o.2.2.1⟩,HP.o.2.2.2⟩ rfl
 case body=>
  rintro l pre x a' W hl ⟨r,hr⟩ ⟨⟨⟨hp,q0⟩,q2⟩,hB1⟩ rfl hlt;have HP:=hid (And.intro hp (And.intro q0 (And.intro q2 hB1)));have HB:=hid hB1;obtain⟨e,he⟩:=nm (Gd.entAt T x.val);have hge:=Gd.entAt_get HH.o.1 x.isLt;rw[←he]at hge;have hem:=Gd.entAt_may HOk.o x.val;rw[←he]at hem;obtain⟨x0,x1⟩:=qt q0 hge;obtain⟨k,hk⟩:∃k:Nat,k=x.val:=⟨_,rfl⟩;rw[←hk]at x0 x1;rw[←hk];have hk16:(k:Int)<16:=by have:=x.isLt;omega
  have hk0:(0:Int)≤k:=by omega
  obtain⟨es,hes⟩:∃es:ByteArray,es=⟨e.s.toArray⟩:=⟨_,rfl⟩;rw[←hes]at x0;obtain⟨ei,hei⟩:=nm e.i;rw[←hei]at x1;have y0:=cell_of_row W _ 0 _ _ _ q2;have z0:=frozen_of_row W _ 0 _ _ q2;have Hk:=hid hk;have HE:Hid (Jg T x=decide (e=Gd.noEnt)):=hid (by unfold Jg;rw[he]);by_cases hno:e=Gd.noEnt
  ·have hi0:ei=0:=by rw[hei,hno];rfl
   have hs0:es.toList.isEmpty=true:=by rw[hes,hno,Lib.toList_data];rfl
   rw[decide_eq_true hno]at HE;subst hi0;clear hl hr hp q0 q2 hB1 hlt hge he hes hk hem hno hei;gi_wp2
   refine⟨(KeepsOthers.setCell W ⟨w.heap.size+1,0,none⟩ (.int .i64 k)).from _,⟨rfl,pre,x,⟨rfl,HP.o.1,HE.o⟩,?_⟩,HB.o.setCell (show w.heap.size≤w.heap.size+1 by omega) _⟩;rw[←Hk.o];exact Go.heap_setCell_same W _ 0 _ _ (.int .i64 k) HP.o.2.2.1
  ·have hs0:es.toList.isEmpty=false:=by
    rcases hem with h1|⟨h1,-⟩
    ·exact absurd h1 hno
    ·have h2:=Np.name_ne h1;rw[hes,Lib.toList_data]
     cases hl2:e.s with
     |nil=>exact absurd hl2 h2
     |cons a r=>simp
   rw[decide_eq_false hno]at HE;clear hl hr hp q0 q2 hB1 hlt hge he hes hk hem hno hei;gi_wp2
   exact⟨KeepsFrom.refl _ _,xG _ _,⟨⟨fun j hj=>(List.mem_append.1 hj).elim (HP.o.1 j) (fun e=>by rw[List.mem_singleton.1 e];exact HE.o),HP.o.2.1⟩,HP.o.2.2.1⟩,HB.o⟩
 case done=>
  rintro D zs W hD rfl ⟨⟨⟨hp,q0⟩,q2⟩,hB1⟩ hK;have HN:Hid (Gd.placeT T h=none):=hid (List.find?_eq_none.2 fun j hj=>by
   have:=hp j hj
   unfold Jg at this;rw[this];decide)
  have y0:=cell_of_row W _ 0 _ _ _ q2;have z0:=frozen_of_row W _ 0 _ _ q2;have HK:=hid (And.intro hD (And.intro q2 (And.intro hB1 hK)));clear hp q0 q2 hB1 hK;gi_wp2
  obtain⟨V,hV⟩:=nm (W.setCell ⟨w.heap.size+1,0,none⟩ (.int .i64 (-1)));rw[←hV];have v2:zd V (w.heap.size+1) 3 #[.int .i64 (-1)]:=by rw[hV];exact Go.heap_setCell_same W _ 0 _ _ (.int .i64 (-1)) HK.o.2.1
  have vk:V.heap[D]? =some (.deferred (some [])):=by rw[hV];exact(Go.heap_setCell_other W ⟨w.heap.size+1,0,none⟩ _ _ (show D≠w.heap.size+1 by omega)).trans HK.o.2.2.2
  have vb:Below w.heap.size w V:=by rw[hV];exact HK.o.2.2.1.setCell (show w.heap.size≤w.heap.size+1 by omega) _
  clear hV y0 z0;have e2:zd (V.putObj D (.deferred none)) (w.heap.size+1) 3 _:=(World.putObj_heap_other (show w.heap.size+1≠D by omega)).trans v2;have y0:=cell_of_row _ _ 0 _ _ _ e2;refine⟨by simp,.inl ⟨_,_,rfl,run_takeDeferred vk,?_⟩⟩;refine⟨.int .i64 (-1),?_,by rw[HN.o];rfl,vb.trans ?_⟩
  ·simp[results,f170,go_sem,y0]
  ·exact belowK_b (w:=w) (Nat.le_refl _) _ D _ _ (by omega) vk rfl rfl
 case stop=>
  rintro D c pre W hD hpre ⟨⟨rfl,q,j,⟨rfl,hq,hj⟩,q2⟩,hB1⟩ hK;have HF:Hid (Gd.placeT T h=some j):=hid (by
   obtain⟨r,hr⟩:=hpre;unfold Gd.placeT;rw[←hr,List.append_assoc,List.find?_append,List.find?_eq_none.2 (fun k hk=>by
    have:=hq k hk
    unfold Jg at this;rw[this];decide)]
   unfold Jg at hj;rw[List.singleton_append,List.find?_cons,hj];rfl)
  gi_wp2
  have e2:zd (W.putObj D (.deferred none)) (w.heap.size+1) 3 _:=(World.putObj_heap_other (show w.heap.size+1≠D by omega)).trans q2;have y0:=cell_of_row _ _ 0 _ _ _ e2;refine⟨by simp,.inl ⟨_,_,rfl,run_takeDeferred hK,?_⟩⟩;refine⟨.int .i64 (j.val:Nat),?_,by rw[HF.o];rfl,hB1.trans ?_⟩
  ·simp[results,f170,go_sem,y0]
  ·exact belowK_b (w:=w) (Nat.le_refl _) _ D _ _ (by omega) hK rfl rfl
theorem JG(T:Gd.Tab)(hOk:Gd.TabOk T)(s:ByteArray)(hs:s.size≤100000)(h:Nat)(hh:(h:Int)=xH s.data.toList)(w:World):
 Calls prog 170 #[jz T,.string s] w fun e W'=>e= .returned (.int .i64 (JQ (Gd.placeT T h)))∧Below w.heap.size w W':=
 callsIn_wide.1 (QR T hOk s hs h hh w)
end
end Go.Proofs.YtccpdkjonepoiaaGreatDoor
