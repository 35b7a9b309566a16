/- Walks: commonsref05.Join, of names that may be. (vL, Uf: vL, Uf of NamesPlain, by their short names of names8.txt.) -/
import Derived.Lib.Join
import Derived.SliceStrings
import Derived.Test.YtjlpkbhgphjpeaaGreatDoorV39
set_option linter.unusedVariables false
set_option linter.unusedSimpArgs false
set_option linter.unusedSectionVars false
set_option maxHeartbeats 8000000
set_option maxRecDepth 100000
namespace Go.Proofs.YtjlpkbhgphjpeaaGreatDoor
open Go.RowKit
open Lib(hid)
open Go.Proofs.Tryz
namespace Np
theorem jslash{l:List UInt8}(h:nameB l=true):∀c∈l,c≠47:=by
 intro c hc e;subst e;simp only[nameB,Bool.and_eq_true,List.all_eq_true]at h;have h1:=h.1.1.1.1 _ hc;rw[show okc 47=false by decide]at h1
 cases h1
theorem jplain:∀(x:List UInt8),(∀c∈x,c≠47)→splitS x=[x]
 |[],_=>rfl
 |c::r,h=>by
  unfold splitS;rw[if_neg (h c (by simp)),jplain r (fun d hd=>h d (by simp[hd]))]
theorem japp:∀(x r:List UInt8),(∀c∈x,c≠47)→splitS (x++47::r)=x::splitS r
 |[],r,_=>by simp[splitS]
 |c::x,r,h=>by
  have ih:=japp x r (fun d hd=>h d (by simp[hd]));rw[List.cons_append,splitS,if_neg (h c (by simp)),ih]
theorem jsplit:∀(L:List (List UInt8)),L≠[]→(∀x∈L,∀c∈x,c≠47)→splitS (vL L)=L
 |[],h,_=>absurd rfl h
 |[x],_,h=>jplain x (h x (by simp))
 |x::y::r,_,h=>by
  unfold vL;rw[japp x _ (h x (by simp)),jsplit (y::r) (by simp) (fun z hz=>h z (by simp[hz]))]
theorem jne:∀(L:List (List UInt8)),L≠[]→(∀x∈L,x≠[])→vL L≠[]
 |[],h,_=>absurd rfl h
 |[x],_,h=>h x (by simp)
 |x::y::r,_,h=>by
  unfold vL;simp
theorem jpath(L:List (List UInt8))(h:L.length≤6)(h2:∀x∈L,nameB x=true):pathL (Uf L)=some L:=by
 rw[Uf,pathL,if_pos rfl];by_cases hL:L=[]
 ·subst hL;rfl
 ·rw[if_neg (jne L hL fun x hx=>name_ne (h2 x hx)),jsplit L hL fun x hx=>jslash (h2 x hx)];rw[if_pos];simp only[Bool.and_eq_true,decide_eq_true_eq,List.all_eq_true];exact⟨h,h2⟩
end Np
theorem Ki(y:List UInt8)(r:List (List UInt8)):Lib.joinTail [47] (y::r)=47::Lib.join (y::r) [47]:=by
 rw[Lib.join_cons];simp[Lib.joinTail]
theorem Kj:∀L:List (List UInt8),Lib.join L [47]=Np.vL L
 |[]=>rfl
 |[x]=>Lib.join_one x _
 |x::y::r=>by rw[Lib.join_cons,Ki,Kj (y::r)];rfl
theorem Km{L:List (List UInt8)}(h:L≠[]):Lib.joinTail [47] L=Np.Uf L:=by
 cases L with
 |nil=>exact absurd rfl h
 |cons y r=>rw[Ki,Kj];rfl
theorem Kl{x:List UInt8}(h:Np.nameB x=true):x.length≤12:=by
 unfold Np.nameB at h;simp only[Bool.and_eq_true,decide_eq_true_eq]at h;exact h.1.1.2
theorem Kk{L:List (List UInt8)}{k:Nat}{x:List UInt8}{u y:ByteArray}(h:u.data.toList=Lib.joinTail [47] (L.take k))(hx:L[k]? =some x)(hy:y.data.toList=x):
 (u++⟨#[47]⟩++y).data.toList=Lib.joinTail [47] (L.take (k+1)):=by
 rw[Lib.joinTail_take_succ _ _ _ _ hx,show(u++⟨#[47]⟩++y).data.toList=u.data.toList++[47]++y.data.toList by simp,h,hy]
theorem Kn(A:Option Addr)(L:List (List UInt8))(c:Nat)(w:World)(h6:L.length≤6)(hx:∀x∈L,Np.nameB x=true)(hS:jb w 0 A L):
 Calls prog 46 #[.slice A L.length c] w fun e w'=>(∃u:ByteArray,e= .returned (.tuple #[.string u,.int .i64 0])∧u.size≤200∧u.data.toList=Np.Uf L)∧Below w.heap.size w w':=by
 have HS:=hid hS;clear hS;have HX:=hid hx;clear hx;by_cases h0:L=[]
 ·subst h0;show Calls _ _ #[.slice A 0 c] _ _
  go_enter func46,ntmps46;go_wp2;go_ret2
  exact⟨⟨⟨#[47]⟩,rfl,by decide,rfl⟩,Below.refl _ _⟩
 have hpos:0<L.length:=List.length_pos_iff.2 h0;have H0:=hid h0;clear h0;obtain⟨n,hnn⟩:=nm L.length;rw[←hnn]at h6 hpos⊢;have Hn:=hid hnn;clear hnn;have hz1:((n:Int)==0)=false:=by rw[beq_eq_false_iff_ne];omega
 have hz2:(n:Int)≤6:=by omega
 go_enter func46,ntmps46;go_wp2;go_loopw[4,5] (fun sv i wr=>∃(k:Nat) (u:ByteArray),k≤n∧i= .int .i64 k∧sv= .string u∧u.size≤21*k∧Hid (u.data.toList=Lib.joinTail [47] (L.take k))∧Below w.heap.size w wr) (fun _ i _=>n-(intOf i).toNat)
 case atStart=>exact⟨0,⟨#[]⟩,by omega,rfl,rfl,by show 0≤_;omega,by show _=Lib.joinTail [47] (L.take 0);simp[Lib.joinTail],Below.refl _ _⟩
 case round=>
  obtain⟨k,u,hk,rfl,rfl,hus,hu,hbw⟩:=hrel;by_cases hlt:k<n
  ·have hkL:k<L.length:=by have:=Hn.o;omega
   obtain⟨x,hxk⟩:∃x,L[k]? =some x:=⟨_,List.getElem?_eq_getElem hkL⟩;rcases HS.o with h|⟨b,o,rfl,h2,h3,h4,_⟩
   ·subst h;simp at hkL
   have hn:=HX.o x (List.mem_of_getElem? hxk);have hxl:=Kl hn;obtain⟨y,hy⟩:∃y:ByteArray,y=⟨x.toArray⟩:=⟨_,rfl⟩;have hyl:y.data.toList=x:=by rw[hy]
   have hys:y.size≤20:=by rw[Lib.size_eq,hyl];omega
   have hc:wr.cell? ⟨b,o+k,none⟩=some (.string y):=by rw[hy];exact(hbw.cell (p:=⟨b,o+k,none⟩) h3).trans (h4 k x hxk)
   have hm:=fun W=>yf y W (by omega);rw[hyl,hn]at hm;have Hk:=hid hxk;have Hyl:=hid hyl;have Hm:=hid hm;clear h4 hy hkL hyl hxk hn hxl hm;have hk1:(0:Int)≤k:=by omega
   have hk2:(k:Int)<n:=by omega
   go_wp2_with(go_at_call 63;refine(Hm.o _).mono ?_;rintro e w' ⟨rfl,rfl⟩)
   go_roundw
   case rel=>exact⟨k+1,_,by omega,by go_num,rfl,by have h47:(⟨#[47]⟩:ByteArray).size=1:=rfl;simp[ByteArray.size_append];omega,Kk hu.o Hk.o Hyl.o,hbw⟩
   case measure=>simp[intOf];omega
  ·have hk2:(n:Int)≤k:=by omega
   go_wp2;go_ret2
   have h1:=hu.o;have hn1:=Hn.o;rw[List.take_of_length_le (by omega),Km H0.o]at h1;exact⟨⟨u,rfl,by omega,h1⟩,hbw⟩
section
open Go.Shelf
attribute [local go_sem] Oper.semAt_some
theorem Ko{w:World}{B:Nat}{A:Option Addr}{L:List (List UInt8)}{x:List UInt8}(h:jb w B A (L++[x])):jb w 0 A L:=by
 rcases h with h|⟨b,o,h1,h2,h3,h4,h5⟩
 ·simp at h
 ·exact Or.inr ⟨b,o,h1,Nat.zero_le _,h3,fun j y hy=>h4 j y (by rw[List.getElem?_append_left (List.getElem?_eq_some_iff.1 hy).1];exact hy),h5⟩
def Kr(M:Gd.Vol)(T:Nat→Gd.Tab)(s:ByteArray)(w:World)(e:Ending)(w':World):Prop:=
 ∃n:Int,e= .returned (.int .i64 n)∧((Gd.placeQ M T s.data.toList).2.2=0∧Gd.namedT (T (Gd.placeQ M T s.data.toList).1) 16=16→n=16)∧Below w.heap.size w w'
section
variable {x t c K p:Nat} {S:List UInt8} {M:Gd.Vol} {T:Nat→Gd.Tab} {F:Nat→Prop}
theorem Kq[zg](s u:ByteArray)(L:List (List UInt8))(xl:List UInt8)(w:World)(h:zy x t S M c K w F)(hT:Gd.Tree M T)(hu:u.size≤200)(hM:Mx w)(hs:Np.pathL s.data.toList=some (L++[xl]))(hpu:Np.pathL u.data.toList=some L):
 Calls prog 47 #[.pointer (some ⟨x,0,none⟩),.string u] w fun e w'=>∃(A:Option Addr) (c k:Nat) (E:Int),e= .returned (.tuple #[.slice A k c,.int .i64 E])∧((Gd.placeQ M T s.data.toList).2.2=0∧Gd.namedT (T (Gd.placeQ M T s.data.toList).1) 16=16→E=0∧k=16)∧Below w.heap.size w w':=by
 have hq:Gd.placeQ M T s.data.toList=Gd.placeP M T L xl:=by
  unfold Gd.placeQ;rw[hs];dsimp only;rw[List.getLast?_concat,List.dropLast_concat]
 rw[hq];have hw:=fun W (hb:Below w.heap.size w W)=>qb u W (h.below hb) hT (by omega) (hM.keep hb);have e1:Gd.walkP M T u.data.toList=Gd.walkT M T L 1:=by unfold Gd.walkP;rw[hpu]
 rw[e1]at hw;unfold Gd.placeP;by_cases hE:(Gd.walkT M T L 1).2=0
 ·rw[hE]at hw;rw[if_neg (fun e=>e hE)];obtain⟨i1,i2⟩:=Gd.walkT_in hT L 1 (by omega) (by omega) hE;by_cases hk:(M.ino (Gd.walkT M T L 1).1).k=2
  ·rw[if_pos hk];refine(YW u (Gd.walkT M T L 1).1 (T (Gd.walkT M T L 1).1) (hT.dir _ i1 i2 hk).ok w hw fun W hb=>jw W (h.below hb) (hT.dir _ i1 i2 hk)).mono ?_
   rintro e w' ⟨A,c,rfl,-,hb⟩;exact⟨A,c,_,0,rfl,fun h=>⟨rfl,by rw[Gd.namesT_named];exact h.2⟩,hb⟩
  ·rw[if_neg hk];refine(XF u (Gd.walkT M T L 1).1 12 (by decide) w hw fun W hb=>qV W (h.below hb) i1 i2 hk).mono ?_
   rintro e w' ⟨rfl,hb⟩;exact⟨none,0,0,12,rfl,fun h=>absurd h.1 (by decide),hb⟩
 ·rw[if_pos hE];refine(XG u _ _ (by omega) w (hw w (Below.refl _ _))).mono ?_
  rintro e w' ⟨rfl,hb⟩;exact⟨none,0,0,_,rfl,fun h=>absurd h.1 hE,hb⟩
theorem Ks[zg](s:ByteArray)(w:World)(h:zy x t S M c K w F)(hT:Gd.Tree M T)(hs:s.size≤100000)(hM:Mx w)(hp:w.cell? ⟨p,2,none⟩=some (.pointer (some ⟨x,0,none⟩)))(hpl:p<w.heap.size):
 Calls prog 14 #[.pointer (some ⟨p,0,none⟩),.string s] w (Kr M T s w):=by
 cases hpa:Np.pathL s.data.toList with
 |none=>
  have HPa:=hid (vp s w hs hpa);have hq:Hid ((Gd.placeQ M T s.data.toList).2.2=15):=hid (by unfold Gd.placeQ;rw[hpa]);clear hpa hT h;go_enter func14,ntmps14;go_wp2_with(go_at_call 27;refine HPa.o.mono ?_;rintro e w2 ⟨rfl,hb2⟩;have HB2:=hid hb2;clear hb2)
  go_ret
  exact⟨-1,rfl,(fun h=>by have h1:=h.1;rw[hq.o]at h1;cases h1),HB2.o⟩
 |some L=>
  by_cases hL:L=[]
  ·subst hL;have HPa:=hid (yD s [] w hs hpa);have hq:Hid ((Gd.placeQ M T s.data.toList).2.2=15):=hid (by unfold Gd.placeQ;rw[hpa];rfl);clear hpa hT h;go_enter func14,ntmps14;go_wp2_with(go_at_call 27;refine HPa.o.mono ?_;rintro e w2 ⟨A2,c2,rfl,-,-,hb2⟩;have HB2:=hid hb2;clear hb2)
   go_ret
   exact⟨-1,rfl,(fun h=>by have h1:=h.1;rw[hq.o]at h1;cases h1),HB2.o⟩
  ·obtain⟨L',xl,rfl⟩:∃L' xl,L=L'++[xl]:=⟨L.dropLast,L.getLast hL,(List.dropLast_concat_getLast hL).symm⟩;have hg:=(Np.pathL_some hpa).1;simp only[Bool.and_eq_true,decide_eq_true_eq,List.all_eq_true]at hg;obtain⟨hg1,hg2⟩:=hg;rw[List.length_append,List.length_singleton]at hg1;obtain⟨n,hn⟩:=nm L'.length;have HJ:Hid (∀A c W,jb W 0 A L'→Calls prog 46 #[.slice A n c] W fun e w'=>(∃u:ByteArray,e= .returned (.tuple #[.string u,.int .i64 0])∧u.size≤200∧u.data.toList=Np.Uf L')∧Below W.heap.size W w'):=hid fun A c W hS=>by
    rw[hn];exact Kn A L' c W (by omega) (fun y hy=>hg2 y (List.mem_append_left _ hy)) hS
   have HU:Hid (∀u:ByteArray,u.data.toList=Np.Uf L'→Np.pathL u.data.toList=some L'):=hid fun u hu=>by
    rw[hu];exact Np.jpath L' (by omega) fun y hy=>hg2 y (List.mem_append_left _ hy)
   have HPa:Hid (Calls prog 27 #[.string s] w fun e w'=>∃A c,e= .returned (.tuple #[.slice A (n+1) c,.int .i64 0])∧n+1≤c∧jb w' 0 A L'∧Below w.heap.size w w'):=hid ((yD s _ w hs hpa).mono fun e w' ⟨A,c,h1,h2,h3,h4⟩=>by
    rw[List.length_append,List.length_singleton,←hn]at h1 h2;exact⟨A,c,h1,h2,Ko h3,h4⟩)
   have HLi:=hid fun(u:ByteArray) (hu:u.size≤200) (hp2:Np.pathL u.data.toList=some L') W (hb:Below w.heap.size w W)=>Kq s u L' xl W (h.below hb) hT hu (hM.keep hb) hpa hp2;have hw1:IntKind.i64.wrap (((n:Int)+1)-1)=(n:Int):=by rw[IntKind.wrap_i64];omega
   have hw2:IntKind.i64.wrap (n:Int)=(n:Int):=by rw[IntKind.wrap_i64];omega
   have hw3:wrap64 (n:Int)=(n:Int):=by unfold wrap64;omega
   have hn2:(n:Int)≤6:=by omega
   have hn0:(((n:Int)+1)==0)=false:=by rw[beq_eq_false_iff_ne];omega
   have hn1:(0:Int)≤n:=by omega
   have HPp:=hid hpl;clear hpa hT h hM hs hg1 hg2 hn hL hpl;go_enter func14,ntmps14;go_upto_region 4 with(go_at_call 27;refine HPa.o.mono ?_;rintro e w2 ⟨A2,c2,rfl,hc2,hS2,hb2⟩;have HB2:=hid hb2;have HS2:=hid hS2;have hc3:(n:Int)≤c2:=(by omega);have hc4:(n:Int)+1≤c2:=(by omega);clear hb2 hS2 hc2)
   go_upto_region 5 with(go_at_call 46;refine(HJ.o A2 c2 w2 HS2.o).mono ?_;rintro e w3 ⟨⟨u,rfl,hu,hul⟩,hb3⟩;have HB3:=HB2.t hb3;have Hu:=hid (And.intro hu (HU.o u hul));clear hb3 hu hul)
   have q3:=(HB3.o.cell (p:=⟨p,2,none⟩) HPp.o).trans hp;have HL:=hid (HLi.o u Hu.o.1 Hu.o.2 w3 HB3.o);go_upto_region 6 with(go_at_call 47;refine HL.o.mono ?_;rintro e w4 ⟨A4,c4,k4,E4,rfl,hk4,hb4⟩;have HB4:=HB3.t hb4;have HK4:=hid hk4;clear hb4 hk4)
   by_cases hE4:E4=0
   ·subst hE4;go_wp2_with fail
    go_ret
    exact⟨k4,rfl,fun h=>by rw[(HK4.o h).2];rfl,HB4.o⟩
   ·have hE5:(E4 !=0)=true:=by simpa using hE4
    have HE4:=hid hE4;clear hE4;go_wp2_with fail
    go_ret
    exact⟨-1,rfl,fun h=>absurd (HK4.o h).1 HE4.o,HB4.o⟩
end
section
variable {x t r c K p:Nat} {S:List UInt8} {M:Gd.Vol} {T:Nat→Gd.Tab} {D:Nat→Nat→Nat} {φ:Nat→Nat} {Z:Pz.Fil} {w w0 a:World} {Ls:List (Nat×Obj)}
theorem Kt[zg]{Kg:Nat}(k:Nat)(hk:k<8)(kind fl fd off n spare:Int)(s s2 data:ByteArray)(drop:Bool)(hs:s.size≤100000)(hs2:s2.size≤100000)(h:PSt x t r S M Z 0 K w w0 Ls)(hp:(p,zL t x r D)∈Ls)(hM:Mx w)(hSim:Gd.Sim M T D Z φ)(hG:Pz.Good Kg Z):
 Calls prog 18 #[.pointer (some ⟨p,0,none⟩),akV ⟨(k:Int)+1,kind,s,s2,fl,fd,off,n,data,spare,drop⟩] w0 fun e b=>∃(q:Pz.Rep) (A:Option Addr) (c i:Nat) (is:Bool) (Lq:List (Nat×Obj)) (N:Gd.Vol) (c2:Nat),e= .returned (.tuple #[xf q A c,.int .i64 i,.bool is])∧(q.errno=18→xg M T (if kind=9∨kind=11 then s2 else s).data.toList spare)∧PSt x t r S N Z c2 K w b (Lq++Ls):=by
 by_cases hl:j6 kind
 ·refine(Ye k hk kind fl fd off n spare s s2 data drop hl hs hs2 h hp hM hSim hG).mono ?_
  rintro e b ⟨q,A,c,i,Lq,rfl,-,-,hc⟩;rcases hc with⟨-,e2,e3,N,c2,hq⟩|⟨-,e2,e3,-,hq⟩|⟨e1,-,-,-,N,-,-,hq,-⟩
  ·exact⟨q,A,c,i,true,Lq,N,c2,rfl,fun _=>e3,hq⟩
  ·exact⟨q,A,c,i,true,Lq,M,0,rfl,fun e=>absurd e e2,hq⟩
  ·exact⟨q,A,c,i,true,Lq,N,57,rfl,fun e=>absurd (e1.symm.trans e) (by decide),hq⟩
 ·refine(Qr (p:=p) ((k:Int)+1) kind fl fd off n spare s s2 data drop w0 (fun e=>hl (by unfold j6;omega)) (fun e=>hl (by unfold j6;omega)) (fun e=>hl (by unfold j6;omega)) (fun e=>hl (by unfold j6;omega)) (fun e=>hl (by unfold j6;omega)) (fun e=>hl (by unfold j6;omega)) (fun e=>hl (by unfold j6;omega)) (fun e=>hl (by unfold j6;omega)) (fun e=>hl (by unfold j6;omega))).mono ?_
  rintro e b ⟨rfl,hb⟩;exact⟨Pz.er 0,none,0,0,false,[],M,0,rfl,fun e=>absurd e (by decide),h.below hb⟩
end
end
end Go.Proofs.YtjlpkbhgphjpeaaGreatDoor
