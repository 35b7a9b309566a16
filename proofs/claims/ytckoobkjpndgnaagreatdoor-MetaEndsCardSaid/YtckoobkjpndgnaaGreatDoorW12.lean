/- Walks: names.Path over the library's Split. -/
import Derived.Test.YtckoobkjpndgnaaGreatDoorW11
import Derived.Test.YtckoobkjpndgnaaGreatDoorShelf
import Derived.Lib.SplitLaws
import Derived.Sort.QuietIn
set_option linter.unusedVariables false
set_option linter.unusedSimpArgs false
set_option linter.unusedSectionVars false
set_option maxHeartbeats 8000000
set_option maxRecDepth 100000
namespace Go.Proofs.YtckoobkjpndgnaaGreatDoor
open Go.RowKit
open Lib(hid)
open Go.Proofs.Tryz
theorem split_one:∀l:List UInt8,Lib.splitK [47] 0 (Lib.count l [47]) l=Np.splitS l
 |[]=>by rw[Lib.count_miss (by simp[Lib.index])];rfl
 |b::l=>by
  have ih:=split_one l;by_cases h:b=47
  ·subst h;have hix:Lib.index (47::l) [47]=((0:Nat):Int):=by rw[Lib.index];simp[List.isPrefixOf]
   rw[Lib.count_cons_eq,Nat.add_comm,Lib.splitK,hix];simp only[Np.splitS,if_true];rw[if_neg (by simp)];simp[ih]
  ·have hp:([47]:List UInt8).isPrefixOf (b::l)=false:=by simp[List.isPrefixOf,Ne.symm h]
   have hix:Lib.index (b::l) [47]=if Lib.index l [47]== -1 then-1 else Lib.index l [47]+1:=by rw[Lib.index,hp];simp
   rw[Lib.count_cons_ne b 47 l h];rw[Np.splitS,if_neg h,←ih]
   cases hk:Lib.count l [47]with
   |zero=>simp[Lib.splitK]
   |succ k=>
    by_cases hm:Lib.index l [47]= -1
    ·rw[Lib.count_miss hm]at hk;cases hk
    ·have hge:=Lib.index_ge l [47];obtain⟨i,hi⟩:∃i:Nat,Lib.index l [47]=i:=⟨(Lib.index l [47]).toNat,by omega⟩;have hix':Lib.index (b::l) [47]=((i+1:Nat):Int):=by rw[hix,if_neg (fun e=>hm (beq_iff_eq.1 e)),hi];omega
     rw[Lib.splitK,Lib.splitK,hix',hi,if_neg (by simp<;>omega),if_neg (by simp<;>omega)];simp
theorem split_len:∀l:List UInt8,(Np.splitS l).length≤l.length+1
 |[]=>by simp[Np.splitS]
 |c::r=>by
  have:=split_len r
  rw[Np.splitS_eq r]at this;unfold Np.splitS;split
  ·rw[Np.splitS_eq r];simp at this⊢;omega
  ·rw[Np.splitS_eq r];simp at this⊢;omega
theorem frozen_new(w:World)(c:Array Value)(t:TypeId)(j:Nat):(w.alloc (.cells c t)).frozen? ⟨w.heap.size,j,none⟩=false:=by
 unfold World.frozen?;rw[heap_alloc_new];simp
theorem split_any(s:ByteArray)(m:Int)(w:World)(hs:s.size≤100000)(hm:w.cell? ⟨0,0,none⟩=some (.int .i64 m)):
 Calls prog 142 #[.string s,.string ⟨#[47]⟩] w fun e w'=>
  e= .returned (.slice (some ⟨w.heap.size,0,none⟩) (Np.splitS s.data.toList).length (Np.splitS s.data.toList).length)∧
  (∀j x,(Np.splitS s.data.toList)[j]? =some x→w'.cell? ⟨w.heap.size,j,none⟩=some (.string ⟨x.toArray⟩))∧(∀j,w'.frozen? ⟨w.heap.size,j,none⟩=false)∧w.heap.size<w'.heap.size∧Below w.heap.size w w':=by
 have h:=strings_Split s ⟨#[47]⟩ m w (by omega) hm (by decide);refine h.mono fun e w' ⟨he,hw⟩=> ?_;have hd:(Lib.splitB ⟨#[47]⟩ 0 (Lib.countB s ⟨#[47]⟩) s).map (·.data.toList)=Np.splitS s.data.toList:=by
  rw[Lib.splitB_data];exact split_one _
 have hl:(Lib.splitB ⟨#[47]⟩ 0 (Lib.countB s ⟨#[47]⟩) s).length=Lib.countB s ⟨#[47]⟩+1:=Lib.splitB_all _ (by decide) 0 _ s rfl;have hl2:(Np.splitS s.data.toList).length=Lib.countB s ⟨#[47]⟩+1:=by rw[←hd,List.length_map,hl]
 refine⟨by rw[hl2];exact he,?_,?_,?_,?_⟩
 ·intro j x hx;rw[←hd,List.getElem?_map]at hx
  cases hj:(Lib.splitB ⟨#[47]⟩ 0 (Lib.countB s ⟨#[47]⟩) s)[j]? with
  |none=>rw[hj]at hx;cases hx
  |some y=>
   rw[hj]at hx;have hxy:y.data.toList=x:=Option.some.inj hx;rw[hw,World.cell?_alloc_new];rw[List.getElem?_toArray,List.getElem?_map,hj,←hxy,ba_mk];rfl
 ·intro j;rw[hw];exact frozen_new _ _ _ _
 ·rw[hw];simp
 ·rw[hw];exact(Below.refl _ _).alloc (Nat.le_refl _) _
theorem pathL_split(l:List UInt8)(h:l≠[47]):Np.pathL l=if decide (2≤(Np.splitS l).length)&&decide ((Np.splitS l).length≤7)&&(Np.headS l).isEmpty&&(Np.tailS l).all Np.nameB then some (Np.tailS l)else none:=by
 rw[Np.splitS_eq l]
 cases l with
 |nil=>rfl
 |cons c r=>
  by_cases hc:c=47
  ·subst hc;have hr:r≠[]:=fun e=>h (by rw[e]);rw[Np.pathL,if_pos rfl,if_neg hr];have e1:Np.headS (47::r)=[]:=by rw[Np.headS,if_pos rfl]
   have e2:Np.tailS (47::r)=Np.splitS r:=by rw[Np.tailS,if_pos rfl]
   rw[e1,e2];have h1:1≤(Np.splitS r).length:=by rw[Np.splitS_eq];simp
   have e:(decide (2≤(([]:List UInt8)::Np.splitS r).length)&&decide ((([]:List UInt8)::Np.splitS r).length≤7)&&([]:List UInt8).isEmpty&&(Np.splitS r).all Np.nameB)=(decide ((Np.splitS r).length≤6)&&(Np.splitS r).all Np.nameB):=by
    congr 1
    rw[Bool.eq_iff_iff];simp only[List.length_cons,List.isEmpty_nil,Bool.and_true,Bool.and_eq_true,decide_eq_true_eq];omega
   rw[e]
  ·rw[Np.pathL,if_neg hc];have e1:Np.headS (c::r)=c::Np.headS r:=by rw[Np.headS,if_neg hc]
   rw[e1];simp
theorem tailS_get{l:List UInt8}{j:Nat}:(Np.tailS l)[j]? =(Np.splitS l)[j+1]? :=by rw[Np.splitS_eq l];simp
theorem pathL_names{l:List UInt8}{L:List (List UInt8)}(h:Np.pathL l=some L):L.length≤6∧∀x∈L,Np.nameB x=true:=by
 have:=(Np.pathL_some h).1
 simpa using this
theorem nameB_len{x:List UInt8}(h:Np.nameB x=true):x.length≤12:=by
 unfold Np.nameB at h;simp only[Bool.and_eq_true,decide_eq_true_eq]at h;exact h.1.1.2
theorem split_part_len:∀{l:List UInt8} {x:List UInt8},x∈Np.splitS l→x.length≤l.length
 |[],x,h=>by simp[Np.splitS]at h;simp[h]
 |c::r,x,h=>by
  unfold Np.splitS at h;split at h
  ·rcases List.mem_cons.1 h with rfl|h
   ·simp
   ·have:=split_part_len h;simp;omega
  ·rw[Np.splitS_eq r]at h;rcases List.mem_cons.1 h with rfl|h
   ·have:=split_part_len (l:=r) (x:=Np.headS r) (by rw[Np.splitS_eq];simp)
    simp;exact this
   ·have:=split_part_len (l:=r) (x:=x) (by rw[Np.splitS_eq];simp[h])
    simp;omega
def PathYes(L:List (List UInt8))(w:World)(e:Ending)(w':World):Prop:=
 ∃A c,e= .returned (.tuple #[.slice A L.length c,.int .i64 0])∧L.length≤c∧Strs w' w.heap.size A L∧Below w.heap.size w w'
theorem path_root(w:World):Calls prog 112 #[.string ⟨#[47]⟩] w (PathYes [] w):=by
 go_enter func112,ntmps112;go_wp2;go_ret2
 exact⟨_,_,rfl,Nat.le_refl _,Or.inl rfl,Below.refl _ _⟩
theorem path_few(s:ByteArray)(m:Int)(w:World)(hs:s.size≤100000)(hm:w.cell? ⟨0,0,none⟩=some (.int .i64 m))(h47:(s.toList==[47])=false)
 (hbad:(Np.splitS s.data.toList).length<2∨7<(Np.splitS s.data.toList).length∨(Np.headS s.data.toList).isEmpty=false):
 Calls prog 112 #[.string s] w fun e w'=>e= .returned (.tuple #[.slice none 0 0,.int .i64 15])∧Below w.heap.size w w':=by
 have h:=split_any s m w hs hm;have H:=hid h;clear h;have hl:=split_len s.data.toList;rw[←Lib.size_eq]at hl;have heq:=Np.splitS_eq s.data.toList;obtain⟨P,hP⟩:=nm (Np.splitS s.data.toList);obtain⟨hd,hhd⟩:=nm (Np.headS s.data.toList);rw[←hP,←hhd]at hbad;rw[←hP]at H hl;have h0:P[0]? =some hd:=by rw[hP,heq,hhd];rfl
 clear heq hP hhd hm;have H0:=hid h0;clear h0;rcases hbad with hb|hb|hb
 ·go_enter func112,ntmps112;go_wp2_with fail
  refine H.o.mono ?_;rintro e w1 ⟨rfl,hc,hf,hz,hB⟩;go_wp2;go_ret2
  exact⟨rfl,hB⟩
 ·go_enter func112,ntmps112;go_wp2_with fail
  refine H.o.mono ?_;rintro e w1 ⟨rfl,hc,hf,hz,hB⟩;go_wp2;go_ret2
  exact⟨rfl,hB⟩
 ·by_cases h2:P.length<2
  ·go_enter func112,ntmps112;go_wp2_with fail
   refine H.o.mono ?_;rintro e w1 ⟨rfl,hc,hf,hz,hB⟩;go_wp2;go_ret2
   exact⟨rfl,hB⟩
  ·go_enter func112,ntmps112;go_wp2_with fail
   refine H.o.mono ?_;rintro e w1 ⟨rfl,hc,hf,hz,hB⟩;have c0:=hc 0 hd H0.o;clear hc;have hp:0<P.length:=by omega
   go_wp2;all_goals (go_ret2;exact⟨rfl,hB⟩)
theorem path_most_yes(s:ByteArray)(m:Int)(w:World)(hs:s.size≤100000)(hm:w.cell? ⟨0,0,none⟩=some (.int .i64 m))(h47:(s.toList==[47])=false)
 (h2:2≤(Np.splitS s.data.toList).length)(h7:(Np.splitS s.data.toList).length≤7)(h0:(Np.headS s.data.toList).isEmpty=true)(hb:(Np.tailS s.data.toList).all Np.nameB=true):
 Calls prog 112 #[.string s] w (PathYes (Np.tailS s.data.toList) w):=by
 have h:=split_any s m w hs hm;have H:=hid h;clear h;have heq:=Np.splitS_eq s.data.toList;have hpl:∀x∈Np.tailS s.data.toList,x.length≤1000000:=fun x hx=>by
  have:=split_part_len (l:=s.data.toList) (x:=x) (by rw[heq];simp[hx])
  rw[←Lib.size_eq]at this;omega
 have htl:(Np.tailS s.data.toList).length=(Np.splitS s.data.toList).length-1:=by rw[heq];simp
 have hsg:∀j x,(Np.tailS s.data.toList)[j]? =some x→(Np.splitS s.data.toList)[j+1]? =some x:=fun j x hx=>by rw[←tailS_get];exact hx
 have h00:(Np.splitS s.data.toList)[0]? =some []:=by
  rw[heq]
  cases h:Np.headS s.data.toList with
  |nil=>rfl
  |cons _ _=>rw[h]at h0;cases h0
 obtain⟨P,hP⟩:=nm (Np.splitS s.data.toList);obtain⟨T,hT⟩:=nm (Np.tailS s.data.toList);rw[←hP]at H h2 h7 htl hsg h00;rw[←hT]at hpl htl hsg hb⊢;clear heq hP hT h0 hm;have H0:=hid h00;clear h00;have Hsg:=hid hsg;clear hsg;have Hpl:=hid hpl;clear hpl;have hT1:T.length≤6:=by omega
 obtain⟨n,hn⟩:=nm T.length;have hPn:P.length=n+1:=by omega
 rw[hPn]at H;have Hn:=hid hn;have hn1:1≤n:=by omega
 have hn2:n≤6:=by omega
 clear hn hPn htl h2 h7 hT1;have Hb:=hid hb;clear hb;go_enter func112,ntmps112;go_wp2_with fail
 refine H.o.mono ?_;rintro e w1 ⟨rfl,hc,hf,hz,hB⟩;have c0:=hc 0 _ H0.o;have hS:Strs w1 w.heap.size (some ⟨w.heap.size,1,none⟩) T:=Or.inr ⟨_,_,rfl,Nat.le_refl _,hz,fun j x hx=>by rw[Nat.add_comm];exact hc (j+1) x (Hsg.o j x hx),hf⟩;clear hc hf;have hcn:=contains_any (some ⟨w.heap.size,1,none⟩) T n w.heap.size w1 (by have:=Hn.o;omega) Hpl.o hS;rw[←Hn.o,Hb.o]at hcn;have Hcn:=hid hcn;clear hcn;have HS:=hid hS;clear hS;have hne:¬(n+1=1):=by omega
 go_wp2_with fail
 refine Hcn.o.mono ?_;rintro e w2 ⟨rfl,hb2⟩;go_wp2;go_ret2
 refine⟨some ⟨w.heap.size,1,none⟩,n,?_,by rw[←Hn.o];exact Nat.le_refl _,HS.o.keep hb2,hB.trans (hb2.mono hB.size)⟩;rw[←Hn.o];rfl
theorem path_most_no(s:ByteArray)(m:Int)(w:World)(hs:s.size≤100000)(hm:w.cell? ⟨0,0,none⟩=some (.int .i64 m))(h47:(s.toList==[47])=false)
 (h2:2≤(Np.splitS s.data.toList).length)(h7:(Np.splitS s.data.toList).length≤7)(h0:(Np.headS s.data.toList).isEmpty=true)(hb:(Np.tailS s.data.toList).all Np.nameB=false):
 Calls prog 112 #[.string s] w fun e w'=>e= .returned (.tuple #[.slice none 0 0,.int .i64 15])∧Below w.heap.size w w':=by
 have h:=split_any s m w hs hm;have H:=hid h;clear h;have heq:=Np.splitS_eq s.data.toList;have hpl:∀x∈Np.tailS s.data.toList,x.length≤1000000:=fun x hx=>by
  have:=split_part_len (l:=s.data.toList) (x:=x) (by rw[heq];simp[hx])
  rw[←Lib.size_eq]at this;omega
 have htl:(Np.tailS s.data.toList).length=(Np.splitS s.data.toList).length-1:=by rw[heq];simp
 have hsg:∀j x,(Np.tailS s.data.toList)[j]? =some x→(Np.splitS s.data.toList)[j+1]? =some x:=fun j x hx=>by rw[←tailS_get];exact hx
 have h00:(Np.splitS s.data.toList)[0]? =some []:=by
  rw[heq]
  cases h:Np.headS s.data.toList with
  |nil=>rfl
  |cons _ _=>rw[h]at h0;cases h0
 obtain⟨P,hP⟩:=nm (Np.splitS s.data.toList);obtain⟨T,hT⟩:=nm (Np.tailS s.data.toList);rw[←hP]at H h2 h7 htl hsg h00;rw[←hT]at hpl htl hsg hb;clear heq hP hT h0 hm;have H0:=hid h00;clear h00;have Hsg:=hid hsg;clear hsg;have Hpl:=hid hpl;clear hpl;have hT1:T.length≤6:=by omega
 obtain⟨n,hn⟩:=nm T.length;have hPn:P.length=n+1:=by omega
 rw[hPn]at H;have Hn:=hid hn;have hn1:1≤n:=by omega
 have hn2:n≤6:=by omega
 clear hn hPn htl h2 h7 hT1;have Hb:=hid hb;clear hb;go_enter func112,ntmps112;go_wp2_with fail
 refine H.o.mono ?_;rintro e w1 ⟨rfl,hc,hf,hz,hB⟩;have c0:=hc 0 _ H0.o;have hS:Strs w1 w.heap.size (some ⟨w.heap.size,1,none⟩) T:=Or.inr ⟨_,_,rfl,Nat.le_refl _,hz,fun j x hx=>by rw[Nat.add_comm];exact hc (j+1) x (Hsg.o j x hx),hf⟩;clear hc hf;have hcn:=contains_any (some ⟨w.heap.size,1,none⟩) T n w.heap.size w1 (by have:=Hn.o;omega) Hpl.o hS;rw[←Hn.o,Hb.o]at hcn;have Hcn:=hid hcn;clear hcn;have HS:=hid hS;clear hS;have hne:¬(n+1=1):=by omega
 go_wp2_with fail
 refine Hcn.o.mono ?_;rintro e w2 ⟨rfl,hb2⟩;go_wp2;go_ret2
 exact⟨rfl,hB.trans (hb2.mono hB.size)⟩
theorem path_yes(s:ByteArray)(L:List (List UInt8))(m:Int)(w:World)(hs:s.size≤100000)(hm:w.cell? ⟨0,0,none⟩=some (.int .i64 m))(h:Np.pathL s.data.toList=some L):
 Calls prog 112 #[.string s] w (PathYes L w):=by
 by_cases h47:s.data.toList=[47]
 ·rw[h47]at h;obtain rfl:([]:List (List UInt8))=L:=Option.some.inj h
  obtain rfl:s=⟨#[47]⟩:=ba_ext h47
  exact path_root w
 ·rw[pathL_split _ h47]at h;split at h
  ·rename_i hc
   simp only[Bool.and_eq_true,decide_eq_true_eq]at hc;obtain rfl:Np.tailS s.data.toList=L:=Option.some.inj h
   exact path_most_yes s m w hs hm (by rw[Lib.toList_data];exact beq_eq_false_iff_ne.2 h47) hc.1.1.1 hc.1.1.2 hc.1.2 hc.2
  ·cases h
theorem path_no(s:ByteArray)(m:Int)(w:World)(hs:s.size≤100000)(hm:w.cell? ⟨0,0,none⟩=some (.int .i64 m))(h:Np.pathL s.data.toList=none):
 Calls prog 112 #[.string s] w fun e w'=>e= .returned (.tuple #[.slice none 0 0,.int .i64 15])∧Below w.heap.size w w':=by
 by_cases h47:s.data.toList=[47]
 ·rw[h47]at h;cases h
 ·rw[pathL_split _ h47]at h;have h47':(s.toList==[47])=false:=by rw[Lib.toList_data];exact beq_eq_false_iff_ne.2 h47
  by_cases h2:2≤(Np.splitS s.data.toList).length
  ·by_cases h7:(Np.splitS s.data.toList).length≤7
   ·by_cases h0:(Np.headS s.data.toList).isEmpty=true
    ·by_cases hn:(Np.tailS s.data.toList).all Np.nameB=true
     ·rw[decide_eq_true h2,decide_eq_true h7,h0,hn]at h;cases h
     ·exact path_most_no s m w hs hm h47' h2 h7 h0 (by simpa using hn)
    ·exact path_few s m w hs hm h47' (Or.inr (Or.inr (by simpa using h0)))
   ·exact path_few s m w hs hm h47' (Or.inr (Or.inl (by omega)))
  ·exact path_few s m w hs hm h47' (Or.inl (by omega))
def ParYes(L:List (List UInt8))(x:List UInt8)(w:World)(e:Ending)(w':World):Prop:=
 ∃A,e= .returned (.tuple #[.slice A L.length L.length,.string ⟨x.toArray⟩,.int .i64 0])∧Strs w' w.heap.size A L∧Below w.heap.size w w'
theorem parent_yes(s:ByteArray)(L:List (List UInt8))(x:List UInt8)(m:Int)(w:World)(hs:s.size≤100000)(hm:w.cell? ⟨0,0,none⟩=some (.int .i64 m))(h:Np.pathL s.data.toList=some (L++[x])):
 Calls prog 114 #[.string s] w (ParYes L x w):=by
 have hp:=path_yes s (L++[x]) m w hs hm h;have hl6:=(pathL_names h).1;obtain⟨n,hn⟩:=nm L.length;have hx:(L++[x])[n]? =some x:=by rw[hn];simp
 rw[show(L++[x]).length=n+1 by simp[hn]]at hl6;have hpre:∀j y,L[j]? =some y→(L++[x])[j]? =some y:=fun j y hy=>by rw[List.getElem?_append_left (List.getElem?_eq_some_iff.1 hy).1];exact hy
 have Hp:Hid (Calls prog 112 #[.string s] w fun e w'=>∃b o c,e= .returned (.tuple #[.slice (some ⟨b,o,none⟩) (n+1) c,.int .i64 0])∧n+1≤c∧w'.cell? ⟨b,o+n,none⟩=some (.string ⟨x.toArray⟩)∧Strs w' w.heap.size (some ⟨b,o,none⟩) L∧Below w.heap.size w w'):=by
  refine hp.mono fun e w' ⟨A,c,he,hc,hS,hB⟩=> ?_;rcases hS with h0|⟨b,o,rfl,h1,h2,h3,h4⟩
  ·simp at h0
  ·refine⟨b,o,c,by rw[he];simp[hn],by simpa [hn]using hc,h3 n x hx,Or.inr ⟨b,o,rfl,h1,h2,fun j y hy=>h3 j y (hpre j y hy),h4⟩,hB⟩
 clear hp h hx hpre hm;have Hn:=hid hn;clear hn;go_enter func114,ntmps114;go_wp2_with fail
 refine Hp.o.mono ?_;rintro e w1 ⟨b,o,c,rfl,hc,hcell,hS,hB⟩;have HS:=hid hS;clear hS;have hi1:(0:Int)≤n:=by omega
 have hi2:(n:Int)<(n:Int)+1:=by omega
 have hi3:(n:Int)≤c:=by omega
 go_wp2;go_quiet (fail)
 go_wp2;go_ret3
 rw[Hn.o];exact⟨_,rfl,HS.o.drewN _,below_drewN hB _⟩
theorem parent_no(s:ByteArray)(m:Int)(w:World)(hs:s.size≤100000)(hm:w.cell? ⟨0,0,none⟩=some (.int .i64 m))(h:Np.pathL s.data.toList=none∨Np.pathL s.data.toList=some []):
 Calls prog 114 #[.string s] w fun e w'=>e= .returned (.tuple #[.slice none 0 0,.string ⟨#[]⟩,.int .i64 15])∧Below w.heap.size w w':=by
 rcases h with h|h
 ·have hp:=path_no s m w hs hm h;have Hp:=hid hp;clear hp h hm;go_enter func114,ntmps114;go_wp2_with fail
  refine Hp.o.mono ?_;rintro e w1 ⟨rfl,hB⟩;go_wp2;go_ret3
  exact⟨rfl,hB⟩
 ·have hp:=path_yes s [] m w hs hm h;have Hp:=hid hp;clear hp h hm;go_enter func114,ntmps114;go_wp2_with fail
  refine Hp.o.mono ?_;rintro e w1 ⟨A,c,rfl,hc,hS,hB⟩;clear hS;go_wp2;go_ret3
  exact⟨rfl,hB⟩
theorem xor32(h:Nat)(c:UInt8)(hh:h<4294967296):bits BinOp.xor IntKind.u32 (h:Int) ((c.toNat:Int) % 4294967296)*16777619 % 4294967296=((Np.hashStep h c:Nat):Int):=by
 have hc:c.toNat<256:=c.toNat_lt;rw[show((c.toNat:Int) % 4294967296)=((c.toNat:Nat):Int) by omega,u32_xor_nat h c.toNat hh (by omega)];unfold Np.hashStep;simp
def hashV(l:List UInt8):Int:=((Np.hashN l/268435456:Nat):Int)
theorem hashV_eq{l:List UInt8}{h:Nat}(e:h=Np.hashN l):(h:Int)/268435456=hashV l:=by
 subst e;unfold hashV;omega
theorem hashV_lt(l:List UInt8):0≤hashV l∧hashV l≤15:=by
 have:=Np.hashN_lt l
 unfold hashV;omega
theorem hash_any(s:ByteArray)(w:World)(hs:s.size≤100000):
 Calls prog 163 #[.string s] w fun e w'=>e= .returned (.int .i64 (hashV s.data.toList))∧w=w':=by
 go_enter func163,ntmps163;go_wp2;go_loop [3,4,7] (fun h _ i=>∃k n:Nat,k≤s.size∧n<4294967296∧i= .int .i64 k∧h= .int .u32 n∧Hid (n=Np.hashN (s.data.toList.take k))) (fun _ _ i=>s.size-(intOf i).toNat)
 case atStart=>exact⟨0,2166136261,by omega,by omega,rfl,rfl,rfl⟩
 case round=>
  obtain⟨k,h,hk,hlt',rfl,rfl,Hh⟩:=hrel;by_cases hlt:k<s.size
  ·go_wp2;go_round
   case rel=>
    refine⟨k+1,Np.hashStep h (s[k]'hlt),by omega,Np.hashStep_lt _ _,by go_num,by rw[xor32 h _ hlt'],?_⟩;show Np.hashStep h (s[k]'hlt)=_
    rw[take_snoc s k hlt,Np.hashN_snoc,←Hh.o]
   case measure=>simp[intOf];omega
  ·go_wp2;go_ret
   refine⟨?_,rfl⟩;rw[←hashV_eq (h:=h) (by rw[Hh.o,List.take_of_length_le (by rw[←Lib.size_eq];omega)])];rfl
namespace Gd
structure Ent where
 s:List UInt8
 i:Nat
deriving instance DecidableEq for Ent
def noEnt:Ent:=⟨[],0⟩
def Ent.May(e:Ent):Prop:=e=noEnt∨(Np.nameB e.s=true∧1≤e.i∧e.i≤32)
abbrev Tab:=List Ent
def noTab:Tab:=List.replicate 16 noEnt
structure TabOk(T:Tab):Prop where
 len:T.length=16
 may:∀e∈T,e.May
def entB(e:Ent):List UInt8:=UInt8.ofNat e.i::UInt8.ofNat e.s.length::(e.s++List.replicate (14-e.s.length) 0)
def blkT(T:Tab)(k:Nat):List UInt8:=((T.drop (4*k)).take 4).flatMap entB
def placesL(h:Nat):List (Fin 16):=(List.range 16).map fun i=>⟨(h+i) % 16,Nat.mod_lt _ (by omega)⟩
def entAt(T:Tab)(j:Nat):Ent:=T.getD j noEnt
def findT(T:Tab)(s:List UInt8)(h:Nat):Option (Fin 16):=(placesL h).find? fun j=>decide ((entAt T j.val).s=s)&& !s.isEmpty
def placeT(T:Tab)(h:Nat):Option (Fin 16):=(placesL h).find? fun j=>decide (entAt T j.val=noEnt)
def setT(T:Tab)(j:Nat)(e:Ent):Tab:=T.set j e
def usedT(T:Tab)(k:Nat):Bool:=((T.drop (4*k)).take 4).any fun e=>decide (e≠noEnt)
theorem entAt_get{T:Tab}{j:Nat}(hT:T.length=16)(hj:j<16):T[j]? =some (entAt T j):=by
 unfold entAt;rw[List.getD_eq_getElem?_getD,List.getElem?_eq_getElem (by omega)];rfl
theorem May.len{e:Ent}(h:e.May):e.s.length≤12∧e.i≤32:=by
 rcases h with rfl|⟨h1,h2,h3⟩
 ·exact⟨by decide,by decide⟩
 ·unfold Np.nameB at h1;simp only[Bool.and_eq_true,decide_eq_true_eq]at h1;omega
theorem entB_length{e:Ent}(h:e.May):(entB e).length=16:=by
 have:=May.len h
 unfold entB;simp only[List.length_cons,List.length_append,List.length_replicate];omega
theorem noTab_ok:TabOk noTab:=⟨rfl,fun e he=>Or.inl (List.eq_of_mem_replicate he)⟩
theorem TabOk.set{T:Tab}(h:TabOk T){j:Nat}{e:Ent}(he:e.May):TabOk (setT T j e):=by
 refine⟨by unfold setT;rw[List.length_set];exact h.len,fun x hx=> ?_⟩;rcases List.mem_or_eq_of_mem_set hx with hx|rfl
 ·exact h.may x hx
 ·exact he
theorem entAt_may{T:Tab}(h:TabOk T)(j:Nat):(entAt T j).May:=by
 unfold entAt;rw[List.getD_eq_getElem?_getD]
 cases hx:T[j]? with
 |none=>exact Or.inl rfl
 |some e=>exact h.may e (List.mem_of_getElem? hx)
end Gd
section
open Go.Shelf
attribute [local go_sem] Oper.semAt_some
def entC(e:Gd.Ent):List Value:=[.string ⟨e.s.toArray⟩,.int .i64 e.i]
def tabC(T:Gd.Tab):Array Value:=(T.flatMap entC).toArray
def tabV(T:Gd.Tab):Value:= .agg (tabC T)
theorem ents_get:∀{T:Gd.Tab} {k:Nat} {e:Gd.Ent} (i:Nat),T[k]? =some e→i<2→(T.flatMap entC)[k*2+i]? =(entC e)[i]?
 |[],k,e,i,hx,_=>by simp at hx
 |a::r,0,e,i,hx,hi=>by
  simp at hx
  subst hx;rw[List.flatMap_cons,List.getElem?_append_left (by show 0*2+i<2;omega),Nat.zero_mul,Nat.zero_add]
 |a::r,k+1,e,i,hx,hi=>by
  rw[List.flatMap_cons,List.getElem?_append_right (by show 2≤_;omega)];have:=ents_get (T:=r) (k:=k) (e:=e) i (by simpa using hx) hi
  rw[←this];congr 1
  show(k+1)*2+i-2=_
  omega
theorem ents_len:∀(T:Gd.Tab),(T.flatMap entC).length=T.length*2
 |[]=>rfl
 |a::r=>by
  rw[List.flatMap_cons,List.length_append,ents_len r,List.length_cons];show 2+_=_
  omega
theorem tabC_size{T:Gd.Tab}(h:T.length=16):(tabC T).size=32:=by
 unfold tabC;rw[List.size_toArray,ents_len,h]
theorem tab_cells{w:World}{b t:Nat}{T:Gd.Tab}(h:w.heap[b]? =some (.cells (tabC T) t (0,0))){k:Nat}{e:Gd.Ent}(hk:T[k]? =some e):w.cell? ⟨b,k*2,none⟩=some (.string ⟨e.s.toArray⟩)∧w.cell? ⟨b,k*2+1,none⟩=some (.int .i64 e.i):=by
 refine⟨(cell_of_row w b (k*2) _ _ _ h).trans ?_,(cell_of_row w b (k*2+1) _ _ _ h).trans ?_⟩
 ·unfold tabC;rw[List.getElem?_toArray];exact ents_get 0 hk (by omega)
 ·unfold tabC;rw[List.getElem?_toArray];exact ents_get 1 hk (by omega)
theorem tabC_one(T:Gd.Tab):(tabC T).all (·.oneCell')=true:=by
 unfold tabC;refine all_oneCell_toArray fun v hv=> ?_;obtain⟨e,_,he⟩:=List.mem_flatMap.1 hv;simp only[entC,List.mem_cons,List.mem_nil_iff,or_false]at he;rcases he with rfl|rfl<;>rfl
theorem sizeTab:(prog.info? 141).map (fun i=>i.size)=some 32:=by kernel_rfl
theorem of_stops(F:Fence)(n:Nat)(hF:F=Fence.wide)(hn:2≤n)(nb:Nat)(s:ByteArray)(hs:s.size≤100000)(h:Nat)(hh:(h:Int)=hashV s.data.toList)(h16:h<16)(Kp:World→World→Prop)(w:World)(hc:w.cell? ⟨nb,0,none⟩=some (.string s))(hb:nb<w.heap.size):
 SeqStopsK F n prog 162 #[.pointer (some ⟨nb,0,none⟩)] (fun j:Fin 16=>#[.int .i64 (j.val:Nat)]) Kp (fun xs=>xs=Gd.placesL h) (fun pre=>pre<+:Gd.placesL h) 16 w:=fun l J Jx W hW hJa _ hY h0=>by
 subst hF;have hcW:=(hW.cell (p:=⟨nb,0,none⟩) hb).trans hc;have h1:1≤n:=by omega
 have HY:=hid hY;have H0:=hid h0;have HHa:Hid (∀V,CallsIn Fence.wide (n-1) prog 163 #[.string s] V fun e w'=>e= .returned (.int .i64 h)∧V=w'):=hid fun V=>callsIn_wide.2 (by rw[hh];exact hash_any s V hs);have hh16:(h:Int)<16:=by omega
 clear hY h0 hJa hc hh hW;refine callsIn_of_wp func162 rfl trivial ?_ rfl;simp only[ntmps162,List.size_toArray,List.length_cons,List.length_nil,Nat.reduceAdd,Nat.reduceSub,Array.replicate_succ,Array.replicate_zero,List.push_toArray,List.append_toArray,List.nil_append,List.cons_append];gi_wp2
 refine⟨trivial,(HHa.o _).mono ?_⟩;rintro e w' ⟨rfl,rfl⟩;clear hcW HHa;gi_wp2
 gi_loopw [7] (fun z wr=>∃i:Nat,z= .int .i64 i∧i≤16∧Hid (J ((Gd.placesL h).take i) wr)) (fun z _=>16-(intOf z).toNat)
 case atStart=>exact⟨0,rfl,by omega,hid (by rw[List.take_zero];exact H0.o)⟩
 case round=>
  obtain⟨i,rfl,hi,HJ⟩:=hrel;have hpl:(Gd.placesL h).length=16:=by unfold Gd.placesL;rw[List.length_map,List.length_range]
  by_cases hlt:i<16
  ·obtain⟨j,hj⟩:∃j:Fin 16,j=⟨(h+i) % 16,Nat.mod_lt _ (by omega)⟩:=⟨_,rfl⟩;have hgj:(Gd.placesL h)[i]? =some j:=by unfold Gd.placesL;rw[List.getElem?_map,List.getElem?_range hlt,hj];rfl
   have htk:(Gd.placesL h).take (i+1)=(Gd.placesL h).take i++[j]:=by rw[List.take_add_one,hgj];rfl
   obtain⟨fn,tmps,assign,body,hy,hR⟩:=HY.o ((Gd.placesL h).take i) j wr HJ.o (by rw[List.length_take];omega);rw[←htk]at hR;have HRR:=hid hR;have HP:=hid (List.take_prefix (i+1) (Gd.placesL h));have h2:(i:Int)<16:=by omega
   have h3:((h:Int)+(i:Int)) % 16=((j.val:Nat):Int):=by rw[hj];show _=(((h+i) % 16:Nat):Int);omega
   clear hj hgj htk hR hpl hlt;gi_wp2
   refine HRR.o.mono ?_;rintro e W3 (⟨rfl,hJ3,hk3⟩|⟨rfl,hJx3⟩)
   ·have HJ3:=hid hJ3;clear hJ3 hk3 hy HRR;gi_wp2
    go_roundw
    case rel=>exact⟨i+1,by go_num,by omega,HJ3⟩
    case measure=>simp[intOf];omega
   ·have HX3:=hid hJx3;clear hJx3 hy HRR;gi_wp2
    refine bodyPost_ret (results_none rfl _ _ _) rfl ?_;exact⟨⟨_,rfl⟩,Or.inr ⟨_,HP.o,HX3.o⟩⟩
  ·obtain rfl:i=16:=by omega
   clear hlt;gi_wp2
   go_end0
   refine⟨⟨_,rfl⟩,Or.inl ⟨_,rfl,?_⟩⟩;have:=HJ.o
   rw[List.take_of_length_le (by omega)]at this;exact this
theorem dirof_any(s:ByteArray)(w:World):Calls prog 146 #[.string s] w fun e w'=>e= .returned (.func (.func 162) #[] #[.pointer (some ⟨w.heap.size,0,none⟩)])∧w'=w.alloc (.cells #[.string s] 9):=by
 have hmf:∀(fn:Fn) (first cap:Array Value) (w:World),(Instr.makeFunc fn first cap).run prog w= .ok (.func fn first cap) w:=fun _ _ _ _=>rfl;go_enter func146,ntmps146;go_wp2;go_ret
 exact⟨rfl,rfl⟩
end
section
open Go.Shelf
attribute [local go_sem] Oper.semAt_some
def numO:Option (Fin 16)→Int
 |some j=>((j.val:Nat):Int)
 |none=> -1
def hasT(T:Gd.Tab)(s:List UInt8)(j:Fin 16):Bool:=decide ((Gd.entAt T j.val).s=s)&& !s.isEmpty
theorem tfind_in(T:Gd.Tab)(hT:T.length=16)(s:ByteArray)(hs:s.size≤100000)(hne:s.data.toList≠[])(h:Nat)(hh:(h:Int)=hashV s.data.toList)(w:World):
 CallsIn Fence.wide 6 prog 116 #[tabV T,.string s] w fun e W'=>e= .returned (.int .i64 (numO (Gd.findT T s.data.toList h)))∧Below w.heap.size w W':=by
 have h16:h<16:=by have:=hashV_lt s.data.toList;omega
 have hmf:∀(fn:Fn) (first cap:Array Value) (w:World),(Instr.makeFunc fn first cap).run prog w= .ok (.func fn first cap) w:=fun _ _ _ _=>rfl;have HOf:Hid (∀V,CallsIn Fence.wide 5 prog 146 #[.string s] V fun e w'=>e= .returned (.func (.func 162) #[] #[.pointer (some ⟨V.heap.size,0,none⟩)])∧w'=V.alloc (.cells #[.string s] 9)):=hid fun V=>callsIn_wide.2 (dirof_any s V);have HNe:Hid (s.toList.isEmpty=false):=hid (by rw[Lib.toList_data];cases hl:s.data.toList with|nil=>exact absurd hl hne|cons a r=>rfl);refine callsIn_of_wp_marks func116 rfl trivial ?_ rfl;simp only[ntmps116,List.size_toArray,List.length_cons,List.length_nil,Nat.reduceAdd,Nat.reduceSub,Array.replicate_succ,Array.replicate_zero,List.push_toArray,List.append_toArray,List.nil_append,List.cons_append];unfold tabV
 have HH:=hid (And.intro hT (And.intro hs (And.intro hh h16)));clear hT hs hne hh h16 hmf;gi_wp2
 refine⟨trivial,(HOf.o _).mono ?_⟩;rintro e W0 ⟨rfl,hW0⟩;have c0:CellsAt W0 w.heap.size 141 (tabC T):=by rw[hW0];exact(((CellsAt.alloc (heap_alloc_new w _) _).alloc _).alloc _)
 have c1:CellsAt W0 (w.heap.size+1) 9 #[.string s]:=by rw[hW0];have:=heap_alloc_new (w.alloc (.cells (tabC T) 141)) (.cells #[.string s] 9);rw[World.size_alloc]at this;exact(CellsAt.alloc this _).alloc _
 have c2:CellsAt W0 (w.heap.size+1+1) 3 #[.int .i64 0]:=by rw[hW0];have:=heap_alloc_new ((w.alloc (.cells (tabC T) 141)).alloc (.cells #[.string s] 9)) (.cells #[.int .i64 0] 3);rw[World.size_alloc,World.size_alloc]at this;exact CellsAt.alloc this _
 have c3:CellsAt W0 (w.heap.size+3) 9 #[.string s]:=by rw[hW0];have:=heap_alloc_new (((w.alloc (.cells (tabC T) 141)).alloc (.cells #[.string s] 9)).alloc (.cells #[.int .i64 0] 3)) (.cells #[.string s] 9);rw[World.size_alloc,World.size_alloc,World.size_alloc]at this;exact this
 have hB0:Below w.heap.size w W0:=by rw[hW0];exact((((Below.refl _ w).alloc (Nat.le_refl _) _).alloc (by simp) _).alloc (by simp;omega) _).alloc (by simp;omega) _
 have hsz:W0.heap.size=w.heap.size+4:=by rw[hW0];simp
 have hnb:(((w.alloc (.cells (tabC T) 141)).alloc (.cells #[.string s] 9)).alloc (.cells #[.int .i64 0] 3)).heap.size=w.heap.size+3:=by simp
 rw[hnb];clear hW0 hnb HOf;gi_wp2
 refine wpIn_rangeFunc_ownH rfl (by omega) (gf:=162) (lb:=#[.pointer (some ⟨w.heap.size+3,0,none⟩)]) rfl trivial (enters_of func162 (by kernel_rfl) rfl)
  (of_stops Fence.wide (6-1) rfl (by omega) (w.heap.size+3) s HH.o.2.1 h HH.o.2.2.1 HH.o.2.2.2 (KeepsC 0) W0 (cell_of_row W0 _ 0 _ _ _ c3) c3.lt) (keepsC_t 0) (keepsC_b 0 (w:=W0)) (Below.refl _ _) (fun _=>rfl)
  (fun(pre:List (Fin 16)) W=>((((∀j∈pre,hasT T s.data.toList j=false)∧CellsAt W w.heap.size 141 (tabC T))∧CellsAt W (w.heap.size+1) 9 #[.string s])∧CellsAt W (w.heap.size+1+1) 3 #[.int .i64 0])∧Below w.heap.size w W)
  (fun c (pre:List (Fin 16)) W=>(c= .ret∧(∃(q:List (Fin 16)) (j:Fin 16),(pre=q++[j]∧(∀r∈q,hasT T s.data.toList r=false)∧hasT T s.data.toList j=true)∧CellsAt W (w.heap.size+1+1) 3 #[.int .i64 (j.val:Nat)]))∧Below w.heap.size w W)
  ?o1 ?o2 ?o3
  (fun(x:Fin 16) a' W=>a'={tmps:=#[.agg (tabC T),.string s,.pointer (some ⟨w.heap.size,0,none⟩),.pointer (some ⟨w.heap.size+1,0,none⟩),.pointer (some ⟨w.heap.size+1+1,0,none⟩),.int .i64 (x.val:Nat),.string s,.func (.func 162) #[] #[.pointer (some ⟨w.heap.size+3,0,none⟩)],.int .i64 (x.val:Nat),undef,undef,undef,undef,undef,undef,undef,undef,undef,undef,undef],defers:=[]})
  ?o4 ?assign ?body ?done ?stop
 case o1=>exact OwnFrom.and (OwnFrom.and (OwnFrom.and (OwnFrom.and (ownFrom_pure _ _) (Own.from (cellsAt_own _ _ _) _)) (Own.from (cellsAt_own _ _ _) _)) (Own.from (cellsAt_own _ _ _) _)) (ownFrom_below (Nat.le_refl _) (by omega))
 case o2=>
  refine fun c=>OwnFrom.and (OwnFrom.and (ownFrom_pure _ _) ?_) (ownFrom_below (Nat.le_refl _) (by omega));rintro s X Y row ⟨q,p,hp,hc⟩ hg hr;exact⟨q,p,hp,cellsAt_own _ _ (fun(_:Unit)=>#[Value.int .i64 (p.val:Nat)]) () X Y row hc hg (fun r e=>(hr r e).2)⟩
 case o4=>
  rintro x a' _ X Y row h hg hr;exact h
 case o3=>exact⟨⟨⟨⟨by simp,c0⟩,c1⟩,c2⟩,hB0⟩
 case assign=>
  rintro l pre x W K ⟨⟨⟨⟨hp,q0⟩,q1⟩,q2⟩,hB1⟩ hK;have HK:=hid hK;have HP:=hid (And.intro hp (And.intro q0 (And.intro q1 (And.intro q2 hB1))));clear hK hp q0 q1 q2 hB1;gi_wp2
  exact HK.o _ _ (KeepsFrom.refl _ _) (keepsC_r _ _) ⟨⟨⟨⟨HP.o.1,HP.o.2.1⟩,HP.o.2.2.1⟩,HP.o.2.2.2.1⟩,HP.o.2.2.2.2⟩ rfl
 case body=>
  rintro l pre x a' W hl ⟨r,hr⟩ ⟨⟨⟨⟨hp,q0⟩,q1⟩,q2⟩,hB1⟩ rfl hlt;have HP:=hid (And.intro hp (And.intro q0 (And.intro q1 (And.intro q2 hB1))));have HB:=hid hB1;obtain⟨e,he⟩:=nm (Gd.entAt T x.val);have hge:=Gd.entAt_get HH.o.1 x.isLt;rw[←he]at hge;obtain⟨x0,-⟩:=tab_cells q0 hge;obtain⟨k,hk⟩:∃k:Nat,k=x.val:=⟨_,rfl⟩;rw[←hk]at x0;rw[←hk];have hk16:(k:Int)<16:=by have:=x.isLt;omega
  have hk0:(0:Int)≤k:=by omega
  obtain⟨es,hes⟩:∃es:ByteArray,es=⟨e.s.toArray⟩:=⟨_,rfl⟩;rw[←hes]at x0;have xs:=cell_of_row W _ 0 _ _ _ q1;have y0:=cell_of_row W _ 0 _ _ _ q2;have z0:=frozen_of_row W _ 0 _ _ q2;have HE:Hid (hasT T s.data.toList x=(es.toList==s.toList)):=hid (by
   unfold hasT;rw[←he,hes];have h1:=HNe.o;rw[Lib.toList_data]at h1;rw[h1,Bool.not_false,Bool.and_true,Bool.eq_iff_iff,decide_eq_true_iff,beq_iff_eq,Lib.toList_data,Lib.toList_data])
  have Hk:=hid hk;have hne:=HNe.o
  cases hm:(es.toList==s.toList)with
  |true=>
   rw[hm]at HE;clear hl hr hp q0 q1 q2 hB1 hlt hge he hes hk;gi_wp2
   gi_region
   all_goals
    gi_wp2
    refine⟨((KeepsOthers.setCell W ⟨w.heap.size+1+1,0,none⟩ (.int .i64 k)).trans (KeepsOthers.drew _)).from _,⟨rfl,pre,x,⟨rfl,HP.o.1,HE.o⟩,?_⟩,(HB.o.setCell (show w.heap.size≤w.heap.size+1+1 by omega) _).drew⟩;rw[←Hk.o];exact Go.heap_setCell_same W _ 0 _ _ (.int .i64 k) HP.o.2.2.2.1
  |false=>
   rw[hm]at HE;clear hl hr hp q0 q1 q2 hB1 hlt hge he hes hk;gi_wp2
   gi_region
   all_goals
    gi_wp2
    exact⟨(KeepsOthers.drew W).from _,fun j _ c t fr h=>h,⟨⟨⟨fun j hj=>(List.mem_append.1 hj).elim (HP.o.1 j) (fun e=>by rw[List.mem_singleton.1 e];exact HE.o),HP.o.2.1⟩,HP.o.2.2.1⟩,HP.o.2.2.2.1⟩,HB.o.drew⟩
 case done=>
  rintro D zs W hD rfl ⟨⟨⟨⟨hp,q0⟩,q1⟩,q2⟩,hB1⟩ hK;have HN:Hid (Gd.findT T s.data.toList h=none):=hid (List.find?_eq_none.2 fun j hj=>by
   have:=hp j hj
   unfold hasT at this;rw[this];decide)
  have y0:=cell_of_row W _ 0 _ _ _ q2;have z0:=frozen_of_row W _ 0 _ _ q2;have HK:=hid (And.intro hD (And.intro q2 (And.intro hB1 hK)));clear hp q0 q1 q2 hB1 hK;gi_wp2
  obtain⟨V,hV⟩:=nm (W.setCell ⟨w.heap.size+1+1,0,none⟩ (.int .i64 (-1)));rw[←hV];have v2:CellsAt V (w.heap.size+1+1) 3 #[.int .i64 (-1)]:=by rw[hV];exact Go.heap_setCell_same W _ 0 _ _ (.int .i64 (-1)) HK.o.2.1
  have vk:V.heap[D]? =some (.deferred (some [])):=by rw[hV];exact(Go.heap_setCell_other W ⟨w.heap.size+1+1,0,none⟩ _ _ (show D≠w.heap.size+1+1 by omega)).trans HK.o.2.2.2
  have vb:Below w.heap.size w V:=by rw[hV];exact HK.o.2.2.1.setCell (show w.heap.size≤w.heap.size+1+1 by omega) _
  clear hV y0 z0;have e2:CellsAt (V.putObj D (.deferred none)) (w.heap.size+1+1) 3 _:=(World.putObj_heap_other (show w.heap.size+1+1≠D by omega)).trans v2;have y0:=cell_of_row _ _ 0 _ _ _ e2;refine⟨by simp,.inl ⟨_,_,rfl,run_takeDeferred vk,?_⟩⟩;refine⟨.int .i64 (-1),?_,by rw[HN.o];rfl,vb.trans ?_⟩
  ·simp[results,f116,go_sem,y0]
  ·exact belowK_b (w:=w) (Nat.le_refl _) _ D _ _ (by omega) vk rfl rfl
 case stop=>
  rintro D c pre W hD hpre ⟨⟨rfl,q,j,⟨rfl,hq,hj⟩,q2⟩,hB1⟩ hK;have HF:Hid (Gd.findT T s.data.toList h=some j):=hid (by
   obtain⟨r,hr⟩:=hpre;unfold Gd.findT;rw[←hr,List.append_assoc,List.find?_append,List.find?_eq_none.2 (fun k hk=>by
    have:=hq k hk
    unfold hasT at this;rw[this];decide)]
   unfold hasT at hj;rw[List.singleton_append,List.find?_cons,hj];rfl)
  gi_wp2
  have e2:CellsAt (W.putObj D (.deferred none)) (w.heap.size+1+1) 3 _:=(World.putObj_heap_other (show w.heap.size+1+1≠D by omega)).trans q2;have y0:=cell_of_row _ _ 0 _ _ _ e2;refine⟨by simp,.inl ⟨_,_,rfl,run_takeDeferred hK,?_⟩⟩;refine⟨.int .i64 (j.val:Nat),?_,by rw[HF.o];rfl,hB1.trans ?_⟩
  ·simp[results,f116,go_sem,y0]
  ·exact belowK_b (w:=w) (Nat.le_refl _) _ D _ _ (by omega) hK rfl rfl
theorem tfind_any(T:Gd.Tab)(hT:T.length=16)(s:ByteArray)(hs:s.size≤100000)(hne:s.data.toList≠[])(h:Nat)(hh:(h:Int)=hashV s.data.toList)(w:World):
 Calls prog 116 #[tabV T,.string s] w fun e W'=>e= .returned (.int .i64 (numO (Gd.findT T s.data.toList h)))∧Below w.heap.size w W':=
 callsIn_wide.1 (tfind_in T hT s hs hne h hh w)
end
section
open Go.Shelf
attribute [local go_sem] Oper.semAt_some
def isNo(T:Gd.Tab)(j:Fin 16):Bool:=decide (Gd.entAt T j.val=Gd.noEnt)
theorem tplace_in(T:Gd.Tab)(hOk:Gd.TabOk T)(s:ByteArray)(hs:s.size≤100000)(h:Nat)(hh:(h:Int)=hashV s.data.toList)(w:World):
 CallsIn Fence.wide 6 prog 120 #[tabV T,.string s] w fun e W'=>e= .returned (.int .i64 (numO (Gd.placeT T h)))∧Below w.heap.size w W':=by
 have h16:h<16:=by have:=hashV_lt s.data.toList;omega
 have hmf:∀(fn:Fn) (first cap:Array Value) (w:World),(Instr.makeFunc fn first cap).run prog w= .ok (.func fn first cap) w:=fun _ _ _ _=>rfl;have HOf:Hid (∀V,CallsIn Fence.wide 5 prog 146 #[.string s] V fun e w'=>e= .returned (.func (.func 162) #[] #[.pointer (some ⟨V.heap.size,0,none⟩)])∧w'=V.alloc (.cells #[.string s] 9)):=hid fun V=>callsIn_wide.2 (dirof_any s V);have hT:=hOk.len;have HOk:=hid hOk;refine callsIn_of_wp_marks func120 rfl trivial ?_ rfl;simp only[ntmps120,List.size_toArray,List.length_cons,List.length_nil,Nat.reduceAdd,Nat.reduceSub,Array.replicate_succ,Array.replicate_zero,List.push_toArray,List.append_toArray,List.nil_append,List.cons_append];unfold tabV;have HH:=hid (And.intro hT (And.intro hs (And.intro hh h16)));clear hT hs hOk hh h16 hmf;gi_wp2
 refine⟨trivial,(HOf.o _).mono ?_⟩;rintro e W0 ⟨rfl,hW0⟩;have c0:CellsAt W0 w.heap.size 141 (tabC T):=by rw[hW0];exact((CellsAt.alloc (heap_alloc_new w _) _).alloc _)
 have c2:CellsAt W0 (w.heap.size+1) 3 #[.int .i64 0]:=by rw[hW0];have:=heap_alloc_new (w.alloc (.cells (tabC T) 141)) (.cells #[.int .i64 0] 3);rw[World.size_alloc]at this;exact CellsAt.alloc this _
 have c3:CellsAt W0 (w.heap.size+2) 9 #[.string s]:=by rw[hW0];have:=heap_alloc_new ((w.alloc (.cells (tabC T) 141)).alloc (.cells #[.int .i64 0] 3)) (.cells #[.string s] 9);rw[World.size_alloc,World.size_alloc]at this;exact this
 have hB0:Below w.heap.size w W0:=by rw[hW0];exact(((Below.refl _ w).alloc (Nat.le_refl _) _).alloc (by simp) _).alloc (by simp;omega) _
 have hsz:W0.heap.size=w.heap.size+3:=by rw[hW0];simp
 have hnb:((w.alloc (.cells (tabC T) 141)).alloc (.cells #[.int .i64 0] 3)).heap.size=w.heap.size+2:=by simp
 rw[hnb];clear hW0 hnb HOf;gi_wp2
 refine wpIn_rangeFunc_ownH rfl (by omega) (gf:=162) (lb:=#[.pointer (some ⟨w.heap.size+2,0,none⟩)]) rfl trivial (enters_of func162 (by kernel_rfl) rfl)
  (of_stops Fence.wide (6-1) rfl (by omega) (w.heap.size+2) s HH.o.2.1 h HH.o.2.2.1 HH.o.2.2.2 (KeepsC 0) W0 (cell_of_row W0 _ 0 _ _ _ c3) c3.lt) (keepsC_t 0) (keepsC_b 0 (w:=W0)) (Below.refl _ _) (fun _=>rfl)
  (fun(pre:List (Fin 16)) W=>(((∀j∈pre,isNo T j=false)∧CellsAt W w.heap.size 141 (tabC T))∧CellsAt W (w.heap.size+1) 3 #[.int .i64 0])∧Below w.heap.size w W)
  (fun c (pre:List (Fin 16)) W=>(c= .ret∧(∃(q:List (Fin 16)) (j:Fin 16),(pre=q++[j]∧(∀r∈q,isNo T r=false)∧isNo T j=true)∧CellsAt W (w.heap.size+1) 3 #[.int .i64 (j.val:Nat)]))∧Below w.heap.size w W)
  ?o1 ?o2 ?o3
  (fun(x:Fin 16) a' W=>a'={tmps:=#[.agg (tabC T),.string s,.pointer (some ⟨w.heap.size,0,none⟩),undef,.pointer (some ⟨w.heap.size+1,0,none⟩),.int .i64 (x.val:Nat),.string s,.func (.func 162) #[] #[.pointer (some ⟨w.heap.size+2,0,none⟩)],.int .i64 (x.val:Nat),undef,undef,undef,undef,undef,undef],defers:=[]})
  ?o4 ?assign ?body ?done ?stop
 case o1=>exact OwnFrom.and (OwnFrom.and (OwnFrom.and (ownFrom_pure _ _) (Own.from (cellsAt_own _ _ _) _)) (Own.from (cellsAt_own _ _ _) _)) (ownFrom_below (Nat.le_refl _) (by omega))
 case o2=>
  refine fun c=>OwnFrom.and (OwnFrom.and (ownFrom_pure _ _) ?_) (ownFrom_below (Nat.le_refl _) (by omega));rintro s X Y row ⟨q,p,hp,hc⟩ hg hr;exact⟨q,p,hp,cellsAt_own _ _ (fun(_:Unit)=>#[Value.int .i64 (p.val:Nat)]) () X Y row hc hg (fun r e=>(hr r e).2)⟩
 case o4=>
  rintro x a' _ X Y row h hg hr;exact h
 case o3=>exact⟨⟨⟨by simp,c0⟩,c2⟩,hB0⟩
 case assign=>
  rintro l pre x W K ⟨⟨⟨hp,q0⟩,q2⟩,hB1⟩ hK;have HK:=hid hK;have HP:=hid (And.intro hp (And.intro q0 (And.intro q2 hB1)));clear hK hp q0 q2 hB1;gi_wp2
  exact HK.o _ _ (KeepsFrom.refl _ _) (keepsC_r _ _) ⟨⟨⟨HP.o.1,HP.o.2.1⟩,HP.o.2.2.1⟩,HP.o.2.2.2⟩ rfl
 case body=>
  rintro l pre x a' W hl ⟨r,hr⟩ ⟨⟨⟨hp,q0⟩,q2⟩,hB1⟩ rfl hlt;have HP:=hid (And.intro hp (And.intro q0 (And.intro q2 hB1)));have HB:=hid hB1;obtain⟨e,he⟩:=nm (Gd.entAt T x.val);have hge:=Gd.entAt_get HH.o.1 x.isLt;rw[←he]at hge;have hem:=Gd.entAt_may HOk.o x.val;rw[←he]at hem;obtain⟨x0,x1⟩:=tab_cells q0 hge;obtain⟨k,hk⟩:∃k:Nat,k=x.val:=⟨_,rfl⟩;rw[←hk]at x0 x1;rw[←hk];have hk16:(k:Int)<16:=by have:=x.isLt;omega
  have hk0:(0:Int)≤k:=by omega
  obtain⟨es,hes⟩:∃es:ByteArray,es=⟨e.s.toArray⟩:=⟨_,rfl⟩;rw[←hes]at x0;obtain⟨ei,hei⟩:=nm e.i;rw[←hei]at x1;have y0:=cell_of_row W _ 0 _ _ _ q2;have z0:=frozen_of_row W _ 0 _ _ q2;have Hk:=hid hk;have HE:Hid (isNo T x=decide (e=Gd.noEnt)):=hid (by unfold isNo;rw[he]);by_cases hno:e=Gd.noEnt
  ·have hi0:ei=0:=by rw[hei,hno];rfl
   have hs0:es.toList.isEmpty=true:=by rw[hes,hno,Lib.toList_data];rfl
   rw[decide_eq_true hno]at HE;subst hi0;clear hl hr hp q0 q2 hB1 hlt hge he hes hk hem hno hei;gi_wp2
   refine⟨(KeepsOthers.setCell W ⟨w.heap.size+1,0,none⟩ (.int .i64 k)).from _,⟨rfl,pre,x,⟨rfl,HP.o.1,HE.o⟩,?_⟩,HB.o.setCell (show w.heap.size≤w.heap.size+1 by omega) _⟩;rw[←Hk.o];exact Go.heap_setCell_same W _ 0 _ _ (.int .i64 k) HP.o.2.2.1
  ·have hs0:es.toList.isEmpty=false:=by
    rcases hem with h1|⟨h1,-⟩
    ·exact absurd h1 hno
    ·have h2:=Np.name_ne h1;rw[hes,Lib.toList_data]
     cases hl2:e.s with
     |nil=>exact absurd hl2 h2
     |cons a r=>simp
   rw[decide_eq_false hno]at HE;clear hl hr hp q0 q2 hB1 hlt hge he hes hk hem hno hei;gi_wp2
   exact⟨KeepsFrom.refl _ _,keepsC_r _ _,⟨⟨fun j hj=>(List.mem_append.1 hj).elim (HP.o.1 j) (fun e=>by rw[List.mem_singleton.1 e];exact HE.o),HP.o.2.1⟩,HP.o.2.2.1⟩,HB.o⟩
 case done=>
  rintro D zs W hD rfl ⟨⟨⟨hp,q0⟩,q2⟩,hB1⟩ hK;have HN:Hid (Gd.placeT T h=none):=hid (List.find?_eq_none.2 fun j hj=>by
   have:=hp j hj
   unfold isNo at this;rw[this];decide)
  have y0:=cell_of_row W _ 0 _ _ _ q2;have z0:=frozen_of_row W _ 0 _ _ q2;have HK:=hid (And.intro hD (And.intro q2 (And.intro hB1 hK)));clear hp q0 q2 hB1 hK;gi_wp2
  obtain⟨V,hV⟩:=nm (W.setCell ⟨w.heap.size+1,0,none⟩ (.int .i64 (-1)));rw[←hV];have v2:CellsAt V (w.heap.size+1) 3 #[.int .i64 (-1)]:=by rw[hV];exact Go.heap_setCell_same W _ 0 _ _ (.int .i64 (-1)) HK.o.2.1
  have vk:V.heap[D]? =some (.deferred (some [])):=by rw[hV];exact(Go.heap_setCell_other W ⟨w.heap.size+1,0,none⟩ _ _ (show D≠w.heap.size+1 by omega)).trans HK.o.2.2.2
  have vb:Below w.heap.size w V:=by rw[hV];exact HK.o.2.2.1.setCell (show w.heap.size≤w.heap.size+1 by omega) _
  clear hV y0 z0;have e2:CellsAt (V.putObj D (.deferred none)) (w.heap.size+1) 3 _:=(World.putObj_heap_other (show w.heap.size+1≠D by omega)).trans v2;have y0:=cell_of_row _ _ 0 _ _ _ e2;refine⟨by simp,.inl ⟨_,_,rfl,run_takeDeferred vk,?_⟩⟩;refine⟨.int .i64 (-1),?_,by rw[HN.o];rfl,vb.trans ?_⟩
  ·simp[results,f120,go_sem,y0]
  ·exact belowK_b (w:=w) (Nat.le_refl _) _ D _ _ (by omega) vk rfl rfl
 case stop=>
  rintro D c pre W hD hpre ⟨⟨rfl,q,j,⟨rfl,hq,hj⟩,q2⟩,hB1⟩ hK;have HF:Hid (Gd.placeT T h=some j):=hid (by
   obtain⟨r,hr⟩:=hpre;unfold Gd.placeT;rw[←hr,List.append_assoc,List.find?_append,List.find?_eq_none.2 (fun k hk=>by
    have:=hq k hk
    unfold isNo at this;rw[this];decide)]
   unfold isNo at hj;rw[List.singleton_append,List.find?_cons,hj];rfl)
  gi_wp2
  have e2:CellsAt (W.putObj D (.deferred none)) (w.heap.size+1) 3 _:=(World.putObj_heap_other (show w.heap.size+1≠D by omega)).trans q2;have y0:=cell_of_row _ _ 0 _ _ _ e2;refine⟨by simp,.inl ⟨_,_,rfl,run_takeDeferred hK,?_⟩⟩;refine⟨.int .i64 (j.val:Nat),?_,by rw[HF.o];rfl,hB1.trans ?_⟩
  ·simp[results,f120,go_sem,y0]
  ·exact belowK_b (w:=w) (Nat.le_refl _) _ D _ _ (by omega) hK rfl rfl
theorem tplace_any(T:Gd.Tab)(hOk:Gd.TabOk T)(s:ByteArray)(hs:s.size≤100000)(h:Nat)(hh:(h:Int)=hashV s.data.toList)(w:World):
 Calls prog 120 #[tabV T,.string s] w fun e W'=>e= .returned (.int .i64 (numO (Gd.placeT T h)))∧Below w.heap.size w W':=
 callsIn_wide.1 (tplace_in T hOk s hs h hh w)
end
section
open Go.Shelf
attribute [local go_sem] Oper.semAt_some
def entV(e:Gd.Ent):Value:= .agg #[.string ⟨e.s.toArray⟩,.int .i64 e.i]
theorem dis_any(k:Int)(w:World):Calls prog 164 #[.int .i64 k] w fun e w'=>e= .returned (.bool (decide (0≤k)&&decide (k<4)))∧w'=w:=by
 go_enter func164,ntmps164;by_cases h0:0≤k
 ·by_cases h4:k<4
  ·go_wp2;go_ret
   exact⟨ret_bool (by simp[h0,h4]),rfl⟩
  ·go_wp2;go_ret
   exact⟨ret_bool (by simp[h0,h4]),rfl⟩
 ·go_wp2;go_ret
  exact⟨ret_bool (by simp;omega),rfl⟩
theorem ent_ne{e:Gd.Ent}(h:e≠Gd.noEnt):e.i≠0∨e.s≠[]:=by
 obtain⟨s,i⟩:=e;by_cases hi:i=0
 ·right
  intro hs;apply h
  show Gd.Ent.mk s i=⟨[],0⟩
  rw[show s=[] from hs,hi]
 ·exact Or.inl hi
theorem isEmpty_ne{s:List UInt8}(h:s≠[]):(⟨s.toArray⟩:ByteArray).toList.isEmpty=false:=by
 rw[Lib.toList_data]
 cases s with
 |nil=>exact absurd rfl h
 |cons a r=>rfl
theorem used1_any(e:Gd.Ent)(w:World):Calls prog 178 #[entV e] w fun x w'=>x= .returned (.bool (decide (e≠Gd.noEnt)))∧Below w.heap.size w w':=by
 unfold entV;obtain⟨es,hes⟩:∃es:ByteArray,es=⟨e.s.toArray⟩:=⟨_,rfl⟩;obtain⟨ei,hei⟩:=nm e.i;rw[←hes,←hei];by_cases hno:e=Gd.noEnt
 ·have hi0:ei=0:=by rw[hei,hno];rfl
  have hs0:es.toList.isEmpty=true:=by rw[hes,hno,Lib.toList_data];rfl
  have HD:Hid (decide (e≠Gd.noEnt)=false):=hid (by simp[hno]);subst hi0;clear hno hes hei;go_enter func178,ntmps178;go_wp2;go_ret
  exact⟨ret_bool HD.o.symm,(Below.refl _ _).alloc (Nat.le_refl _) _⟩
 ·have HD:Hid (decide (e≠Gd.noEnt)=true):=hid (by simp[hno]);rcases ent_ne hno with h|h
  ·have hi:(ei:Int)≠0:=by omega
   have hi':¬ei=0:=by omega
   clear hno hes hei h;go_enter func178,ntmps178;go_wp2;go_ret
   exact⟨ret_bool HD.o.symm,(Below.refl _ _).alloc (Nat.le_refl _) _⟩
  ·have hs0:=isEmpty_ne h;rw[←hes]at hs0;clear hno hes hei h;go_enter func178,ntmps178;go_wp2;go_ret
   exact⟨ret_bool HD.o.symm,(Below.refl _ _).alloc (Nat.le_refl _) _⟩
def mayE(e:Gd.Ent):Bool:=decide (e=Gd.noEnt)||(Np.nameB e.s&&(decide (1≤e.i)&&decide (e.i≤32)))
theorem mayE_iff(e:Gd.Ent):mayE e=true↔e.May:=by
 unfold mayE Gd.Ent.May;simp
theorem emay_any(e:Gd.Ent)(hl:e.s.length≤100000)(hi9:e.i≤100000)(w:World):Calls prog 182 #[entV e] w fun x w'=>x= .returned (.bool (mayE e))∧Below w.heap.size w w':=by
 unfold entV;have HMy:=hid fun W=>may_any ⟨e.s.toArray⟩ W (by rw[Lib.size_eq];show e.s.length≤_;omega);rw[show(⟨e.s.toArray⟩:ByteArray).data.toList=e.s from rfl]at HMy;obtain⟨es,hes⟩:∃es:ByteArray,es=⟨e.s.toArray⟩:=⟨_,rfl⟩;obtain⟨ei,hei⟩:=nm e.i;rw[←hes,←hei];rw[←hes]at HMy;rw[←hei]at hi9;obtain⟨bn,hbn⟩:=nm (Np.nameB e.s);rw[←hbn]at HMy;obtain⟨wb,hwb⟩:=nm (w.alloc (.cells #[.string es,.int .i64 ei] 139));have hrow:wb.heap[w.heap.size]? =some (.cells #[.string es,.int .i64 ei] 139 (0,0)):=by rw[hwb];exact heap_alloc_new _ _
 have HBb:Hid (Below w.heap.size w wb):=hid (by rw[hwb];exact(Below.refl _ _).alloc (Nat.le_refl _) _);have Hwb:=hid hwb;have c0:wb.cell? ⟨w.heap.size,0,none⟩=some (.string es):=cell_of_row _ _ 0 _ _ _ hrow;have c1:wb.cell? ⟨w.heap.size,1,none⟩=some (.int .i64 ei):=cell_of_row _ _ 1 _ _ _ hrow;have HRow:=hid hrow;clear hrow hwb;by_cases hno:e=Gd.noEnt
 ·have hi0:ei=0:=by rw[hei,hno];rfl
  have hs0:es.toList.isEmpty=true:=by rw[hes,hno,Lib.toList_data];rfl
  have HD:Hid (mayE e=true):=hid (by simp[mayE,hno]);have Hi0:=hid hi0;clear hno hes hei hbn hi0;go_enter func182,ntmps182;go_upto_region 1 with fail
  rw[←Hwb.o];obtain rfl:=Hi0.o
  go_wp2_with fail
  go_ret
  exact⟨ret_bool HD.o.symm,HBb.o⟩
 ·have HD:Hid (mayE e=(bn&&(decide (1≤ei)&&decide (ei≤32)))):=hid (by unfold mayE;rw[decide_eq_false hno,hbn,hei];rfl);have hne:(ei:Int)≠0∨es.toList.isEmpty=false:=by
   rcases ent_ne hno with h|h
   ·exact Or.inl (by omega)
   ·exact Or.inr (by rw[hes];exact isEmpty_ne h)
  clear hno hes hei hbn;have hkeep:∀W:World,Below wb.heap.size wb W→W.cell? ⟨w.heap.size,1,none⟩=some (.int .i64 ei):=fun W hb=>(hb.cell (p:=⟨w.heap.size,1,none⟩) (lt_get HRow.o)).trans c1;have HKp:=hid hkeep;clear hkeep;rcases hne with h|h
  all_goals
   cases bn with
   |false=>
    go_enter func182,ntmps182;go_upto_region 1 with fail
    rw[←Hwb.o];go_wp2_with(go_at_call 145;refine(HMy.o _).mono ?_;rintro x w2 ⟨rfl,hb2⟩;have d1:=HKp.o _ hb2;have HB2:=HBb.t hb2;clear hb2)
    go_ret
    exact⟨ret_bool (by rw[HD.o];rfl),HB2.o⟩
   |true=>
    by_cases h1:1≤ei
    ·by_cases h32:ei≤32
     ·have g1:(1:Int)≤ei:=by omega
      have g2:(ei:Int)≤32:=by omega
      go_enter func182,ntmps182;go_upto_region 1 with fail
      rw[←Hwb.o];go_wp2_with(go_at_call 145;refine(HMy.o _).mono ?_;rintro x w2 ⟨rfl,hb2⟩;have d1:=HKp.o _ hb2;have HB2:=HBb.t hb2;clear hb2)
      go_ret
      exact⟨ret_bool (by rw[HD.o];simp[h1,h32]<;>omega),HB2.o⟩
     ·have g1:(1:Int)≤ei:=by omega
      have g2:¬(ei:Int)≤32:=by omega
      go_enter func182,ntmps182;go_upto_region 1 with fail
      rw[←Hwb.o];go_wp2_with(go_at_call 145;refine(HMy.o _).mono ?_;rintro x w2 ⟨rfl,hb2⟩;have d1:=HKp.o _ hb2;have HB2:=HBb.t hb2;clear hb2)
      go_ret
      exact⟨ret_bool (by rw[HD.o];simp[h32]<;>omega),HB2.o⟩
    ·first
     |(exfalso;omega)
     |(have g1:¬(1:Int)≤ei:=by omega
       go_enter func182,ntmps182;go_upto_region 1 with fail
       rw[←Hwb.o];go_wp2_with(go_at_call 145;refine(HMy.o _).mono ?_;rintro x w2 ⟨rfl,hb2⟩;have d1:=HKp.o _ hb2;have HB2:=HBb.t hb2;clear hb2)
       go_ret
       exact⟨ret_bool (by rw[HD.o];simp[h1]<;>omega),HB2.o⟩)
end
end Go.Proofs.YtckoobkjpndgnaaGreatDoor
