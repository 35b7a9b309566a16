/- Walks: names: two lists held against each other. -/
import Derived.Test.YtjlpkbhgphjpeaaGreatDoorV14
set_option linter.unusedVariables false
set_option linter.unusedSimpArgs false
set_option linter.unusedSectionVars false
set_option maxHeartbeats 8000000
set_option maxRecDepth 100000
namespace Go.Proofs.YtjlpkbhgphjpeaaGreatDoor
open Go.RowKit
open Lib(hid)
open Go.Proofs.Tryz
theorem uq{L M:List (List UInt8)}{k:Nat}{x y:List UInt8}(h:L.take k=M.take k)(hx:L[k]? =some x)(hy:M[k]? =some y):(L.take (k+1)=M.take (k+1))↔x=y:=by
 rw[List.take_add_one,List.take_add_one,hx,hy,h];simp
theorem Yx(A A':Option Addr)(L M:List (List UInt8))(c c':Nat)(B:Nat)(w:World)(hL:L.length≤1000000)(hM:M.length≤1000000)(hS:jb w B A L)(hS':jb w B A' M):
 Calls prog 88 #[.slice A L.length c,.slice A' M.length c'] w fun e w'=>e= .returned (.bool (decide (L=M)))∧Below w.heap.size w w':=by
 have HS:=hid hS;clear hS;have HS':=hid hS';clear hS';by_cases hne:L.length=M.length
 ·obtain⟨n,hn⟩:=nm L.length;rw[←hne,←hn];have Hn:=hid hn;have Hm:=hid (hn.trans hne);have hn1:n≤1000000:=by omega
  clear hn hne hL hM;obtain⟨r,hr⟩:=nm (decide (L=M));rw[←hr];have Hr:=hid hr;clear hr;go_enter func88,ntmps88;go_wp2;go_loopw[5] (fun i wr=>∃k:Nat,k≤n∧i= .int .i64 k∧Hid (L.take k=M.take k)∧Below w.heap.size w wr) (fun i _=>n-(intOf i).toNat)
  case atStart=>exact⟨0,by omega,rfl,by show L.take 0=M.take 0;simp,Below.refl _ _⟩
  case round=>
   obtain⟨k,hk,rfl,hok,hbw⟩:=hrel;by_cases hlt:k<n
   ·have hkL:k<L.length:=by have:=Hn.o;omega
    have hkM:k<M.length:=by have:=Hm.o;omega
    obtain⟨x,hx⟩:∃x,L[k]? =some x:=⟨_,List.getElem?_eq_getElem hkL⟩;obtain⟨y,hy⟩:∃y,M[k]? =some y:=⟨_,List.getElem?_eq_getElem hkM⟩;rcases HS.o with h|⟨b,o,rfl,h2,h3,h4,_⟩
    ·subst h;simp at hkL
    rcases HS'.o with h|⟨b',o',rfl,h2',h3',h4',_⟩
    ·subst h;simp at hkM
    have hc:wr.cell? ⟨b,o+k,none⟩=some (.string ⟨x.toArray⟩):=(hbw.cell (p:=⟨b,o+k,none⟩) h3).trans (h4 k x hx);have hc':wr.cell? ⟨b',o'+k,none⟩=some (.string ⟨y.toArray⟩):=(hbw.cell (p:=⟨b',o'+k,none⟩) h3').trans (h4' k y hy);have hiff:=uq hok.o hx hy;have Hiff:=hid hiff;have Hx:=hid hx;have Hy:=hid hy;clear h4 h4' hx hy hiff hkL hkM;have hk1:(0:Int)≤k:=by omega
    have hk2:(k:Int)<n:=by omega
    go_wp2;go_quiet (fail)
    go_wp2
    ·have hne:(!x==y)=true:=by assumption
     have hxy:¬x=y:=by simpa using hne
     go_ret
     refine⟨zq ?_,below_drewN hbw _⟩;rw[Hr.o];symm
     exact decide_eq_false fun h=>hxy (Hiff.o.1 (by rw[h]))
    ·have hne:(!x==y)=false:=by assumption
     have hxy:x=y:=by simpa using hne
     go_roundw
     case rel=>exact⟨k+1,by omega,by go_num,Hiff.o.2 hxy,below_drewN hbw _⟩
     case measure=>simp[intOf];omega
   ·go_wp2;go_ret
    refine⟨zq ?_,hbw⟩;have:=hok.o
    rw[List.take_of_length_le (by have:=Hn.o;omega),List.take_of_length_le (by have:=Hm.o;omega)]at this;rw[Hr.o,decide_eq_true this]
 ·have hne':((L.length:Int) !=M.length)=true:=by rw[bne_iff_ne];omega
  have hd:decide (L=M)=false:=decide_eq_false fun h=>hne (by rw[h]);rw[hd];clear hd hne;go_enter func88,ntmps88;go_wp2;go_ret
  exact⟨rfl,Below.refl _ _⟩
theorem US{O:List (List UInt8)}{cur r:List UInt8}{c:UInt8}(h:c≠47):Np.go O cur (c::r)=Np.go O (cur++[c]) r:=by rw[Np.go,if_neg h]
theorem Yw{l:List UInt8}{f k:Nat}(hf:f≤k)(hk:k<l.length):(l.drop f).take (k+1-f)=(l.drop f).take (k-f)++[l[k]]:=by
 rw[show k+1-f=(k-f)+1 by omega,List.take_add_one,List.getElem?_drop,show f+(k-f)=k by omega,List.getElem?_eq_getElem hk];rfl
theorem UZ{l:List UInt8}{O:List (List UInt8)}{f k:Nat}{G:Option (List (List UInt8))}(hf:f≤k)(hk:k<l.length)(h:Np.go O ((l.drop f).take (k-f)) (l.drop k)=G)(hc:l[k]≠47):
 Np.go O ((l.drop f).take (k+1-f)) (l.drop (k+1))=G:=by
 rw[List.drop_eq_getElem_cons hk,US hc]at h;rw[Yw hf hk,h]
theorem UY{l:List UInt8}{O:List (List UInt8)}{f k:Nat}{G:Option (List (List UInt8))}(hk:k<l.length)(h:Np.go O ((l.drop f).take (k-f)) (l.drop k)=G)(hc:l[k]=47)
 (hn:Np.nameB ((l.drop f).take (k-f))=true)(h6:O.length≠6):Np.go (O++[(l.drop f).take (k-f)]) ((l.drop (k+1)).take (k+1-(k+1))) (l.drop (k+1))=G:=by
 rw[List.drop_eq_getElem_cons hk,Np.go,if_pos hc,hn,decide_eq_true h6]at h;rw[Nat.sub_self,List.take_zero];exact h
theorem UX{l:List UInt8}{O:List (List UInt8)}{f k:Nat}{G:Option (List (List UInt8))}(hk:k=l.length)(h:Np.go O ((l.drop f).take (k-f)) (l.drop k)=G)
 (hn:Np.nameB ((l.drop f).take (k-f))=true)(h6:O.length≠6):G=some (O++[(l.drop f).take (k-f)]):=by
 have e:l.drop k=[]:=by rw[hk];exact List.drop_length
 rw[e,Np.go,hn,decide_eq_true h6]at h;exact h.symm
theorem UL{l:List UInt8}{O:List (List UInt8)}{f k:Nat}{G:Option (List (List UInt8))}(h:Np.go O ((l.drop f).take (k-f)) (l.drop k)=G)(hend:k=l.length∨∃hk:k<l.length,l[k]=47)
 (hbad:Np.nameB ((l.drop f).take (k-f))=false∨O.length=6):G=none:=by
 have hb:(Np.nameB ((l.drop f).take (k-f))&&decide (O.length≠6))=false:=by
  rcases hbad with h|h
  ·rw[h];rfl
  ·rw[h];simp
 rcases hend with hk|⟨hk,hc⟩
 ·have e:l.drop k=[]:=by rw[hk];exact List.drop_length
  rw[e,Np.go,hb]at h;exact h.symm
 ·rw[List.drop_eq_getElem_cons hk,Np.go,if_pos hc,hb]at h;exact h.symm
def QQ(G:Option (List (List UInt8)))(w:World)(e:Ending)(w':World):Prop:=
 (G=none∧e= .returned (.tuple #[.slice none 0 0,.int .i64 15])∧Below w.heap.size w w')∨∃L,G=some L∧q9 L w e w'
def z9(O:List (List UInt8)):List Value:=O.map fun x=>Value.string ⟨x.toArray⟩
theorem jE(O:List (List UInt8))(b:ByteArray)(x:List UInt8)(h:b.data.toList=x):z9 O++[.string b]=z9 (O++[x]):=by
 unfold z9;rw[List.map_append,←h];show _=_++[Value.string ⟨b.data.toList.toArray⟩]
 rw[VA]
theorem jc{w:World}{B:Nat}{v:Value}{n:Nat}{O:List (List UInt8)}(h:w.ownsRow B 9 1 v n (z9 O)):∃A c,v= .slice A O.length c∧n=O.length∧O.length≤c∧jb w B A O:=by
 have hn:n=O.length:=by have:=h.1;unfold z9 at this;simp at this;omega
 subst hn;have h':=h;rcases h.2 with⟨rfl,h0⟩|⟨g,cap,cur,rfl,hb,hg,hc,_,_,_⟩
 ·have:O=[]:=List.length_eq_zero_iff.1 h0
  subst this;exact⟨none,0,rfl,rfl,Nat.le_refl _,Or.inl rfl⟩
 ·refine⟨_,cap,rfl,rfl,hc,Or.inr ⟨g,0,rfl,hb,(Array.getElem?_eq_some_iff.1 hg).1,?_,?_⟩⟩
  ·intro j x hx;have hj:j<O.length:=(List.getElem?_eq_some_iff.1 hx).1;have:=h'.cellAt j (by omega)
   rw[Nat.zero_add,this];unfold z9;rw[List.getElem?_map,hx];rfl
  ·intro j;exact h'.frozenAt j
theorem infoS:(prog.info? 9).map (fun i=>(i.zero,i.size,i.bytes))=some (some (.string ByteArray.empty),1,16):=by kernel_rfl
theorem JL(w:World):Calls prog 27 #[.string ⟨#[47]⟩] w (q9 [] w):=by
 go_enter func27,ntmps27;go_wp2;go_ret2
 exact⟨_,_,rfl,Nat.le_refl _,Or.inl rfl,Below.refl _ _⟩
theorem ux(s:ByteArray)(w:World)(hs:s.size≤100000)(h47:(s.toList==[47])=false)(h0:∀h:0<s.size,((((s[0]'h).toNat:Nat):Int) !=47)=true):
 Calls prog 27 #[.string s] w fun e w'=>e= .returned (.tuple #[.slice none 0 0,.int .i64 15])∧Below w.heap.size w w':=by
 by_cases hz:s.size=0
 ·have hz':((s.size:Int)==0)=true:=by rw[beq_iff_eq];omega
  clear hz h0;go_enter func27,ntmps27;go_wp2;go_ret2
  exact⟨rfl,Below.refl _ _⟩
 ·have hp:0<s.size:=by omega
  have h1:=h0 hp;have hz':((s.size:Int)==0)=false:=by rw[beq_eq_false_iff_ne];omega
  clear hz h0;go_enter func27,ntmps27;go_wp2;all_goals (go_ret2;exact⟨rfl,Below.refl _ _⟩)
theorem Yy(s:ByteArray)(G:Option (List (List UInt8)))(w:World)(hs:s.size≤100000)(h47:(s.toList==[47])=false)(hp:0<s.size)(h0:(((s[0]'hp).toNat:Int) !=47)=false)
 (hG:Np.go [] ((s.data.toList.drop 1).take (1-1)) (s.data.toList.drop 1)=G):
 Calls prog 27 #[.string s] w (QQ G w):=by
 have hz':((s.size:Int)==0)=false:=by rw[beq_eq_false_iff_ne];omega
 have HG:=hid hG;clear hG;obtain⟨i0,hi,hz0,hz1,hz2⟩:=info_parts infoS;go_enter func27,ntmps27;go_wp2;go_loopw[4,5,6] (fun v ff i wr=>∃(k f:Nat) (O:List (List UInt8)),1≤f∧f≤k∧k≤s.size+1∧O.length≤6∧i= .int .i64 k∧ff= .int .i64 f∧wr.ownsRow w.heap.size 9 1 v O.length (z9 O)∧Below w.heap.size w wr∧
  Hid (k≤s.size→Np.go O ((s.data.toList.drop f).take (k-f)) (s.data.toList.drop k)=G)∧Hid (k=s.size+1→G=some O)) (fun _ _ i _=>s.size+1-(intOf i).toNat)
 case atStart=>exact⟨1,1,[],by omega,by omega,by omega,by simp,rfl,rfl,World.ownsRow_nil _ _ _ _,Below.refl _ _,fun _=>HG.o,fun h=>by omega⟩
 case round=>
  obtain⟨k,f,O,hf1,hfk,hk,hO6,rfl,rfl,hown,hbw,hr1,hr2⟩:=hrel;by_cases hle:k≤s.size
  ·by_cases hA:∃hlt:k<s.size,s[k]'hlt≠47
   ·obtain⟨hlt,hc⟩:=hA;have hcb:(((s[k]'hlt).toNat:Int) !=47)=true:=by
     rw[bne_iff_ne];intro e;apply hc;exact UInt8.toNat_inj.1 (by exact_mod_cast e)
    have hcl:s.data.toList[k]'(by rw[←Lib.size_eq];exact hlt)≠47:=by rw[Array.getElem_toList];exact hc
    have hA1:=UZ hfk (by rw[←Lib.size_eq];exact hlt) (hr1.o (by omega)) hcl;have HA1:=hid hA1;clear hA1;clear hc hcl;go_wp2;go_roundw
    case rel=>exact⟨k+1,f,O,by omega,by omega,by omega,by omega,by go_num,rfl,hown,hbw,fun _=>HA1.o,fun h=>by omega⟩
    case measure=>simp[intOf];omega
   ·by_cases hlt:k<s.size
    ·have hc:s[k]'hlt=47:=Classical.byContradiction fun e=>hA ⟨hlt,e⟩;have hcb:(((s[k]'hlt).toNat:Int) !=47)=false:=by rw[hc];rfl
     have hcl:s.data.toList[k]'(by rw[←Lib.size_eq];exact hlt)=47:=by rw[Array.getElem_toList];exact hc
     have Hcl:=hid hcl;clear hcl;clear hA hc;have hk1:(k:Int)<s.size:=by omega
     have hB0:w.heap.size≤wr.heap.size:=hbw.size;by_cases hgood:Np.nameB ((s.data.toList.drop f).take (k-f))=true∧O.length≠6
     ·obtain⟨hn,h6⟩:=hgood;have hm:=fun W=>yf (s.extract f k) W (by rw[ByteArray.size_extract];omega);rw[Lib.extract_data,hn]at hm;have Hm:=hid hm;clear hm;have Hn:=hid hn;clear hn;have h6b:((O.length:Int)==6)=false:=by rw[beq_eq_false_iff_ne];omega
      have H6:=hid h6;clear h6;obtain⟨A,c,hv,_,hc,hS⟩:=jc hown;rw[hv]at hown;rw[hv];clear hS;go_wp2_with(first|(go_at_call 63;refine(Hm.o _).mono ?_;rintro e w' ⟨rfl,rfl⟩)|(at_builtin;refine wpList_append_own _ rfl (.tmp 46) (.tmp 51) 52 rfl w.heap.size 9 i0 (.string ByteArray.empty) 1 16 underlying52 hi hz0 hz1 hz2 rfl (by decide) (.slice A O.length c) O.length (z9 O) rfl (hown.alloc _) ⟨wr.heap.size,0,none⟩ 1 1 [.string (s.extract f k)] rfl rfl ?c1 ?c2 ?c3 ?c4 ?c5 ?_))
      case c1=>exact cell_one_new _ _ _
      case c2=>intro u hu;simp only[List.mem_singleton]at hu;subst hu;rfl
      case c3=>unfold maxLen;omega
      case c4=>omega
      case c5=>simp;omega
      intro v' w1 hown' hgrow _;rw[jE O _ _ (Lib.extract_data s f k),show O.length+1=(O++[(s.data.toList.drop f).take (k-f)]).length by simp]at hown';have hB1:Below w.heap.size w w1:=(hbw.alloc hB0 _).grown hgrow (by simp;omega) (fun q hq=>(hown.lt q hq).1);obtain⟨A',c',hv',_,_,_⟩:=jc hown';rw[hv']at hown';rw[hv'];have HO:=hid hown';clear hown' hown hv' hv;go_wp2;go_roundw
      case rel=>
       exact⟨k+1,k+1,O++[(s.data.toList.drop f).take (k-f)],by omega,by omega,by omega,by have:=H6.o;simp;omega,by go_num,by go_num,HO.o,hB1,fun _=>UY (by rw[←Lib.size_eq];exact hlt) (hr1.o hle) Hcl.o Hn.o H6.o,fun h=>by omega⟩
      case measure=>simp[intOf];omega
     ·have hm:=fun W=>yf (s.extract f k) W (by rw[ByteArray.size_extract];omega);rw[Lib.extract_data]at hm;have hbad:Np.nameB ((s.data.toList.drop f).take (k-f))=false∨O.length=6:=by
       rcases Classical.em (O.length=6)with h|h
       ·exact Or.inr h
       ·left
        cases hn:Np.nameB ((s.data.toList.drop f).take (k-f))with
        |false=>rfl
        |true=>exact absurd ⟨hn,h⟩ hgood
      clear hgood;have hN:=UL (hr1.o hle) (Or.inr ⟨by rw[←Lib.size_eq];exact hlt,Hcl.o⟩) hbad;obtain⟨b,hb⟩:=nm (Np.nameB ((s.data.toList.drop f).take (k-f)));rw[←hb]at hm hbad;have Hm:=hid hm;clear hm;clear hb;obtain⟨A,c,hv,_,hc,hS⟩:=jc hown;rw[hv];clear hS;have HN:=hid hN;clear hN;rcases hbad with hb|hb
      ·subst hb;go_wp2_with(go_at_call 63;refine(Hm.o _).mono ?_;rintro e w' ⟨rfl,rfl⟩)
       go_ret2
       exact Or.inl ⟨HN.o,rfl,hbw⟩
      ·have h6b:((O.length:Int)==6)=true:=by rw[beq_iff_eq];omega
       clear hb;go_wp2_with(go_at_call 63;refine(Hm.o _).mono ?_;rintro e w' ⟨rfl,rfl⟩)
       all_goals (go_ret2;exact Or.inl ⟨HN.o,rfl,hbw⟩)
    ·clear hA;have hk1:(s.size:Int)≤k:=by omega
     have hB0:w.heap.size≤wr.heap.size:=hbw.size;by_cases hgood:Np.nameB ((s.data.toList.drop f).take (k-f))=true∧O.length≠6
     ·obtain⟨hn,h6⟩:=hgood;have hm:=fun W=>yf (s.extract f k) W (by rw[ByteArray.size_extract];omega);rw[Lib.extract_data,hn]at hm;have Hm:=hid hm;clear hm;have Hn:=hid hn;clear hn;have h6b:((O.length:Int)==6)=false:=by rw[beq_eq_false_iff_ne];omega
      have H6:=hid h6;clear h6;obtain⟨A,c,hv,_,hc,hS⟩:=jc hown;rw[hv]at hown;rw[hv];clear hS;go_wp2_with(first|(go_at_call 63;refine(Hm.o _).mono ?_;rintro e w' ⟨rfl,rfl⟩)|(at_builtin;refine wpList_append_own _ rfl (.tmp 46) (.tmp 51) 52 rfl w.heap.size 9 i0 (.string ByteArray.empty) 1 16 underlying52 hi hz0 hz1 hz2 rfl (by decide) (.slice A O.length c) O.length (z9 O) rfl (hown.alloc _) ⟨wr.heap.size,0,none⟩ 1 1 [.string (s.extract f k)] rfl rfl ?c1 ?c2 ?c3 ?c4 ?c5 ?_))
      case c1=>exact cell_one_new _ _ _
      case c2=>intro u hu;simp only[List.mem_singleton]at hu;subst hu;rfl
      case c3=>unfold maxLen;omega
      case c4=>omega
      case c5=>simp;omega
      intro v' w1 hown' hgrow _;rw[jE O _ _ (Lib.extract_data s f k),show O.length+1=(O++[(s.data.toList.drop f).take (k-f)]).length by simp]at hown';have hB1:Below w.heap.size w w1:=(hbw.alloc hB0 _).grown hgrow (by simp;omega) (fun q hq=>(hown.lt q hq).1);obtain⟨A',c',hv',_,_,_⟩:=jc hown';rw[hv']at hown';rw[hv'];have HO:=hid hown';clear hown' hown hv' hv;go_wp2;go_roundw
      case rel=>
       exact⟨k+1,k+1,O++[(s.data.toList.drop f).take (k-f)],by omega,by omega,by omega,by have:=H6.o;simp;omega,by go_num,by go_num,HO.o,hB1,fun h=>by omega,fun _=>UX (by rw[←Lib.size_eq];omega) (hr1.o hle) Hn.o H6.o⟩
      case measure=>simp[intOf];omega
     ·have hm:=fun W=>yf (s.extract f k) W (by rw[ByteArray.size_extract];omega);rw[Lib.extract_data]at hm;have hbad:Np.nameB ((s.data.toList.drop f).take (k-f))=false∨O.length=6:=by
       rcases Classical.em (O.length=6)with h|h
       ·exact Or.inr h
       ·left
        cases hn:Np.nameB ((s.data.toList.drop f).take (k-f))with
        |false=>rfl
        |true=>exact absurd ⟨hn,h⟩ hgood
      clear hgood;have hN:=UL (hr1.o hle) (Or.inl (by rw[←Lib.size_eq];omega)) hbad;obtain⟨b,hb⟩:=nm (Np.nameB ((s.data.toList.drop f).take (k-f)));rw[←hb]at hm hbad;have Hm:=hid hm;clear hm;clear hb;obtain⟨A,c,hv,_,hc,hS⟩:=jc hown;rw[hv];clear hS;have HN:=hid hN;clear hN;rcases hbad with hb|hb
      ·subst hb;go_wp2_with(go_at_call 63;refine(Hm.o _).mono ?_;rintro e w' ⟨rfl,rfl⟩)
       go_ret2
       exact Or.inl ⟨HN.o,rfl,hbw⟩
      ·have h6b:((O.length:Int)==6)=true:=by rw[beq_iff_eq];omega
       clear hb;go_wp2_with(go_at_call 63;refine(Hm.o _).mono ?_;rintro e w' ⟨rfl,rfl⟩)
       all_goals (go_ret2;exact Or.inl ⟨HN.o,rfl,hbw⟩)
  ·have hk1:(s.size:Int)<k:=by omega
   obtain⟨A,c,hv,_,hc,hS⟩:=jc hown;rw[hv];have HS:=hid hS;clear hS;clear hv;go_wp2;go_ret2
   exact Or.inr ⟨O,hr2.o (by omega),A,c,rfl,hc,HS.o,hbw⟩
theorem yC(s:ByteArray)(w:World)(hs:s.size≤100000):
 Calls prog 27 #[.string s] w (QQ (Np.pathL s.data.toList) w):=by
 by_cases h47:s.data.toList=[47]
 ·obtain rfl:s=⟨#[47]⟩:=Zo h47
  exact(JL w).mono fun e w' h=>Or.inr ⟨[],rfl,h⟩
 ·have h47':(s.toList==[47])=false:=by rw[Lib.toList_data];exact beq_eq_false_iff_ne.2 h47
  cases hl:s.data.toList with
  |nil=>
   have hz:s.size=0:=by rw[Lib.size_eq,hl];rfl
   exact(ux s w hs h47' (fun h=>by omega)).mono fun e w' h=>Or.inl ⟨rfl,h⟩
  |cons c r=>
   have hz:0<s.size:=by rw[Lib.size_eq,hl];simp
   have hc:s[0]'hz=c:=by
    have:s.data.toList[0]'(by rw[hl];simp)=c:=by simp[hl]
    rw[Array.getElem_toList]at this;exact this
   by_cases h:c=47
   ·subst h;have hr:r≠[]:=fun e=>h47 (by rw[hl,e]);exact Yy s _ w hs h47' hz (by rw[hc];rfl) (by rw[hl,Np.pathL_go r hr];rfl)
   ·refine(ux s w hs h47' (fun _=> ?_)).mono fun e w' h2=>Or.inl ⟨by rw[Np.pathL,if_neg h],h2⟩
    rw[hc,bne_iff_ne];intro e;exact h (UInt8.toNat_inj.1 (by exact_mod_cast e))
theorem Mx.keep{w w':World}(h:Mx w)(hb:Below w.heap.size w w'):Mx w':=by
 obtain⟨m,hm⟩:=h;refine⟨m,(hb.cell (p:=⟨_,0,none⟩) ?_).trans hm⟩;show 0<w.heap.size
 unfold World.cell? at hm
 cases hh:w.heap[0]? with
 |none=>rw[show(⟨0,0,none⟩:Addr).block=0 from rfl,hh]at hm;cases hm
 |some o=>exact(Array.getElem?_eq_some_iff.1 hh).1
theorem YH(s:ByteArray)(L:List (List UInt8))(w:World)(hs:s.size≤100000)(hM:Mx w)(h:Np.pathL s.data.toList=some L):Calls prog 61 #[.string s] w (q9 L w):=by
 obtain⟨m,hm⟩:=hM;exact qt s L m w hs hm h
theorem YI(s:ByteArray)(w:World)(hs:s.size≤100000)(hM:Mx w)(h:Np.pathL s.data.toList=none):
 Calls prog 61 #[.string s] w fun e w'=>e= .returned (.tuple #[.slice none 0 0,.int .i64 15])∧Below w.heap.size w w':=by
 obtain⟨m,hm⟩:=hM;exact xI s m w hs hm h
theorem yD(s:ByteArray)(L:List (List UInt8))(w:World)(hs:s.size≤100000)(h:Np.pathL s.data.toList=some L):Calls prog 27 #[.string s] w (q9 L w):=
 (yC s w hs).mono fun e w' hr=>by
   rw[h]at hr;rcases hr with⟨h1,_⟩|⟨M,h1,h2⟩
   ·cases h1
   ·obtain rfl:=Option.some.inj h1
    exact h2
theorem vp(s:ByteArray)(w:World)(hs:s.size≤100000)(h:Np.pathL s.data.toList=none):
 Calls prog 27 #[.string s] w fun e w'=>e= .returned (.tuple #[.slice none 0 0,.int .i64 15])∧Below w.heap.size w w':=
 (yC s w hs).mono fun e w' hr=>by
   rw[h]at hr;rcases hr with⟨_,h2⟩|⟨M,h1,_⟩
   ·exact h2
   ·cases h1
theorem jb.take{w:World}{B:Nat}{A:Option Addr}{L:List (List UInt8)}(h:jb w B A L)(n:Nat):jb w B A (L.take n):=by
 rcases h with h|⟨b,o,h1,h2,h3,h4,h5⟩
 ·exact Or.inl (by rw[h];simp)
 ·exact Or.inr ⟨b,o,h1,h2,h3,fun j x hx=>h4 j x (by
   rw[List.getElem?_take]at hx;split at hx
   ·exact hx
   ·cases hx),h5⟩
theorem X4(A A':Option Addr)(L M:List (List UInt8))(c c':Nat)(w:World)(hL:L.length≤1000000)(hM:M.length≤1000000)(hS:jb w 0 A L)(hS':jb w 0 A' M):
 Calls prog 151 #[.slice A L.length c,.slice A' M.length c'] w fun e w'=>e= .returned (.bool (decide (L=M)))∧Below w.heap.size w w':=by
 by_cases hne:L.length=M.length
 ·rcases hS with h|⟨b,o,rfl,_,h3,h4,_⟩
  ·subst h;obtain rfl:M=[]:=List.length_eq_zero_iff.1 (by rw[←hne];rfl)
   refine(slices_Equal_string_empty A A' c 0 c' w (by omega)).mono fun e w' ⟨he,hw⟩=> ?_
   subst hw;exact⟨by rw[he];rfl,Below.refl _ _⟩
  ·rcases hS' with h|⟨b',o',rfl,_,h3',h4',_⟩
   ·subst h;obtain rfl:L=[]:=List.length_eq_zero_iff.1 hne
    refine(slices_Equal_string_empty (some ⟨b,o,none⟩) A' c 0 c' w (by omega)).mono fun e w' ⟨he,hw⟩=> ?_
    subst hw;exact⟨by rw[he];rfl,Below.refl _ _⟩
   ·have hg:∀(K:List (List UInt8)) (j:Nat),j<(K.map fun x=>(⟨x.toArray⟩:ByteArray)).length→∃x,K[j]? =some x∧(K.map fun x=>(⟨x.toArray⟩:ByteArray)).getD j ByteArray.empty=⟨x.toArray⟩:=fun K j hj=>by
     rw[List.length_map]at hj;refine⟨K[j],List.getElem?_eq_getElem hj,?_⟩;rw[List.getD_eq_getElem?_getD,List.getElem?_map,List.getElem?_eq_getElem hj];rfl
    have h:=slices_Equal_string b o L.length c b' o' M.length c' (L.map fun x=>⟨x.toArray⟩) (M.map fun x=>⟨x.toArray⟩) w (by simp) (by simp) (by omega) (by omega)
     (fun j hj=>by obtain⟨x,hx,hd⟩:=hg L j hj;rw[hd];exact h4 j x hx) (fun j hj=>by obtain⟨x,hx,hd⟩:=hg M j hj;rw[hd];exact h4' j x hx)
    refine h.mono fun e w' ⟨he,q,hw⟩=> ?_;subst hw;refine⟨?_,below_drewN (Below.refl _ _) _⟩;rw[he];apply zq
    rw[List.take_of_length_le (by simp),List.take_of_length_le (by simp)];have hinj:∀K N:List (List UInt8),(K.map fun x=>(⟨x.toArray⟩:ByteArray))=(N.map fun x=>(⟨x.toArray⟩:ByteArray))↔K=N:=fun K N=>by
     constructor
     ·intro h;have:=congrArg (List.map fun b:ByteArray=>b.data.toList) h
      simpa [Function.comp_def]using this
     ·intro h;rw[h]
    simp only[hinj]
 ·refine(slices_Equal_string_lens A A' L.length c M.length c' w hne).mono fun e w' ⟨he,hw⟩=> ?_
  subst hw;exact⟨by rw[he,decide_eq_false (fun h=>hne (by rw[h]))],Below.refl _ _⟩
def jS(G H:Option (List (List UInt8))):Bool:=
 match G,H with
 |some L,some M=>decide (M.length≤L.length)&&decide (L.take M.length=M)
 |_,_=>false
theorem yW(H:Option (List (List UInt8))):jS none H=false:=rfl
theorem yn(G:Option (List (List UInt8))):jS G none=false:=by cases G<;>rfl
theorem Qb(s t:ByteArray)(w:World)(hs:s.size≤100000)(ht:t.size≤100000)(hM:Mx w):
 Calls prog 105 #[.string s,.string t] w fun e w'=>e= .returned (.bool (jS (Np.pathL s.data.toList) (Np.pathL t.data.toList)))∧Below w.heap.size w w':=by
 have HM:=hid hM;clear hM
 cases hG:Np.pathL s.data.toList with
 |none=>
  rw[yW];have h1:=fun W hW=>YI s W hs hW hG;have H1:=hid h1;clear h1 hG
  cases hH:Np.pathL t.data.toList with
  |none=>
   have h2:=fun W hW=>YI t W ht hW hH;have H2:=hid h2;clear h2 hH;go_enter func105,ntmps105;go_wp2_with fail
   refine(H1.o _ HM.o).mono ?_
   rintro e w1 ⟨rfl,hb1⟩;have HM1:=hid (HM.o.keep hb1);go_wp2_with fail
   refine(H2.o _ HM1.o).mono ?_
   rintro e w2 ⟨rfl,hb2⟩;go_wp2;go_ret
   exact⟨rfl,hb1.trans (hb2.mono hb1.size)⟩
  |some M=>
   have h2:=fun W hW=>YH t M W ht hW hH;have H2:=hid h2;clear h2 hH;go_enter func105,ntmps105;go_wp2_with fail
   refine(H1.o _ HM.o).mono ?_
   rintro e w1 ⟨rfl,hb1⟩;have HM1:=hid (HM.o.keep hb1);go_wp2_with fail
   refine(H2.o _ HM1.o).mono ?_
   rintro e w2 ⟨A',c',rfl,hc',hS',hb2⟩;clear hS';go_wp2;go_ret
   exact⟨rfl,hb1.trans (hb2.mono hb1.size)⟩
 |some L=>
  have h1:=fun W hW=>YH s L W hs hW hG;have hl6:=(jD hG).1;have H1:=hid h1;clear h1 hG
  cases hH:Np.pathL t.data.toList with
  |none=>
   rw[yn];have h2:=fun W hW=>YI t W ht hW hH;have H2:=hid h2;clear h2 hH;go_enter func105,ntmps105;go_wp2_with fail
   refine(H1.o _ HM.o).mono ?_
   rintro e w1 ⟨A,c,rfl,hc,hS,hb1⟩;clear hS;have HM1:=hid (HM.o.keep hb1);go_wp2_with fail
   refine(H2.o _ HM1.o).mono ?_
   rintro e w2 ⟨rfl,hb2⟩;go_wp2;go_ret
   exact⟨rfl,hb1.trans (hb2.mono hb1.size)⟩
  |some M=>
   have h2:=fun W hW=>YH t M W ht hW hH;have hm6:=(jD hH).1;have H2:=hid h2;clear h2 hH;by_cases hle:M.length≤L.length
   ·have hfin:jS (some L) (some M)=decide (L.take M.length=M):=by
     show(decide (M.length≤L.length)&&decide (L.take M.length=M))=_
     rw[decide_eq_true hle];rfl
    rw[hfin];clear hfin;have hq:=fun A A' c c' W=>X4 A A' (L.take M.length) M c c' W (by simp;omega) (by omega);rw[List.length_take,Nat.min_eq_left hle]at hq;obtain⟨r,hr⟩:=nm (decide (L.take M.length=M));rw[←hr]at hq⊢;clear hr;have HQ:=hid hq;clear hq;go_enter func105,ntmps105;go_wp2_with fail
    refine(H1.o _ HM.o).mono ?_
    rintro e w1 ⟨A,c,rfl,hc,hS,hb1⟩;have HM1:=hid (HM.o.keep hb1);have HS:=hid hS;clear hS;go_wp2_with fail
    refine(H2.o _ HM1.o).mono ?_
    rintro e w2 ⟨A',c',rfl,hc',hS',hb2⟩;have HS2:=hid (((HS.o.keep hb2).low (Nat.zero_le _)).take M.length);have HS':Hid (jb w2 0 A' M):=hid (hS'.low (Nat.zero_le _));clear hS';have hi1:(M.length:Int)≤c:=by omega
    go_wp2_with fail
    refine(HQ.o _ _ _ _ _ HS2.o (HS'.o.low (Nat.zero_le _))).mono ?_
    rintro e w3 ⟨rfl,hb3⟩;go_wp2;go_ret
    exact⟨rfl,(hb1.trans (hb2.mono hb1.size)).trans (hb3.mono (by have:=hb1.size;have:=hb2.size;omega))⟩
   ·have hfin:jS (some L) (some M)=false:=by
     show(decide (M.length≤L.length)&&decide (L.take M.length=M))=_
     rw[decide_eq_false hle];rfl
    rw[hfin];clear hfin;go_enter func105,ntmps105;go_wp2_with fail
    refine(H1.o _ HM.o).mono ?_
    rintro e w1 ⟨A,c,rfl,hc,hS,hb1⟩;clear hS;have HM1:=hid (HM.o.keep hb1);go_wp2_with fail
    refine(H2.o _ HM1.o).mono ?_
    rintro e w2 ⟨A',c',rfl,hc',hS',hb2⟩;clear hS';go_wp2;go_ret
    exact⟨rfl,hb1.trans (hb2.mono hb1.size)⟩
theorem Qa{L M:List (List UInt8)}{k:Nat}(hk:k+1≤M.length)(h:L.take M.length=M):L.take (k+1)=M.take (k+1):=by
 have h2:=congrArg (List.take (k+1)) h;rwa [List.take_take,Nat.min_eq_left hk]at h2
theorem ZQ(s t:ByteArray)(w:World)(hs:s.size≤100000)(ht:t.size≤100000):
 Calls prog 138 #[.string s,.string t] w fun e w'=>e= .returned (.bool (jS (Np.pathL s.data.toList) (Np.pathL t.data.toList)))∧Below w.heap.size w w':=by
 cases hG:Np.pathL s.data.toList with
 |none=>
  rw[yW];have h1:=fun W=>vp s W hs hG;have H1:=hid h1;clear h1 hG
  cases hH:Np.pathL t.data.toList with
  |none=>
   have h2:=fun W=>vp t W ht hH;have H2:=hid h2;clear h2 hH;go_enter func138,ntmps138;go_wp2_with fail
   refine(H1.o _).mono ?_
   rintro e w1 ⟨rfl,hb1⟩;go_wp2_with fail
   refine(H2.o _).mono ?_
   rintro e w2 ⟨rfl,hb2⟩;go_wp2;go_ret
   exact⟨rfl,hb1.trans (hb2.mono hb1.size)⟩
  |some M=>
   have h2:=fun W=>yD t M W ht hH;have H2:=hid h2;clear h2 hH;go_enter func138,ntmps138;go_wp2_with fail
   refine(H1.o _).mono ?_
   rintro e w1 ⟨rfl,hb1⟩;go_wp2_with fail
   refine(H2.o _).mono ?_
   rintro e w2 ⟨A',c',rfl,hc',hS',hb2⟩;clear hS';go_wp2;go_ret
   exact⟨rfl,hb1.trans (hb2.mono hb1.size)⟩
 |some L=>
  have h1:=fun W=>yD s L W hs hG;have hl6:=(jD hG).1;have H1:=hid h1;clear h1 hG
  cases hH:Np.pathL t.data.toList with
  |none=>
   rw[yn];have h2:=fun W=>vp t W ht hH;have H2:=hid h2;clear h2 hH;go_enter func138,ntmps138;go_wp2_with fail
   refine(H1.o _).mono ?_
   rintro e w1 ⟨A,c,rfl,hc,hS,hb1⟩;clear hS;go_wp2_with fail
   refine(H2.o _).mono ?_
   rintro e w2 ⟨rfl,hb2⟩;go_wp2;go_ret
   exact⟨rfl,hb1.trans (hb2.mono hb1.size)⟩
  |some M=>
   have h2:=fun W=>yD t M W ht hH;have hm6:=(jD hH).1;have H2:=hid h2;clear h2 hH;by_cases hle:M.length≤L.length
   ·have hfin:jS (some L) (some M)=decide (L.take M.length=M):=by
     show(decide (M.length≤L.length)&&decide (L.take M.length=M))=_
     rw[decide_eq_true hle];rfl
    rw[hfin];clear hfin;obtain⟨n,hn⟩:=nm L.length;obtain⟨m,hm⟩:=nm M.length;have Hn:=hid hn;have Hm:=hid hm;have hle1:(m:Int)≤n:=by omega
    have hn6:n≤6:=by omega
    obtain⟨r,hr⟩:=nm (decide (L.take M.length=M));rw[←hr];have Hr:=hid hr;clear hr hn hm;clear hle hl6 hm6;go_enter func138,ntmps138;go_wp2_with fail
    refine(H1.o _).mono ?_
    rintro e w1 ⟨A,c,rfl,hc,hS,hb1⟩;have HS:=hid hS;clear hS;rw[←Hn.o]at hc⊢;go_wp2_with fail
    refine(H2.o _).mono ?_
    rintro e w2 ⟨A',c',rfl,hc',hS',hb2⟩;have HS2:=hid ((HS.o.keep hb2).low (Nat.zero_le _));have HS':Hid (jb w2 0 A' M):=hid (hS'.low (Nat.zero_le _));clear hS';rw[←Hm.o]at hc'⊢;have hB2:Below w.heap.size w w2:=hb1.trans (hb2.mono hb1.size);clear hb1 hb2 HS;go_wp2;go_loopw[9] (fun i wr=>∃k:Nat,k≤m∧i= .int .i64 k∧Hid (L.take k=M.take k)∧Below w2.heap.size w2 wr) (fun i _=>m-(intOf i).toNat)
    case atStart=>exact⟨0,by omega,rfl,by show L.take 0=M.take 0;simp,Below.refl _ _⟩
    case round=>
     obtain⟨k,hk,rfl,hok,hbw⟩:=hrel;have hB3:Below w.heap.size w wr:=hB2.trans (hbw.mono hB2.size);by_cases hlt:k<m
     ·have hkL:k<L.length:=by have:=Hn.o;omega
      have hkM:k<M.length:=by have:=Hm.o;omega
      obtain⟨x,hx⟩:∃x,L[k]? =some x:=⟨_,List.getElem?_eq_getElem hkL⟩;obtain⟨y,hy⟩:∃y,M[k]? =some y:=⟨_,List.getElem?_eq_getElem hkM⟩;rcases HS2.o with h|⟨b,o,rfl,h2,h3,h4,_⟩
      ·subst h;simp at hkL
      rcases HS'.o with h|⟨b',o',rfl,h2',h3',h4',_⟩
      ·subst h;simp at hkM
      have hc:wr.cell? ⟨b,o+k,none⟩=some (.string ⟨x.toArray⟩):=(hbw.cell (p:=⟨b,o+k,none⟩) h3).trans (h4 k x hx);have hc':wr.cell? ⟨b',o'+k,none⟩=some (.string ⟨y.toArray⟩):=(hbw.cell (p:=⟨b',o'+k,none⟩) h3').trans (h4' k y hy);have hiff:=uq hok.o hx hy;have Hiff:=hid hiff;have Hk:=hid hkM;clear h4 h4' hx hy hiff hkL hkM;have hk1:(0:Int)≤k:=by omega
      have hk2:(k:Int)<n:=by omega
      have hk3:(k:Int)<m:=by omega
      go_wp2;go_quiet (fail)
      go_wp2
      ·have hne:(!x==y)=true:=by assumption
       have hxy:¬x=y:=by simpa using hne
       go_ret
       refine⟨zq ?_,below_drewN hB3 _⟩;rw[Hr.o];symm
       exact decide_eq_false fun h=>hxy (Hiff.o.1 (Qa Hk.o h))
      ·have hne:(!x==y)=false:=by assumption
       have hxy:x=y:=by simpa using hne
       go_roundw
       case rel=>exact⟨k+1,by omega,by go_num,Hiff.o.2 hxy,below_drewN hbw _⟩
       case measure=>simp[intOf];omega
     ·go_wp2;go_ret
      refine⟨zq ?_,hB3⟩;have:=hok.o
      rw[show k=M.length by have:=Hm.o;omega,List.take_length]at this;rw[Hr.o,decide_eq_true this]
   ·have hfin:jS (some L) (some M)=false:=by
     show(decide (M.length≤L.length)&&decide (L.take M.length=M))=_
     rw[decide_eq_false hle];rfl
    rw[hfin];clear hfin;have hle1:(L.length:Int)<M.length:=by omega
    go_enter func138,ntmps138;go_wp2_with fail
    refine(H1.o _).mono ?_
    rintro e w1 ⟨A,c,rfl,hc,hS,hb1⟩;clear hS;go_wp2_with fail
    refine(H2.o _).mono ?_
    rintro e w2 ⟨A',c',rfl,hc',hS',hb2⟩;clear hS';go_wp2;go_ret
    exact⟨rfl,hb1.trans (hb2.mono hb1.size)⟩
namespace Pz
structure Nd where
 dir:Bool
 data:List UInt8
 links:Int
structure En where
 dir:Nat
 name:List UInt8
 node:Nat
structure Op where
 client:Int
 fd:Int
 node:Nat
structure Fil where
 N:List Nd
 E:List En
 O:List Op
def look:List En→Nat→List UInt8→Int
 |[],_,_=> -1
 |e::r,i,x=>if e.dir=i∧e.name=x then(e.node:Int)else look r i x
def ofd:List Op→Int→Int→Int
 |[],_,_=> -1
 |o::r,c,fd=>if o.client=c∧o.fd=fd then(o.node:Int)else ofd r c fd
def count(E:List En)(i:Nat):Nat:=(E.filter fun e=>e.dir==i).length
def take(E:List En)(i:Nat)(x:List UInt8):List En:=E.filter fun e=>decide (¬(e.dir=i∧e.name=x))
theorem take_step{E:List En}{k:Nat}{e:En}{i:Nat}{x:List UInt8}(he:E[k]? =some e):take (E.take (k+1)) i x=take (E.take k) i x++(if e.dir=i∧e.name=x then[]else[e]):=by
 unfold take;rw[List.take_add_one,he,List.filter_append];by_cases h:e.dir=i∧e.name=x
 ·rw[if_pos h];simp[h]
 ·rw[if_neg h];congr 1
  show List.filter _ [e]=[e]
  rw[List.filter_cons,if_pos (decide_eq_true h)];rfl
theorem take_le(E:List En)(i:Nat)(x:List UInt8):(take E i x).length≤E.length:=List.length_filter_le _ _
def drop(O:List Op)(c:Int):List Op:=O.filter fun o=>decide (¬o.client=c)
theorem drop_step{O:List Op}{k:Nat}{o:Op}{c:Int}(ho:O[k]? =some o):drop (O.take (k+1)) c=drop (O.take k) c++(if o.client=c then[]else[o]):=by
 unfold drop;rw[List.take_add_one,ho,List.filter_append];by_cases h:o.client=c
 ·rw[if_pos h];simp[h]
 ·rw[if_neg h];congr 1
  show List.filter _ [o]=[o]
  rw[List.filter_cons,if_pos (decide_eq_true h)];rfl
def shut(O:List Op)(c fd:Int):List Op:=O.filter fun o=>decide (¬(o.client=c∧o.fd=fd))
theorem shut_step{O:List Op}{k:Nat}{o:Op}{c fd:Int}(ho:O[k]? =some o):shut (O.take (k+1)) c fd=shut (O.take k) c fd++(if o.client=c∧o.fd=fd then[]else[o]):=by
 unfold shut;rw[List.take_add_one,ho,List.filter_append];by_cases h:o.client=c∧o.fd=fd
 ·rw[if_pos h];simp[h]
 ·rw[if_neg h];congr 1
  show List.filter _ [o]=[o]
  rw[List.filter_cons,if_pos (decide_eq_true h)];rfl
theorem look_at{E:List En}{k:Nat}{e:En}{i:Nat}{x:List UInt8}(he:E[k]? =some e):look (E.drop k) i x=if e.dir=i∧e.name=x then(e.node:Int)else look (E.drop (k+1)) i x:=by
 obtain⟨h,h2⟩:=List.getElem?_eq_some_iff.1 he;rw[List.drop_eq_getElem_cons h,h2,look]
theorem ofd_at{O:List Op}{k:Nat}{o:Op}{c fd:Int}(ho:O[k]? =some o):ofd (O.drop k) c fd=if o.client=c∧o.fd=fd then(o.node:Int)else ofd (O.drop (k+1)) c fd:=by
 obtain⟨h,h2⟩:=List.getElem?_eq_some_iff.1 ho;rw[List.drop_eq_getElem_cons h,h2,ofd]
theorem count_step{E:List En}{k:Nat}{e:En}{i:Nat}(he:E[k]? =some e):count (E.take (k+1)) i=count (E.take k) i+if e.dir=i then 1 else 0:=by
 unfold count;rw[List.take_add_one,he,List.filter_append,List.length_append];by_cases h:e.dir=i
 ·simp[h]
 ·simp[h]
def isDir(N:List Nd)(n:Nat):Bool:=match N[n]? with|some x=>x.dir|none=>false
def walk(S:Fil):Nat→List (List UInt8)→Except Int Nat
 |n,[]=> .ok n
 |n,x::r=>if isDir S.N n then(if look S.E n x<0 then .error 10 else walk S (look S.E n x).toNat r)else .error 12
def find(S:Fil)(p:List UInt8):Except Int Nat:=match Np.pathL p with|none=> .error 15|some L=>walk S 0 L
def placeOn(S:Fil)(x:List UInt8):Except Int Nat→Except Int (Nat×List UInt8)
 | .error e=> .error e
 | .ok n=>if isDir S.N n then .ok (n,x)else .error 12
def place(S:Fil)(p:List UInt8):Except Int (Nat×List UInt8):=
 match Np.pathL p with
 |none=> .error 15
 |some L=>match L.getLast? with
  |none=> .error 15
  |some x=>placeOn S x (walk S 0 L.dropLast)
def placeD:Except Int (Nat×List UInt8)→Nat×List UInt8
 | .error _=>(0,[])
 | .ok q=>q
def rmdir(S:Fil)(p:List UInt8):Fil×Int:=
 if p=[47]then(S,15)else
 match find S p with
 | .error e=>(S,e)
 | .ok n=>if isDir S.N n then(if 0<count S.E n then(S,14)else({S with E:=take S.E (placeD (place S p)).1 (placeD (place S p)).2},0))else(S,12)
structure Ok(S:Fil):Prop where
 root:0<S.N.length
 ent:∀e∈S.E,e.dir<S.N.length∧e.node<S.N.length
 opn:∀o∈S.O,o.node<S.N.length
theorem look_lt{n:Nat}{i:Nat}{x:List UInt8}:∀{E:List En},(∀e∈E,e.dir<n∧e.node<n)→look E i x<n
 |[],_=>by show(-1:Int)<_;omega
 |e::r,h=>by
  rw[look];split
  ·have:=(h e (List.mem_cons_self ..)).2;omega
  ·exact look_lt fun e he=>h e (List.mem_cons_of_mem _ he)
theorem ofd_lt{n:Nat}{c fd:Int}:∀{O:List Op},(∀o∈O,o.node<n)→ofd O c fd<n
 |[],_=>by show(-1:Int)<_;omega
 |o::r,h=>by
  rw[ofd];split
  ·have:=h o (List.mem_cons_self ..);omega
  ·exact ofd_lt fun e he=>h e (List.mem_cons_of_mem _ he)
theorem look_ge{i:Nat}{x:List UInt8}:∀{E:List En},-1≤look E i x
 |[]=>by show(-1:Int)≤ -1;omega
 |e::r=>by
  rw[look];split
  ·omega
  ·exact look_ge
theorem walk_lt{S:Fil}(h:Ok S):∀{L:List (List UInt8)} {n m:Nat},n<S.N.length→walk S n L= .ok m→m<S.N.length
 |[],n,m,hn,hw=>by cases hw;exact hn
 |x::r,n,m,hn,hw=>by
  rw[walk]at hw;split at hw
  ·split at hw
   ·cases hw
   ·have:=look_lt (i:=n) (x:=x) h.ent
    exact walk_lt h (by omega) hw
  ·cases hw
theorem walk_err{S:Fil}:∀{L:List (List UInt8)} {n:Nat} {e:Int},walk S n L= .error e→e=10∨e=12
 |[],n,e,hw=>by cases hw
 |x::r,n,e,hw=>by
  rw[walk]at hw;split at hw
  ·split at hw
   ·cases hw;exact Or.inl rfl
   ·exact walk_err hw
  ·cases hw;exact Or.inr rfl
theorem find_lt{S:Fil}(h:Ok S){p:List UInt8}{m:Nat}(hf:find S p= .ok m):m<S.N.length:=by
 unfold find at hf;split at hf
 ·cases hf
 ·exact walk_lt h h.root hf
theorem find_err{S:Fil}{p:List UInt8}{e:Int}(hf:find S p= .error e):e=10∨e=12∨e=15:=by
 unfold find at hf;split at hf
 ·cases hf;exact Or.inr (Or.inr rfl)
 ·rcases walk_err hf with h|h
  ·exact Or.inl h
  ·exact Or.inr (Or.inl h)
def sized(s:List UInt8)(n:Nat):List UInt8:=s.take n++List.replicate (n-s.length) 0
theorem sized_len(s:List UInt8)(n:Nat):(sized s n).length=n:=by
 unfold sized;rw[List.length_append,List.length_take,List.length_replicate];omega
def three{α:Type}{V:Type}(f g h:α→V)(L:List α):List V:=L.flatMap fun x=>[f x,g x,h x]
theorem three_get{α V:Type}(f g h:α→V):∀(L:List α) (k:Nat) (x:α),L[k]? =some x→(three f g h L)[k*3]? =some (f x)∧(three f g h L)[k*3+1]? =some (g x)∧(three f g h L)[k*3+2]? =some (h x)
 |[],k,x,hx=>by simp at hx
 |a::r,0,x,hx=>by
  simp at hx
  subst hx;exact⟨rfl,rfl,rfl⟩
 |a::r,k+1,x,hx=>by
  have:=three_get f g h r k x (by simpa using hx)
  have e:∀j,(three f g h (a::r))[(k+1)*3+j]? =(three f g h r)[k*3+j]? :=fun j=>by
   unfold three;rw[List.flatMap_cons,List.getElem?_append_right (by simp;omega)];congr 1
   simp;omega
  exact⟨(e 0).trans this.1,(e 1).trans this.2.1,(e 2).trans this.2.2⟩
theorem three_snoc{α V:Type}(f g h:α→V)(L:List α)(x:α):three f g h (L++[x])=three f g h L++[f x,g x,h x]:=by
 unfold three;rw[List.flatMap_append];simp
theorem three_set1{α V:Type}(f g h:α→V):∀(L:List α) (k:Nat) (x y:α),L[k]? =some x→f y=f x→h y=h x→(three f g h L).set (k*3+1) (g y)=three f g h (L.set k y)
 |[],k,x,y,hx,_,_=>by simp at hx
 |a::r,0,x,y,hx,hf,hh=>by
  simp at hx
  subst hx;unfold three;simp[hf,hh]
 |a::r,k+1,x,y,hx,hf,hh=>by
  have:=three_set1 f g h r k x y (by simpa using hx) hf hh
  unfold three at this⊢;rw[List.set_cons_succ,List.flatMap_cons,List.flatMap_cons,←this,show(k+1)*3+1=(k*3+1)+3 by omega];rfl
theorem three_set2{α V:Type}(f g h:α→V):∀(L:List α) (k:Nat) (x y:α),L[k]? =some x→f y=f x→g y=g x→(three f g h L).set (k*3+2) (h y)=three f g h (L.set k y)
 |[],k,x,y,hx,_,_=>by simp at hx
 |a::r,0,x,y,hx,hf,hh=>by
  simp at hx
  subst hx;unfold three;simp[hf,hh]
 |a::r,k+1,x,y,hx,hf,hh=>by
  have:=three_set2 f g h r k x y (by simpa using hx) hf hh
  unfold three at this⊢;rw[List.set_cons_succ,List.flatMap_cons,List.flatMap_cons,←this,show(k+1)*3+2=(k*3+2)+3 by omega];rfl
end Pz
def cN(L:List Pz.Nd):List Value:=Pz.three (fun x=> .bool x.dir) (fun x=> .string ⟨x.data.toArray⟩) (fun x=> .int .i64 x.links) L
def cE(L:List Pz.En):List Value:=Pz.three (fun x=> .int .i64 x.dir) (fun x=> .string ⟨x.name.toArray⟩) (fun x=> .int .i64 x.node) L
def cO(L:List Pz.Op):List Value:=Pz.three (fun x=> .int .i64 x.client) (fun x=> .int .i64 x.fd) (fun x=> .int .i64 x.node) L
structure qy(w:World)(B r:Nat)(vN vE vO:Value)(S:Pz.Fil):Prop where
 lo:B≤r
 lt:r<w.heap.size
 c0:w.cell? ⟨r,0,none⟩=some vN
 c1:w.cell? ⟨r,1,none⟩=some vE
 c2:w.cell? ⟨r,2,none⟩=some vO
 fr:∀j,w.frozen? ⟨r,j,none⟩=false
 oN:w.ownsRow B 145 3 vN S.N.length (cN S.N)
 oE:w.ownsRow B 198 3 vE S.E.length (cE S.E)
 oO:w.ownsRow B 147 3 vO S.O.length (cO S.O)
 aN:vN.ownBlock≠some r
 aE:vE.ownBlock≠some r
 aO:vO.ownBlock≠some r
 nE:vN.ownBlock=none∨vN.ownBlock≠vE.ownBlock
 nO:vN.ownBlock=none∨vN.ownBlock≠vO.ownBlock
 eO:vE.ownBlock=none∨vE.ownBlock≠vO.ownBlock
def xd(w:World)(B r:Nat)(S:Pz.Fil):Prop:=∃vN vE vO,qy w B r vN vE vO S
theorem qR{w w':World}(h:Below w.heap.size w w'):w.grownBy w' none:=⟨h.os,h.tape,h.output,h.size,fun k hk _=>h.block k hk⟩
theorem qy.keep{w w':World}{B r:Nat}{vN vE vO:Value}{S:Pz.Fil}(h:qy w B r vN vE vO S)(hb:Below w.heap.size w w'):qy w' B r vN vE vO S:=
 {
  h with
  lt:=Nat.lt_of_lt_of_le h.lt hb.size
  c0:=(hb.cell (p:=⟨r,0,none⟩) h.lt).trans h.c0
  c1:=(hb.cell (p:=⟨r,1,none⟩) h.lt).trans h.c1
  c2:=(hb.cell (p:=⟨r,2,none⟩) h.lt).trans h.c2
  fr:=fun j=>(hb.frozen (p:=⟨r,j,none⟩) h.lt).trans (h.fr j)
  oN:=h.oN.kept (qR hb) (by cases hv:vN.ownBlock<;>simp)
  oE:=h.oE.kept (qR hb) (by cases hv:vE.ownBlock<;>simp)
  oO:=h.oO.kept (qR hb) (by cases hv:vO.ownBlock<;>simp)}
theorem xd.keep{w w':World}{B r:Nat}{S:Pz.Fil}(h:xd w B r S)(hb:Below w.heap.size w w'):xd w' B r S:=by
 obtain⟨vN,vE,vO,h⟩:=h;exact⟨vN,vE,vO,h.keep hb⟩
theorem qr{w:World}{B e:Nat}{v:Value}{α:Type}{f g h:α→Value}{L:List α}(hr:w.ownsRow B e 3 v L.length (Pz.three f g h L)):
 ∃A c,v= .slice A L.length c∧L.length≤c∧∀k x,L[k]? =some x→∃b,A=some ⟨b,0,none⟩∧B≤b∧b<w.heap.size∧w.cell? ⟨b,k*3,none⟩=some (f x)∧w.cell? ⟨b,k*3+1,none⟩=some (g x)∧w.cell? ⟨b,k*3+2,none⟩=some (h x)∧∀j,w.frozen? ⟨b,j,none⟩=false:=by
 have hr':=hr;rcases hr.2 with⟨rfl,h0⟩|⟨b,cap,cur,rfl,hb,hg,hc,_,_,_⟩
 ·refine⟨none,0,by rw[h0],by omega,fun k x hx=> ?_⟩;have:=(List.getElem?_eq_some_iff.1 hx).1
  omega
 ·refine⟨_,cap,rfl,hc,fun k x hx=> ?_⟩;have hk:=(List.getElem?_eq_some_iff.1 hx).1;obtain⟨h1,h2,h3⟩:=Pz.three_get f g h L k x hx;exact⟨b,rfl,hb,(Array.getElem?_eq_some_iff.1 hg).1,(hr'.cellAt _ (by omega)).trans h1,(hr'.cellAt _ (by omega)).trans h2,(hr'.cellAt _ (by omega)).trans h3,fun j=>hr'.frozenAt j⟩
theorem xx(B r:Nat)(S:Pz.Fil)(i:Nat)(s:ByteArray)(w:World)(hE:S.E.length≤1000000)(hR:xd w B r S):
 Calls prog 137 #[.pointer (some ⟨r,0,none⟩),.int .i64 i,.string s] w fun e w'=>e= .returned (.int .i64 (Pz.look S.E i s.data.toList))∧Below w.heap.size w w':=by
 obtain⟨vN,vE,vO,hR⟩:=hR;obtain⟨A,c,rfl,hc,hrow⟩:=qr hR.oE;have hc1:=hR.c1;have hlt:=hR.lt;have HR:=hid hrow;clear hrow hR hc;obtain⟨n,hn⟩:=nm S.E.length;rw[←hn]at hc1 hE;have Hn:=hid hn;clear hn;obtain⟨R,hRv⟩:=nm (Pz.look S.E i s.data.toList);rw[←hRv];have HV:=hid hRv;clear hRv;go_enter func137,ntmps137;go_wp2;go_loopw[7] (fun v wr=>∃k:Nat,k≤n∧v= .int .i64 k∧Hid (R=Pz.look (S.E.drop k) i s.data.toList)∧Below w.heap.size w wr) (fun v _=>n-(intOf v).toNat)
 case atStart=>exact⟨0,by omega,rfl,HV.o,Below.refl _ _⟩
 case round=>
  obtain⟨k,hk,rfl,hok,hbw⟩:=hrel;have hc1':wr.cell? ⟨r,1,none⟩=some (.slice A n c):=(hbw.cell (p:=⟨r,1,none⟩) hlt).trans hc1;by_cases hkn:k<n
  ·obtain⟨e,he⟩:∃e,S.E[k]? =some e:=⟨_,List.getElem?_eq_getElem (by have:=Hn.o;omega)⟩;obtain⟨b,rfl,_,hb,h0,h1,h2,_⟩:=HR.o k e he;have hst:=Pz.look_at (i:=i) (x:=s.data.toList) he;rw[←hok.o]at hst;have Hst:=hid hst;have g0:=(hbw.cell (p:=⟨b,k*3,none⟩) hb).trans h0;have g1:=(hbw.cell (p:=⟨b,k*3+1,none⟩) hb).trans h1;have g2:=(hbw.cell (p:=⟨b,k*3+2,none⟩) hb).trans h2;clear h0 h1 h2 he hst hc1;have hk1:(0:Int)≤k:=by omega
   have hk2:(k:Int)<n:=by omega
   go_wp2
   ·go_ret
    refine⟨qa ?_,hbw⟩;rw[Hst.o,if_pos ?_];refine⟨by
     have h1:(e.dir:Int)=i:=by assumption
     omega,?_⟩
    have h1:(e.name==s.toList)=true:=by assumption
    rw[←Lib.toList_data];exact eq_of_beq h1
   all_goals
    have hne:¬(e.dir=i∧e.name=s.data.toList):=by
     first
     |(have h1:(e.name==s.toList)=false:=by assumption
       rintro⟨_,h2⟩;rw[←Lib.toList_data]at h2;exact(beq_eq_false_iff_ne.1 h1) h2)
     |(have h1:¬(e.dir:Int)=i:=by assumption
       rintro⟨h2,_⟩;exact h1 (by rw[h2]))
    go_roundw
    case rel=>exact⟨k+1,by omega,by go_num,Hst.o.trans (if_neg hne),hbw⟩
    case measure=>simp[intOf];omega
  ·have hk2:(n:Int)≤k:=by omega
   go_wp2;go_ret
   refine⟨?_,hbw⟩;apply qa
   rw[hok.o,List.drop_of_length_le (by have:=Hn.o;omega)];rfl
theorem yG(B r:Nat)(S:Pz.Fil)(cl fd:Int)(w:World)(hE:S.O.length≤1000000)(hR:xd w B r S):
 Calls prog 77 #[.pointer (some ⟨r,0,none⟩),.int .i64 cl,.int .i64 fd] w fun e w'=>e= .returned (.int .i64 (Pz.ofd S.O cl fd))∧Below w.heap.size w w':=by
 obtain⟨vN,vE,vO,hR⟩:=hR;obtain⟨A,c,rfl,hc,hrow⟩:=qr hR.oO;have hc1:=hR.c2;have hlt:=hR.lt;have HR:=hid hrow;clear hrow hR hc;obtain⟨n,hn⟩:=nm S.O.length;rw[←hn]at hc1 hE;have Hn:=hid hn;clear hn;obtain⟨R,hRv⟩:=nm (Pz.ofd S.O cl fd);rw[←hRv];have HV:=hid hRv;clear hRv;go_enter func77,ntmps77;go_wp2;go_loopw[7] (fun v wr=>∃k:Nat,k≤n∧v= .int .i64 k∧Hid (R=Pz.ofd (S.O.drop k) cl fd)∧Below w.heap.size w wr) (fun v _=>n-(intOf v).toNat)
 case atStart=>exact⟨0,by omega,rfl,HV.o,Below.refl _ _⟩
 case round=>
  obtain⟨k,hk,rfl,hok,hbw⟩:=hrel;have hc1':wr.cell? ⟨r,2,none⟩=some (.slice A n c):=(hbw.cell (p:=⟨r,2,none⟩) hlt).trans hc1;by_cases hkn:k<n
  ·obtain⟨e,he⟩:∃e,S.O[k]? =some e:=⟨_,List.getElem?_eq_getElem (by have:=Hn.o;omega)⟩;obtain⟨b,rfl,_,hb,h0,h1,h2,_⟩:=HR.o k e he;have hst:=Pz.ofd_at (c:=cl) (fd:=fd) he;rw[←hok.o]at hst;have Hst:=hid hst;have g0:=(hbw.cell (p:=⟨b,k*3,none⟩) hb).trans h0;have g1:=(hbw.cell (p:=⟨b,k*3+1,none⟩) hb).trans h1;have g2:=(hbw.cell (p:=⟨b,k*3+2,none⟩) hb).trans h2;clear h0 h1 h2 he hst hc1;have hk1:(0:Int)≤k:=by omega
   have hk2:(k:Int)<n:=by omega
   go_wp2
   ·go_ret
    refine⟨qa ?_,hbw⟩;rw[Hst.o,if_pos ⟨by assumption,eq_of_beq (by assumption)⟩]
   all_goals
    have hne:¬(e.client=cl∧e.fd=fd):=by
     first
     |(have h1:¬e.client=cl:=by assumption
       rintro⟨h2,_⟩;exact h1 h2)
     |(have h1:(e.fd==fd)=false:=by assumption
       rintro⟨_,h2⟩;exact(beq_eq_false_iff_ne.1 h1) h2)
    go_roundw
    case rel=>exact⟨k+1,by omega,by go_num,Hst.o.trans (if_neg hne),hbw⟩
    case measure=>simp[intOf];omega
  ·have hk2:(n:Int)≤k:=by omega
   go_wp2;go_ret
   refine⟨?_,hbw⟩;apply qa
   rw[hok.o,List.drop_of_length_le (by have:=Hn.o;omega)];rfl
theorem qW(B r:Nat)(S:Pz.Fil)(i:Nat)(w:World)(hE:S.E.length≤1000000)(hR:xd w B r S):
 Calls prog 135 #[.pointer (some ⟨r,0,none⟩),.int .i64 i] w fun e w'=>e= .returned (.int .i64 (Pz.count S.E i))∧Below w.heap.size w w':=by
 obtain⟨vN,vE,vO,hR⟩:=hR;obtain⟨A,c,rfl,hc,hrow⟩:=qr hR.oE;have hc1:=hR.c1;have hlt:=hR.lt;have HR:=hid hrow;clear hrow hR hc;obtain⟨n,hn⟩:=nm S.E.length;rw[←hn]at hc1 hE;have Hn:=hid hn;clear hn;go_enter func135,ntmps135;go_wp2;go_loopw[5,6] (fun q v wr=>∃k m:Nat,k≤n∧m≤k∧v= .int .i64 k∧q= .int .i64 m∧Hid (m=Pz.count (S.E.take k) i)∧Below w.heap.size w wr) (fun _ v _=>n-(intOf v).toNat)
 case atStart=>exact⟨0,0,by omega,by omega,rfl,rfl,by show 0=Pz.count (S.E.take 0) i;rfl,Below.refl _ _⟩
 case round=>
  obtain⟨k,m,hk,hm,rfl,rfl,hok,hbw⟩:=hrel;have hc1':wr.cell? ⟨r,1,none⟩=some (.slice A n c):=(hbw.cell (p:=⟨r,1,none⟩) hlt).trans hc1;by_cases hkn:k<n
  ·obtain⟨e,he⟩:∃e,S.E[k]? =some e:=⟨_,List.getElem?_eq_getElem (by have:=Hn.o;omega)⟩;obtain⟨b,rfl,_,hb,h0,h1,h2,_⟩:=HR.o k e he;have hst:=Pz.count_step (i:=i) he;rw[←hok.o]at hst;have Hst:=hid hst;have g0:=(hbw.cell (p:=⟨b,k*3,none⟩) hb).trans h0;clear h0 h1 h2 he hst hc1;have hk1:(0:Int)≤k:=by omega
   have hk2:(k:Int)<n:=by omega
   go_wp2
   ·have h1:(e.dir:Int)=i:=eq_of_beq (by assumption);go_roundw
    case rel=>exact⟨k+1,m+1,by omega,by omega,by go_num,by go_num,by show _=_;rw[Hst.o,if_pos (by omega)],hbw⟩
    case measure=>simp[intOf];omega
   ·have h1:¬(e.dir:Int)=i:=beq_eq_false_iff_ne.1 (by assumption);go_roundw
    case rel=>exact⟨k+1,m,by omega,by omega,by go_num,by go_num,by show _=_;rw[Hst.o,if_neg (by omega)];rfl,hbw⟩
    case measure=>simp[intOf];omega
  ·have hk2:(n:Int)≤k:=by omega
   go_wp2;go_ret
   refine⟨?_,hbw⟩;apply qa
   have:=hok.o
   rw[List.take_of_length_le (by have:=Hn.o;omega)]at this;rw[this]
theorem JP{a b:Value}(h:a=b):Ending.returned a= .returned b:=by rw[h]
def toT:Except Int Nat→Value
 | .ok n=> .tuple #[.int .i64 n,.int .i64 0]
 | .error e=> .tuple #[.int .i64 0,.int .i64 e]
theorem QU{S:Pz.Fil}{n:Nat}{L:List (List UInt8)}{k:Nat}{x:List UInt8}(hx:L[k]? =some x):
 Pz.walk S n (L.drop k)=if Pz.isDir S.N n then(if Pz.look S.E n x<0 then .error 10 else Pz.walk S (Pz.look S.E n x).toNat (L.drop (k+1)))else .error 12:=by
 obtain⟨h,h2⟩:=List.getElem?_eq_some_iff.1 hx;rw[List.drop_eq_getElem_cons h,h2,Pz.walk]
theorem uC(B r:Nat)(S:Pz.Fil)(A:Option Addr)(L:List (List UInt8))(c B':Nat)(w:World)(hE:S.E.length≤1000000)(hN:S.N.length≤1000000)(hO:Pz.Ok S)(hL:L.length≤1000000)(hR:xd w B r S)(hS:jb w B' A L):
 Calls prog 134 #[.pointer (some ⟨r,0,none⟩),.slice A L.length c] w fun e w'=>e= .returned (toT (Pz.walk S 0 L))∧Below w.heap.size w w':=by
 have hk:=fun W W' (h:Below W.heap.size W W') (h2:xd W B r S)=>h2.keep h;obtain⟨vN,vE,vO,hA⟩:=id hR;obtain⟨A2,c2,rfl,hc2,hrow⟩:=qr hA.oN;have hc0:=hA.c0;have hlt:=hA.lt;have HRow:=hid hrow;have HR:=hid hR;clear hrow hA hR hc2;have HS:=hid hS;clear hS;have HK:=hid hO;have HE:=hid hE;have hroot:=hO.root;have hlk:=fun n x=>Pz.look_lt (n:=S.N.length) (i:=n) (x:=x) hO.ent;have HLK:=hid hlk;obtain⟨q,hq⟩:=nm S.N.length;rw[←hq]at hc0 hN hroot;have Hq:=hid hq;clear hO hE hlk hq;obtain⟨n,hn⟩:=nm L.length;rw[←hn]at hL⊢;have Hn:=hid hn;clear hn;obtain⟨R,hRv⟩:=nm (Pz.walk S 0 L);rw[←hRv];have HV:=hid hRv;clear hRv;go_enter func134,ntmps134;go_wp2;go_loopw[6,7] (fun u v wr=>∃k m:Nat,k≤n∧m<q∧v= .int .i64 k∧u= .int .i64 m∧Hid (R=Pz.walk S m (L.drop k))∧Below w.heap.size w wr) (fun _ v _=>n-(intOf v).toNat)
 case atStart=>exact⟨0,0,by omega,hroot,rfl,rfl,HV.o,Below.refl _ _⟩
 case round=>
  obtain⟨k,m,hkn,hm,rfl,rfl,hok,hbw⟩:=hrel;have hc0':wr.cell? ⟨r,0,none⟩=some (.slice A2 q c2):=(hbw.cell (p:=⟨r,0,none⟩) hlt).trans hc0;by_cases hlt2:k<n
  ·obtain⟨x,hx⟩:∃x,L[k]? =some x:=⟨_,List.getElem?_eq_getElem (by have:=Hn.o;omega)⟩;obtain⟨nd,hnd⟩:∃nd,S.N[m]? =some nd:=⟨_,List.getElem?_eq_getElem (by have:=Hq.o;omega)⟩;obtain⟨b,rfl,_,hb,h0,h1,h2,_⟩:=HRow.o m nd hnd;have g0:=(hbw.cell (p:=⟨b,m*3,none⟩) hb).trans h0;clear h0 h1 h2;have hst:=QU (S:=S) (n:=m) hx;rw[←hok.o,show Pz.isDir S.N m=nd.dir by unfold Pz.isDir;rw[hnd]]at hst;have hcx:∃b o,A=some ⟨b,o,none⟩∧wr.cell? ⟨b,o+k,none⟩=some (.string ⟨x.toArray⟩):=by
    rcases HS.o with h|⟨b,o,h1,_,h3,h4,_⟩
    ·rw[h]at hx;cases hx
    ·exact⟨b,o,h1,(hbw.cell (p:=⟨b,o+k,none⟩) h3).trans (h4 k x hx)⟩
   obtain⟨b2,o2,rfl,hcx⟩:=hcx;have hl:=xx B r S m ⟨x.toArray⟩ wr HE.o (HR.o.keep hbw);rw[show(⟨x.toArray⟩:ByteArray).data.toList=x from rfl]at hl;have hlq:=HLK.o m x;have hlg:=Pz.look_ge (E:=S.E) (i:=m) (x:=x);rw[←Hq.o]at hlq;obtain⟨z,hz⟩:=nm (Pz.look S.E m x);rw[←hz]at hl hst hlq hlg;clear hz;have HL:=hid hl;clear hl hx hnd;have hk1:(0:Int)≤k:=by omega
   have hk2:(k:Int)<n:=by omega
   have hm1:(0:Int)≤m:=by omega
   have hm2:(m:Int)<q:=by omega
   cases hd:nd.dir with
   |false=>
    rw[hd]at g0 hst;have Hst:=hid hst;clear hst;go_wp2;go_ret2
    exact⟨JP (by rw[Hst.o];rfl),hbw⟩
   |true=>
    rw[hd]at g0 hst;by_cases hz0:z<0
    ·rw[if_pos rfl,if_pos hz0]at hst;have Hst:=hid hst;clear hst;go_wp2_with(go_at_call 137;refine HL.o.mono ?_;rintro e w2 ⟨rfl,hb2⟩)
     go_ret2
     exact⟨JP (by rw[Hst.o];rfl),hbw.trans (hb2.mono hbw.size)⟩
    ·rw[if_pos rfl,if_neg hz0]at hst;have Hst:=hid hst;clear hst;have hz1:(0:Int)≤z:=by omega
     go_wp2_with(go_at_call 137;refine HL.o.mono ?_;rintro e w2 ⟨rfl,hb2⟩)
     go_roundw
     case rel=>exact⟨k+1,z.toNat,by omega,by omega,by go_num,by rw[Int.toNat_of_nonneg hz1],Hst.o,hbw.trans (hb2.mono hbw.size)⟩
     case measure=>simp[intOf];omega
  ·have hk2:(n:Int)≤k:=by omega
   go_wp2;go_ret2
   refine⟨JP ?_,hbw⟩;have:=hok.o
   rw[List.drop_of_length_le (by have:=Hn.o;omega),Pz.walk]at this;rw[this];rfl
def toP:Except Int (Nat×List UInt8)→Value
 | .ok (n,x)=> .tuple #[.int .i64 n,.string ⟨x.toArray⟩,.int .i64 0]
 | .error e=> .tuple #[.int .i64 0,.string ⟨#[]⟩,.int .i64 e]
theorem jp(B r:Nat)(S:Pz.Fil)(s:ByteArray)(w:World)(hs:s.size≤100000)(hE:S.E.length≤1000000)(hN:S.N.length≤1000000)(hO:Pz.Ok S)(hR:xd w B r S):
 Calls prog 79 #[.pointer (some ⟨r,0,none⟩),.string s] w fun e w'=>e= .returned (toT (Pz.find S s.data.toList))∧Below w.heap.size w w':=by
 unfold Pz.find;have HR:=hid hR;clear hR
 cases hG:Np.pathL s.data.toList with
 |none=>
  have h1:=fun W=>vp s W hs hG;have H1:=hid h1;clear h1 hG;show Calls _ _ _ _ fun e w'=>e= .returned (.tuple #[.int .i64 0,.int .i64 15])∧_
  clear HR hO;go_enter func79,ntmps79;go_wp2_with fail
  refine(H1.o _).mono ?_
  rintro e w1 ⟨rfl,hb1⟩;go_wp2;go_ret2
  exact⟨rfl,hb1⟩
 |some L=>
  have h1:=fun W=>yD s L W hs hG;have hl6:=(jD hG).1;have h2:=fun A c B' W hR hS=>uC B r S A L c B' W hE hN hO (by omega) hR hS;have H1:=hid h1;clear h1 hG;have H2:=hid h2;clear h2 hO;show Calls _ _ _ _ fun e w'=>e= .returned (toT (Pz.walk S 0 L))∧_
  obtain⟨R,hRv⟩:=nm (Pz.walk S 0 L);rw[←hRv]at H2⊢;clear hRv
  cases R with
  |ok m=>
   simp only[toT]at H2⊢;go_enter func79,ntmps79;go_wp2_with fail
   refine(H1.o _).mono ?_
   rintro e w1 ⟨A,c,rfl,hc,hS,hb1⟩;have HS:=hid hS;clear hS;go_wp2_with fail
   refine(H2.o _ _ _ _ (HR.o.keep hb1) HS.o).mono ?_
   rintro e w2 ⟨rfl,hb2⟩;go_wp2;go_ret2
   exact⟨rfl,hb1.trans (hb2.mono hb1.size)⟩
  |error v=>
   simp only[toT]at H2⊢;go_enter func79,ntmps79;go_wp2_with fail
   refine(H1.o _).mono ?_
   rintro e w1 ⟨A,c,rfl,hc,hS,hb1⟩;have HS:=hid hS;clear hS;go_wp2_with fail
   refine(H2.o _ _ _ _ (HR.o.keep hb1) HS.o).mono ?_
   rintro e w2 ⟨rfl,hb2⟩;go_wp2;go_ret2
   exact⟨rfl,hb1.trans (hb2.mono hb1.size)⟩
theorem place_some{S:Pz.Fil}{p:List UInt8}{L:List (List UInt8)}{x:List UInt8}(h:Np.pathL p=some (L++[x])):
 Pz.place S p=Pz.placeOn S x (Pz.walk S 0 L):=by
 unfold Pz.place;rw[h];simp only[List.getLast?_concat,List.dropLast_concat]
theorem place_none{S:Pz.Fil}{p:List UInt8}(h:Np.pathL p=none∨Np.pathL p=some []):Pz.place S p= .error 15:=by
 unfold Pz.place;rcases h with h|h<;>rw[h]<;>rfl
theorem jn(B r:Nat)(S:Pz.Fil)(s:ByteArray)(w:World)(hs:s.size≤100000)(hE:S.E.length≤1000000)(hN:S.N.length≤1000000)(hO:Pz.Ok S)(hR:xd w B r S):
 Calls prog 80 #[.pointer (some ⟨r,0,none⟩),.string s] w fun e w'=>e= .returned (toP (Pz.place S s.data.toList))∧Below w.heap.size w w':=by
 have HR:=hid hR;rcases Classical.em (Np.pathL s.data.toList=none)with hG|hG
 ·rw[place_none (Or.inl hG)];have h1:=fun W=>vp s W hs hG;have H1:=hid h1;clear h1 hG hO HR hR;simp only[toP];go_enter func80,ntmps80;go_wp2_with fail
  refine(H1.o _).mono ?_
  rintro e w1 ⟨rfl,hb1⟩;go_wp2;go_ret3
  exact⟨rfl,hb1⟩
 rcases Classical.em (Np.pathL s.data.toList=some [])with hG2|hG2
 ·rw[place_none (Or.inr hG2)];have h1:=fun W=>yD s [] W hs hG2;have H1:=hid h1;clear h1 hG2 hG hO HR hR;simp only[toP];go_enter func80,ntmps80;go_wp2_with fail
  refine(H1.o _).mono ?_
  rintro e w1 ⟨A,c,rfl,hc,hS,hb1⟩;clear hS;go_wp2;go_ret3
  exact⟨rfl,hb1⟩
 obtain⟨L,x,hL⟩:∃L x,Np.pathL s.data.toList=some (L++[x]):=by
  cases h:Np.pathL s.data.toList with
  |none=>exact absurd h hG
  |some M=>
   have hne:M≠[]:=fun e=>hG2 (by rw[h,e]);exact⟨M.dropLast,M.getLast hne,by rw[List.dropLast_concat_getLast hne]⟩
 rw[place_some hL];have hl6:=(jD hL).1;rw[List.length_append,List.length_singleton]at hl6;have h1:=fun W=>yD s (L++[x]) W hs hL;have h2:=fun A c B' W hR hS=>uC B r S A L c B' W hE hN hO (by omega) hR hS;have hwl:=fun m h=>Pz.walk_lt hO (L:=L) (n:=0) (m:=m) hO.root h;have hwe:=fun e h=>Pz.walk_err (S:=S) (L:=L) (n:=0) (e:=e) h;obtain⟨n,hn⟩:=nm L.length;have hn6:n≤6:=by omega
 have hn1:(L++[x]).length=n+1:=by simp[hn]
 have hP:∀W,Calls prog 27 #[.string s] W fun e w'=>∃b o c,e= .returned (.tuple #[.slice (some ⟨b,o,none⟩) (n+1) c,.int .i64 0])∧n+1≤c∧w'.cell? ⟨b,o+n,none⟩=some (.string ⟨x.toArray⟩)∧jb w' 0 (some ⟨b,o,none⟩) L∧b<w'.heap.size∧Below W.heap.size W w':=fun W=>by
  refine(h1 W).mono fun e w' ⟨A,c,he,hc,hS,hB⟩=> ?_
  rcases hS with h0|⟨b,o,rfl,h1,h2,h3,h4⟩
  ·simp at h0
  ·exact⟨b,o,c,by rw[he,hn1],by rw[←hn1];exact hc,h3 n x (by rw[hn];simp),Or.inr ⟨b,o,rfl,Nat.zero_le _,h2,fun j y hy=>h3 j y (by rw[List.getElem?_append_left (List.getElem?_eq_some_iff.1 hy).1];exact hy),h4⟩,h2,hB⟩
 rw[←hn]at h2;have H1:=hid hP;have H2:=hid h2;have HWL:=hid hwl;have HWE:=hid hwe;clear hP h1 h2 hwl hwe hL hG hG2 hn hn1;clear hl6;obtain⟨R,hRv⟩:=nm (Pz.walk S 0 L);rw[←hRv]at H2 HWL HWE⊢;clear hRv;have hi0:(0:Int)≤n:=by omega
 have hi1:((n:Int)+1==0)=false:=by rw[beq_eq_false_iff_ne];omega
 have hi2:(n:Int)<(n:Int)+1:=by omega
 cases R with
 |error v=>
  simp only[toT]at H2;simp only[Pz.placeOn,toP];have hv:=HWE.o v rfl;clear hR hO;rcases hv with rfl|rfl
  all_goals
   go_enter func80,ntmps80;go_wp2_with fail
   refine(H1.o _).mono ?_
   rintro e w1 ⟨b1,o1,c1,rfl,hc1,hcell,hS,hbl,hb1⟩;have HS:=hid hS;clear hS;have hi3:(n:Int)≤c1:=by omega
   go_wp2_with fail
   refine(H2.o _ _ _ _ (HR.o.keep hb1) HS.o).mono ?_
   rintro e w2 ⟨rfl,hb2⟩;have hcell2:=(hb2.cell (p:=⟨b1,o1+n,none⟩) hbl).trans hcell;clear hcell;go_wp2;go_ret3
   exact⟨rfl,hb1.trans (hb2.mono hb1.size)⟩
 |ok m=>
  have hm:=HWL.o m rfl;simp only[toT]at H2;obtain⟨vN,vE,vO,hA⟩:=id hR;obtain⟨A2,c2,rfl,hc2,hrow⟩:=qr hA.oN;obtain⟨nd,hnd⟩:∃nd,S.N[m]? =some nd:=⟨_,List.getElem?_eq_getElem hm⟩;obtain⟨b,rfl,_,hb,h0,h1,h2,_⟩:=hrow m nd hnd;have hc0:=hA.c0;have hlt:=hA.lt;simp only[Pz.placeOn];rw[show Pz.isDir S.N m=nd.dir by unfold Pz.isDir;rw[hnd]];obtain⟨q,hq⟩:=nm S.N.length;rw[←hq]at hc0 hm hN;clear h1 h2 hrow hA hR hO hnd hq;have hm1:(0:Int)≤m:=by omega
  have hm2:(m:Int)<q:=by omega
  cases hd:nd.dir with
  |true=>
   rw[hd]at h0;simp only[if_true,toP];go_enter func80,ntmps80;go_wp2_with fail
   refine(H1.o _).mono ?_
   rintro e w1 ⟨b1,o1,c1,rfl,hc1,hcell,hS,hbl,hb1⟩;have HS:=hid hS;clear hS;have hi3:(n:Int)≤c1:=by omega
   go_wp2_with fail
   refine(H2.o _ _ _ _ (HR.o.keep hb1) HS.o).mono ?_
   rintro e w2 ⟨rfl,hb2⟩;have hcell2:=(hb2.cell (p:=⟨b1,o1+n,none⟩) hbl).trans hcell;clear hcell;have hc0':=((hb1.trans (hb2.mono hb1.size)).cell (p:=⟨r,0,none⟩) hlt).trans hc0;have g0:=((hb1.trans (hb2.mono hb1.size)).cell (p:=⟨b,m*3,none⟩) hb).trans h0;clear h0 hc0;go_wp2;go_quiet (fail)
   go_wp2;go_ret3
   exact⟨rfl,below_drewN (hb1.trans (hb2.mono hb1.size)) _⟩
  |false=>
   rw[hd]at h0;simp only[Bool.false_eq_true,if_false,toP];go_enter func80,ntmps80;go_wp2_with fail
   refine(H1.o _).mono ?_
   rintro e w1 ⟨b1,o1,c1,rfl,hc1,hcell,hS,hbl,hb1⟩;have HS:=hid hS;clear hS;have hi3:(n:Int)≤c1:=by omega
   go_wp2_with fail
   refine(H2.o _ _ _ _ (HR.o.keep hb1) HS.o).mono ?_
   rintro e w2 ⟨rfl,hb2⟩;have hcell2:=(hb2.cell (p:=⟨b1,o1+n,none⟩) hbl).trans hcell;clear hcell;have hc0':=((hb1.trans (hb2.mono hb1.size)).cell (p:=⟨r,0,none⟩) hlt).trans hc0;have g0:=((hb1.trans (hb2.mono hb1.size)).cell (p:=⟨b,m*3,none⟩) hb).trans h0;clear h0 hc0;go_wp2;go_ret3
   exact⟨rfl,hb1.trans (hb2.mono hb1.size)⟩
end Go.Proofs.YtjlpkbhgphjpeaaGreatDoor
