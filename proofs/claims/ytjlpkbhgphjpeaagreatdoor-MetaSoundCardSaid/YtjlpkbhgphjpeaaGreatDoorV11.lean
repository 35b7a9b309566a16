/- Walks: names.Parent, names.Hash, commonsref05.bit, commonsref05.Hash. -/
import Derived.Test.YtjlpkbhgphjpeaaGreatDoorV10
import Derived.Sort.QuietIn
set_option linter.unusedVariables false
set_option linter.unusedSimpArgs false
set_option linter.unusedSectionVars false
set_option maxHeartbeats 8000000
set_option maxRecDepth 100000
namespace Go.Proofs.YtjlpkbhgphjpeaaGreatDoor
open Go.RowKit
open Lib(hid)
open Go.Proofs.Tryz
def UH(L:List (List UInt8))(x:List UInt8)(w:World)(e:Ending)(w':World):Prop:=
 ∃A,e= .returned (.tuple #[.slice A L.length L.length,.string ⟨x.toArray⟩,.int .i64 0])∧jb w' w.heap.size A L∧Below w.heap.size w w'
theorem JV(s:ByteArray)(L:List (List UInt8))(x:List UInt8)(m:Int)(w:World)(hs:s.size≤100000)(hm:w.cell? ⟨0,0,none⟩=some (.int .i64 m))(h:Np.pathL s.data.toList=some (L++[x])):
 Calls prog 140 #[.string s] w (UH L x w):=by
 have hp:=qt s (L++[x]) m w hs hm h;have hl6:=(jD h).1;obtain⟨n,hn⟩:=nm L.length;have hx:(L++[x])[n]? =some x:=by rw[hn];simp
 rw[show(L++[x]).length=n+1 by simp[hn]]at hl6;have hpre:∀j y,L[j]? =some y→(L++[x])[j]? =some y:=fun j y hy=>by rw[List.getElem?_append_left (List.getElem?_eq_some_iff.1 hy).1];exact hy
 have Hp:Hid (Calls prog 61 #[.string s] w fun e w'=>∃b o c,e= .returned (.tuple #[.slice (some ⟨b,o,none⟩) (n+1) c,.int .i64 0])∧n+1≤c∧w'.cell? ⟨b,o+n,none⟩=some (.string ⟨x.toArray⟩)∧jb w' w.heap.size (some ⟨b,o,none⟩) L∧Below w.heap.size w w'):=by
  refine hp.mono fun e w' ⟨A,c,he,hc,hS,hB⟩=> ?_;rcases hS with h0|⟨b,o,rfl,h1,h2,h3,h4⟩
  ·simp at h0
  ·refine⟨b,o,c,by rw[he];simp[hn],by simpa [hn]using hc,h3 n x hx,Or.inr ⟨b,o,rfl,h1,h2,fun j y hy=>h3 j y (hpre j y hy),h4⟩,hB⟩
 clear hp h hx hpre hm;have Hn:=hid hn;clear hn;go_enter func140,ntmps140;go_wp2_with fail
 refine Hp.o.mono ?_;rintro e w1 ⟨b,o,c,rfl,hc,hcell,hS,hB⟩;have HS:=hid hS;clear hS;have hi1:(0:Int)≤n:=by omega
 have hi2:(n:Int)<(n:Int)+1:=by omega
 have hi3:(n:Int)≤c:=by omega
 go_wp2;go_quiet (fail)
 go_wp2;go_ret3
 rw[Hn.o];exact⟨_,rfl,HS.o.drewN _,below_drewN hB _⟩
theorem Xo(s:ByteArray)(m:Int)(w:World)(hs:s.size≤100000)(hm:w.cell? ⟨0,0,none⟩=some (.int .i64 m))(h:Np.pathL s.data.toList=none∨Np.pathL s.data.toList=some []):
 Calls prog 140 #[.string s] w fun e w'=>e= .returned (.tuple #[.slice none 0 0,.string ⟨#[]⟩,.int .i64 15])∧Below w.heap.size w w':=by
 rcases h with h|h
 ·have hp:=xI s m w hs hm h;have Hp:=hid hp;clear hp h hm;go_enter func140,ntmps140;go_wp2_with fail
  refine Hp.o.mono ?_;rintro e w1 ⟨rfl,hB⟩;go_wp2;go_ret3
  exact⟨rfl,hB⟩
 ·have hp:=qt s [] m w hs hm h;have Hp:=hid hp;clear hp h hm;go_enter func140,ntmps140;go_wp2_with fail
  refine Hp.o.mono ?_;rintro e w1 ⟨A,c,rfl,hc,hS,hB⟩;clear hS;go_wp2;go_ret3
  exact⟨rfl,hB⟩
theorem UJ(h:Nat)(c:UInt8)(hh:h<4294967296):bits BinOp.xor IntKind.u32 (h:Int) ((c.toNat:Int) % 4294967296)*16777619 % 4294967296=((Np.hashStep h c:Nat):Int):=by
 have hc:c.toNat<256:=c.toNat_lt;rw[show((c.toNat:Int) % 4294967296)=((c.toNat:Nat):Int) by omega,u32_xor_nat h c.toNat hh (by omega)];unfold Np.hashStep;simp
def xA(l:List UInt8):Int:=((Np.hashN l/268435456:Nat):Int)
theorem Vh{l:List UInt8}{h:Nat}(e:h=Np.hashN l):(h:Int)/268435456=xA l:=by
 subst e;unfold xA;omega
theorem Jh(l:List UInt8):0≤xA l∧xA l≤15:=by
 have:=Np.hashN_lt l
 unfold xA;omega
theorem Vg(s:ByteArray)(w:World)(hs:s.size≤100000):
 Calls prog 125 #[.string s] w fun e w'=>e= .returned (.int .i64 (xA s.data.toList))∧w=w':=by
 go_enter func125,ntmps125;go_wp2;go_loop [3,4,7] (fun h _ i=>∃k n:Nat,k≤s.size∧n<4294967296∧i= .int .i64 k∧h= .int .u32 n∧Hid (n=Np.hashN (s.data.toList.take k))) (fun _ _ i=>s.size-(intOf i).toNat)
 case atStart=>exact⟨0,2166136261,by omega,by omega,rfl,rfl,rfl⟩
 case round=>
  obtain⟨k,h,hk,hlt',rfl,rfl,Hh⟩:=hrel;by_cases hlt:k<s.size
  ·go_wp2;go_round
   case rel=>
    refine⟨k+1,Np.hashStep h (s[k]'hlt),by omega,Np.hashStep_lt _ _,by go_num,by rw[UJ h _ hlt'],?_⟩;show Np.hashStep h (s[k]'hlt)=_
    rw[yA s k hlt,Np.hashN_snoc,←Hh.o]
   case measure=>simp[intOf];omega
  ·go_wp2;go_ret
   refine⟨?_,rfl⟩;rw[←Vh (h:=h) (by rw[Hh.o,List.take_of_length_le (by rw[←Lib.size_eq];omega)])];rfl
namespace Gd
structure Ent where
 s:List UInt8
 i:Nat
deriving instance DecidableEq for Ent
def noEnt:Ent:=⟨[],0⟩
def Ent.May(e:Ent):Prop:=e=noEnt∨(Np.nameB e.s=true∧1≤e.i∧e.i≤32)
abbrev Tab:=List Ent
def noTab:Tab:=List.replicate 16 noEnt
structure TabOk(T:Tab):Prop where
 len:T.length=16
 may:∀e∈T,e.May
def entB(e:Ent):List UInt8:=UInt8.ofNat e.i::UInt8.ofNat e.s.length::(e.s++List.replicate (14-e.s.length) 0)
def blkT(T:Tab)(k:Nat):List UInt8:=((T.drop (4*k)).take 4).flatMap entB
def placesL(h:Nat):List (Fin 16):=(List.range 16).map fun i=>⟨(h+i) % 16,Nat.mod_lt _ (by omega)⟩
def entAt(T:Tab)(j:Nat):Ent:=T.getD j noEnt
def findT(T:Tab)(s:List UInt8)(h:Nat):Option (Fin 16):=(placesL h).find? fun j=>decide ((entAt T j.val).s=s)&& !s.isEmpty
def placeT(T:Tab)(h:Nat):Option (Fin 16):=(placesL h).find? fun j=>decide (entAt T j.val=noEnt)
def setT(T:Tab)(j:Nat)(e:Ent):Tab:=T.set j e
def usedT(T:Tab)(k:Nat):Bool:=((T.drop (4*k)).take 4).any fun e=>decide (e≠noEnt)
theorem entAt_get{T:Tab}{j:Nat}(hT:T.length=16)(hj:j<16):T[j]? =some (entAt T j):=by
 unfold entAt;rw[List.getD_eq_getElem?_getD,List.getElem?_eq_getElem (by omega)];rfl
theorem May.len{e:Ent}(h:e.May):e.s.length≤12∧e.i≤32:=by
 rcases h with rfl|⟨h1,h2,h3⟩
 ·exact⟨by decide,by decide⟩
 ·unfold Np.nameB at h1;simp only[Bool.and_eq_true,decide_eq_true_eq]at h1;omega
theorem entB_length{e:Ent}(h:e.May):(entB e).length=16:=by
 have:=May.len h
 unfold entB;simp only[List.length_cons,List.length_append,List.length_replicate];omega
theorem noTab_ok:TabOk noTab:=⟨rfl,fun e he=>Or.inl (List.eq_of_mem_replicate he)⟩
theorem TabOk.set{T:Tab}(h:TabOk T){j:Nat}{e:Ent}(he:e.May):TabOk (setT T j e):=by
 refine⟨by unfold setT;rw[List.length_set];exact h.len,fun x hx=> ?_⟩;rcases List.mem_or_eq_of_mem_set hx with hx|rfl
 ·exact h.may x hx
 ·exact he
theorem entAt_may{T:Tab}(h:TabOk T)(j:Nat):(entAt T j).May:=by
 unfold entAt;rw[List.getD_eq_getElem?_getD]
 cases hx:T[j]? with
 |none=>exact Or.inl rfl
 |some e=>exact h.may e (List.mem_of_getElem? hx)
end Gd
section
open Go.Shelf
attribute [local go_sem] Oper.semAt_some
def xO(e:Gd.Ent):List Value:=[.string ⟨e.s.toArray⟩,.int .i64 e.i]
def zk(T:Gd.Tab):Array Value:=(T.flatMap xO).toArray
def zW(T:Gd.Tab):Value:= .agg (zk T)
theorem xC:∀{T:Gd.Tab} {k:Nat} {e:Gd.Ent} (i:Nat),T[k]? =some e→i<2→(T.flatMap xO)[k*2+i]? =(xO e)[i]?
 |[],k,e,i,hx,_=>by simp at hx
 |a::r,0,e,i,hx,hi=>by
  simp at hx
  subst hx;rw[List.flatMap_cons,List.getElem?_append_left (by show 0*2+i<2;omega),Nat.zero_mul,Nat.zero_add]
 |a::r,k+1,e,i,hx,hi=>by
  rw[List.flatMap_cons,List.getElem?_append_right (by show 2≤_;omega)];have:=xC (T:=r) (k:=k) (e:=e) i (by simpa using hx) hi
  rw[←this];congr 1
  show(k+1)*2+i-2=_
  omega
theorem xB:∀(T:Gd.Tab),(T.flatMap xO).length=T.length*2
 |[]=>rfl
 |a::r=>by
  rw[List.flatMap_cons,List.length_append,xB r,List.length_cons];show 2+_=_
  omega
theorem zF{T:Gd.Tab}(h:T.length=16):(zk T).size=32:=by
 unfold zk;rw[List.size_toArray,xB,h]
theorem jH{w:World}{b t:Nat}{T:Gd.Tab}(h:w.heap[b]? =some (.cells (zk T) t (0,0))){k:Nat}{e:Gd.Ent}(hk:T[k]? =some e):w.cell? ⟨b,k*2,none⟩=some (.string ⟨e.s.toArray⟩)∧w.cell? ⟨b,k*2+1,none⟩=some (.int .i64 e.i):=by
 refine⟨(cell_of_row w b (k*2) _ _ _ h).trans ?_,(cell_of_row w b (k*2+1) _ _ _ h).trans ?_⟩
 ·unfold zk;rw[List.getElem?_toArray];exact xC 0 hk (by omega)
 ·unfold zk;rw[List.getElem?_toArray];exact xC 1 hk (by omega)
theorem zQ(T:Gd.Tab):(zk T).all (·.oneCell')=true:=by
 unfold zk;refine all_oneCell_toArray fun v hv=> ?_;obtain⟨e,_,he⟩:=List.mem_flatMap.1 hv;simp only[xO,List.mem_cons,List.mem_nil_iff,or_false]at he;rcases he with rfl|rfl<;>rfl
theorem sizeTab:(prog.info? 77).map (fun i=>i.size)=some 32:=by kernel_rfl
theorem Z6(F:Fence)(n:Nat)(hF:F=Fence.wide)(hn:2≤n)(nb:Nat)(s:ByteArray)(hs:s.size≤100000)(h:Nat)(hh:(h:Int)=xA s.data.toList)(h16:h<16)(Kp:World→World→Prop)(w:World)(hc:w.cell? ⟨nb,0,none⟩=some (.string s))(hb:nb<w.heap.size):
 SeqStopsK F n prog 124 #[.pointer (some ⟨nb,0,none⟩)] (fun j:Fin 16=>#[.int .i64 (j.val:Nat)]) Kp (fun xs=>xs=Gd.placesL h) (fun pre=>pre<+:Gd.placesL h) 16 w:=fun l J Jx W hW hJa _ hY h0=>by
 subst hF;have hcW:=(hW.cell (p:=⟨nb,0,none⟩) hb).trans hc;have h1:1≤n:=by omega
 have HY:=hid hY;have H0:=hid h0;have HHa:Hid (∀V,CallsIn Fence.wide (n-1) prog 125 #[.string s] V fun e w'=>e= .returned (.int .i64 h)∧V=w'):=hid fun V=>callsIn_wide.2 (by rw[hh];exact Vg s V hs);have hh16:(h:Int)<16:=by omega
 clear hY h0 hJa hc hh hW;refine callsIn_of_wp func124 rfl trivial ?_ rfl;simp only[ntmps124,List.size_toArray,List.length_cons,List.length_nil,Nat.reduceAdd,Nat.reduceSub,Array.replicate_succ,Array.replicate_zero,List.push_toArray,List.append_toArray,List.nil_append,List.cons_append];gi_wp2
 refine⟨trivial,(HHa.o _).mono ?_⟩;rintro e w' ⟨rfl,rfl⟩;clear hcW HHa;gi_wp2
 gi_loopw [7] (fun z wr=>∃i:Nat,z= .int .i64 i∧i≤16∧Hid (J ((Gd.placesL h).take i) wr)) (fun z _=>16-(intOf z).toNat)
 case atStart=>exact⟨0,rfl,by omega,hid (by rw[List.take_zero];exact H0.o)⟩
 case round=>
  obtain⟨i,rfl,hi,HJ⟩:=hrel;have hpl:(Gd.placesL h).length=16:=by unfold Gd.placesL;rw[List.length_map,List.length_range]
  by_cases hlt:i<16
  ·obtain⟨j,hj⟩:∃j:Fin 16,j=⟨(h+i) % 16,Nat.mod_lt _ (by omega)⟩:=⟨_,rfl⟩;have hgj:(Gd.placesL h)[i]? =some j:=by unfold Gd.placesL;rw[List.getElem?_map,List.getElem?_range hlt,hj];rfl
   have htk:(Gd.placesL h).take (i+1)=(Gd.placesL h).take i++[j]:=by rw[List.take_add_one,hgj];rfl
   obtain⟨fn,tmps,assign,body,hy,hR⟩:=HY.o ((Gd.placesL h).take i) j wr HJ.o (by rw[List.length_take];omega);rw[←htk]at hR;have HRR:=hid hR;have HP:=hid (List.take_prefix (i+1) (Gd.placesL h));have h2:(i:Int)<16:=by omega
   have h3:((h:Int)+(i:Int)) % 16=((j.val:Nat):Int):=by rw[hj];show _=(((h+i) % 16:Nat):Int);omega
   clear hj hgj htk hR hpl hlt;gi_wp2
   refine HRR.o.mono ?_;rintro e W3 (⟨rfl,hJ3,hk3⟩|⟨rfl,hJx3⟩)
   ·have HJ3:=hid hJ3;clear hJ3 hk3 hy HRR;gi_wp2
    go_roundw
    case rel=>exact⟨i+1,by go_num,by omega,HJ3⟩
    case measure=>simp[intOf];omega
   ·have HX3:=hid hJx3;clear hJx3 hy HRR;gi_wp2
    refine bodyPost_ret (results_none rfl _ _ _) rfl ?_;exact⟨⟨_,rfl⟩,Or.inr ⟨_,HP.o,HX3.o⟩⟩
  ·obtain rfl:i=16:=by omega
   clear hlt;gi_wp2
   go_end0
   refine⟨⟨_,rfl⟩,Or.inl ⟨_,rfl,?_⟩⟩;have:=HJ.o
   rw[List.take_of_length_le (by omega)]at this;exact this
theorem uS(s:ByteArray)(w:World):Calls prog 65 #[.string s] w fun e w'=>e= .returned (.func (.func 124) #[] #[.pointer (some ⟨w.heap.size,0,none⟩)])∧w'=w.alloc (.cells #[.string s] 9):=by
 have hmf:∀(fn:Fn) (first cap:Array Value) (w:World),(Instr.makeFunc fn first cap).run prog w= .ok (.func fn first cap) w:=fun _ _ _ _=>rfl;go_enter func65,ntmps65;go_wp2;go_ret
 exact⟨rfl,rfl⟩
end
section
open Go.Shelf
attribute [local go_sem] Oper.semAt_some
def vG:Option (Fin 16)→Int
 |some j=>((j.val:Nat):Int)
 |none=> -1
def Ji(T:Gd.Tab)(s:List UInt8)(j:Fin 16):Bool:=decide ((Gd.entAt T j.val).s=s)&& !s.isEmpty
theorem Ys(T:Gd.Tab)(hT:T.length=16)(s:ByteArray)(hs:s.size≤100000)(hne:s.data.toList≠[])(h:Nat)(hh:(h:Int)=xA s.data.toList)(w:World):
 CallsIn Fence.wide 6 prog 29 #[zW T,.string s] w fun e W'=>e= .returned (.int .i64 (vG (Gd.findT T s.data.toList h)))∧Below w.heap.size w W':=by
 have h16:h<16:=by have:=Jh s.data.toList;omega
 have hmf:∀(fn:Fn) (first cap:Array Value) (w:World),(Instr.makeFunc fn first cap).run prog w= .ok (.func fn first cap) w:=fun _ _ _ _=>rfl;have HOf:Hid (∀V,CallsIn Fence.wide 5 prog 65 #[.string s] V fun e w'=>e= .returned (.func (.func 124) #[] #[.pointer (some ⟨V.heap.size,0,none⟩)])∧w'=V.alloc (.cells #[.string s] 9)):=hid fun V=>callsIn_wide.2 (uS s V);have HNe:Hid (s.toList.isEmpty=false):=hid (by rw[Lib.toList_data];cases hl:s.data.toList with|nil=>exact absurd hl hne|cons a r=>rfl);refine callsIn_of_wp_marks func29 rfl trivial ?_ rfl;simp only[ntmps29,List.size_toArray,List.length_cons,List.length_nil,Nat.reduceAdd,Nat.reduceSub,Array.replicate_succ,Array.replicate_zero,List.push_toArray,List.append_toArray,List.nil_append,List.cons_append];unfold zW
 have HH:=hid (And.intro hT (And.intro hs (And.intro hh h16)));clear hT hs hne hh h16 hmf;gi_wp2
 refine⟨trivial,(HOf.o _).mono ?_⟩;rintro e W0 ⟨rfl,hW0⟩;have c0:zh W0 w.heap.size 77 (zk T):=by rw[hW0];exact(((zh.alloc (heap_alloc_new w _) _).alloc _).alloc _)
 have c1:zh W0 (w.heap.size+1) 9 #[.string s]:=by rw[hW0];have:=heap_alloc_new (w.alloc (.cells (zk T) 77)) (.cells #[.string s] 9);rw[World.size_alloc]at this;exact(zh.alloc this _).alloc _
 have c2:zh W0 (w.heap.size+1+1) 3 #[.int .i64 0]:=by rw[hW0];have:=heap_alloc_new ((w.alloc (.cells (zk T) 77)).alloc (.cells #[.string s] 9)) (.cells #[.int .i64 0] 3);rw[World.size_alloc,World.size_alloc]at this;exact zh.alloc this _
 have c3:zh W0 (w.heap.size+3) 9 #[.string s]:=by rw[hW0];have:=heap_alloc_new (((w.alloc (.cells (zk T) 77)).alloc (.cells #[.string s] 9)).alloc (.cells #[.int .i64 0] 3)) (.cells #[.string s] 9);rw[World.size_alloc,World.size_alloc,World.size_alloc]at this;exact this
 have hB0:Below w.heap.size w W0:=by rw[hW0];exact((((Below.refl _ w).alloc (Nat.le_refl _) _).alloc (by simp) _).alloc (by simp;omega) _).alloc (by simp;omega) _
 have hsz:W0.heap.size=w.heap.size+4:=by rw[hW0];simp
 have hnb:(((w.alloc (.cells (zk T) 77)).alloc (.cells #[.string s] 9)).alloc (.cells #[.int .i64 0] 3)).heap.size=w.heap.size+3:=by simp
 rw[hnb];clear hW0 hnb HOf;gi_wp2
 refine wpIn_rangeFunc_ownH rfl (by omega) (gf:=124) (lb:=#[.pointer (some ⟨w.heap.size+3,0,none⟩)]) rfl trivial (enters_of func124 (by kernel_rfl) rfl)
  (Z6 Fence.wide (6-1) rfl (by omega) (w.heap.size+3) s HH.o.2.1 h HH.o.2.2.1 HH.o.2.2.2 (xa 0) W0 (cell_of_row W0 _ 0 _ _ _ c3) c3.lt) (yj 0) (yl 0 (w:=W0)) (Below.refl _ _) (fun _=>rfl)
  (fun(pre:List (Fin 16)) W=>((((∀j∈pre,Ji T s.data.toList j=false)∧zh W w.heap.size 77 (zk T))∧zh W (w.heap.size+1) 9 #[.string s])∧zh W (w.heap.size+1+1) 3 #[.int .i64 0])∧Below w.heap.size w W)
  (fun c (pre:List (Fin 16)) W=>(c= .ret∧(∃(q:List (Fin 16)) (j:Fin 16),(pre=q++[j]∧(∀r∈q,Ji T s.data.toList r=false)∧Ji T s.data.toList j=true)∧zh W (w.heap.size+1+1) 3 #[.int .i64 (j.val:Nat)]))∧Below w.heap.size w W)
  ?o1 ?o2 ?o3
  (fun(x:Fin 16) a' W=>a'={tmps:=#[.agg (zk T),.string s,.pointer (some ⟨w.heap.size,0,none⟩),.pointer (some ⟨w.heap.size+1,0,none⟩),.pointer (some ⟨w.heap.size+1+1,0,none⟩),.int .i64 (x.val:Nat),.string s,.func (.func 124) #[] #[.pointer (some ⟨w.heap.size+3,0,none⟩)],.int .i64 (x.val:Nat),undef,undef,undef,undef,undef,undef,undef,undef,undef,undef,undef],defers:=[]})
  ?o4 ?assign ?body ?done ?stop
 case o1=>exact OwnFrom.and (OwnFrom.and (OwnFrom.and (OwnFrom.and (ownFrom_pure _ _) (Own.from (zT _ _ _) _)) (Own.from (zT _ _ _) _)) (Own.from (zT _ _ _) _)) (ownFrom_below (Nat.le_refl _) (by omega))
 case o2=>
  refine fun c=>OwnFrom.and (OwnFrom.and (ownFrom_pure _ _) ?_) (ownFrom_below (Nat.le_refl _) (by omega));rintro s X Y row ⟨q,p,hp,hc⟩ hg hr;exact⟨q,p,hp,zT _ _ (fun(_:Unit)=>#[Value.int .i64 (p.val:Nat)]) () X Y row hc hg (fun r e=>(hr r e).2)⟩
 case o4=>
  rintro x a' _ X Y row h hg hr;exact h
 case o3=>exact⟨⟨⟨⟨by simp,c0⟩,c1⟩,c2⟩,hB0⟩
 case assign=>
  rintro l pre x W K ⟨⟨⟨⟨hp,q0⟩,q1⟩,q2⟩,hB1⟩ hK;have HK:=hid hK;have HP:=hid (And.intro hp (And.intro q0 (And.intro q1 (And.intro q2 hB1))));clear hK hp q0 q1 q2 hB1;gi_wp2
  exact HK.o _ _ (KeepsFrom.refl _ _) (xz _ _) ⟨⟨⟨⟨HP.o.1,HP.o.2.1⟩,HP.o.2.2.1⟩,HP.o.2.2.2.1⟩,HP.o.2.2.2.2⟩ rfl
 case body=>
  rintro l pre x a' W hl ⟨r,hr⟩ ⟨⟨⟨⟨hp,q0⟩,q1⟩,q2⟩,hB1⟩ rfl hlt;have HP:=hid (And.intro hp (And.intro q0 (And.intro q1 (And.intro q2 hB1))));have HB:=hid hB1;obtain⟨e,he⟩:=nm (Gd.entAt T x.val);have hge:=Gd.entAt_get HH.o.1 x.isLt;rw[←he]at hge;obtain⟨x0,-⟩:=jH q0 hge;obtain⟨k,hk⟩:∃k:Nat,k=x.val:=⟨_,rfl⟩;rw[←hk]at x0;rw[←hk];have hk16:(k:Int)<16:=by have:=x.isLt;omega
  have hk0:(0:Int)≤k:=by omega
  obtain⟨es,hes⟩:∃es:ByteArray,es=⟨e.s.toArray⟩:=⟨_,rfl⟩;rw[←hes]at x0;have xs:=cell_of_row W _ 0 _ _ _ q1;have y0:=cell_of_row W _ 0 _ _ _ q2;have z0:=frozen_of_row W _ 0 _ _ q2;have HE:Hid (Ji T s.data.toList x=(es.toList==s.toList)):=hid (by
   unfold Ji;rw[←he,hes];have h1:=HNe.o;rw[Lib.toList_data]at h1;rw[h1,Bool.not_false,Bool.and_true,Bool.eq_iff_iff,decide_eq_true_iff,beq_iff_eq,Lib.toList_data,Lib.toList_data])
  have Hk:=hid hk;have hne:=HNe.o
  cases hm:(es.toList==s.toList)with
  |true=>
   rw[hm]at HE;clear hl hr hp q0 q1 q2 hB1 hlt hge he hes hk;gi_wp2
   gi_region
   all_goals
    gi_wp2
    refine⟨((KeepsOthers.setCell W ⟨w.heap.size+1+1,0,none⟩ (.int .i64 k)).trans (KeepsOthers.drew _)).from _,⟨rfl,pre,x,⟨rfl,HP.o.1,HE.o⟩,?_⟩,(HB.o.setCell (show w.heap.size≤w.heap.size+1+1 by omega) _).drew⟩;rw[←Hk.o];exact Go.heap_setCell_same W _ 0 _ _ (.int .i64 k) HP.o.2.2.2.1
  |false=>
   rw[hm]at HE;clear hl hr hp q0 q1 q2 hB1 hlt hge he hes hk;gi_wp2
   gi_region
   all_goals
    gi_wp2
    exact⟨(KeepsOthers.drew W).from _,fun j _ c t fr h=>h,⟨⟨⟨fun j hj=>(List.mem_append.1 hj).elim (HP.o.1 j) (fun e=>by rw[List.mem_singleton.1 e];exact HE.o),HP.o.2.1⟩,HP.o.2.2.1⟩,HP.o.2.2.2.1⟩,HB.o.drew⟩
 case done=>
  rintro D zs W hD rfl ⟨⟨⟨⟨hp,q0⟩,q1⟩,q2⟩,hB1⟩ hK;have HN:Hid (Gd.findT T s.data.toList h=none):=hid (List.find?_eq_none.2 fun j hj=>by
   have:=hp j hj
   unfold Ji at this;rw[this];decide)
  have y0:=cell_of_row W _ 0 _ _ _ q2;have z0:=frozen_of_row W _ 0 _ _ q2;have HK:=hid (And.intro hD (And.intro q2 (And.intro hB1 hK)));clear hp q0 q1 q2 hB1 hK;gi_wp2
  obtain⟨V,hV⟩:=nm (W.setCell ⟨w.heap.size+1+1,0,none⟩ (.int .i64 (-1)));rw[←hV];have v2:zh V (w.heap.size+1+1) 3 #[.int .i64 (-1)]:=by rw[hV];exact Go.heap_setCell_same W _ 0 _ _ (.int .i64 (-1)) HK.o.2.1
  have vk:V.heap[D]? =some (.deferred (some [])):=by rw[hV];exact(Go.heap_setCell_other W ⟨w.heap.size+1+1,0,none⟩ _ _ (show D≠w.heap.size+1+1 by omega)).trans HK.o.2.2.2
  have vb:Below w.heap.size w V:=by rw[hV];exact HK.o.2.2.1.setCell (show w.heap.size≤w.heap.size+1+1 by omega) _
  clear hV y0 z0;have e2:zh (V.putObj D (.deferred none)) (w.heap.size+1+1) 3 _:=(World.putObj_heap_other (show w.heap.size+1+1≠D by omega)).trans v2;have y0:=cell_of_row _ _ 0 _ _ _ e2;refine⟨by simp,.inl ⟨_,_,rfl,run_takeDeferred vk,?_⟩⟩;refine⟨.int .i64 (-1),?_,by rw[HN.o];rfl,vb.trans ?_⟩
  ·simp[results,f29,go_sem,y0]
  ·exact belowK_b (w:=w) (Nat.le_refl _) _ D _ _ (by omega) vk rfl rfl
 case stop=>
  rintro D c pre W hD hpre ⟨⟨rfl,q,j,⟨rfl,hq,hj⟩,q2⟩,hB1⟩ hK;have HF:Hid (Gd.findT T s.data.toList h=some j):=hid (by
   obtain⟨r,hr⟩:=hpre;unfold Gd.findT;rw[←hr,List.append_assoc,List.find?_append,List.find?_eq_none.2 (fun k hk=>by
    have:=hq k hk
    unfold Ji at this;rw[this];decide)]
   unfold Ji at hj;rw[List.singleton_append,List.find?_cons,hj];rfl)
  gi_wp2
  have e2:zh (W.putObj D (.deferred none)) (w.heap.size+1+1) 3 _:=(World.putObj_heap_other (show w.heap.size+1+1≠D by omega)).trans q2;have y0:=cell_of_row _ _ 0 _ _ _ e2;refine⟨by simp,.inl ⟨_,_,rfl,run_takeDeferred hK,?_⟩⟩;refine⟨.int .i64 (j.val:Nat),?_,by rw[HF.o];rfl,hB1.trans ?_⟩
  ·simp[results,f29,go_sem,y0]
  ·exact belowK_b (w:=w) (Nat.le_refl _) _ D _ _ (by omega) hK rfl rfl
theorem xH(T:Gd.Tab)(hT:T.length=16)(s:ByteArray)(hs:s.size≤100000)(hne:s.data.toList≠[])(h:Nat)(hh:(h:Int)=xA s.data.toList)(w:World):
 Calls prog 29 #[zW T,.string s] w fun e W'=>e= .returned (.int .i64 (vG (Gd.findT T s.data.toList h)))∧Below w.heap.size w W':=
 callsIn_wide.1 (Ys T hT s hs hne h hh w)
end
section
open Go.Shelf
attribute [local go_sem] Oper.semAt_some
def Je(T:Gd.Tab)(j:Fin 16):Bool:=decide (Gd.entAt T j.val=Gd.noEnt)
theorem QZ(T:Gd.Tab)(hOk:Gd.TabOk T)(s:ByteArray)(hs:s.size≤100000)(h:Nat)(hh:(h:Int)=xA s.data.toList)(w:World):
 CallsIn Fence.wide 6 prog 148 #[zW T,.string s] w fun e W'=>e= .returned (.int .i64 (vG (Gd.placeT T h)))∧Below w.heap.size w W':=by
 have h16:h<16:=by have:=Jh s.data.toList;omega
 have hmf:∀(fn:Fn) (first cap:Array Value) (w:World),(Instr.makeFunc fn first cap).run prog w= .ok (.func fn first cap) w:=fun _ _ _ _=>rfl;have HOf:Hid (∀V,CallsIn Fence.wide 5 prog 65 #[.string s] V fun e w'=>e= .returned (.func (.func 124) #[] #[.pointer (some ⟨V.heap.size,0,none⟩)])∧w'=V.alloc (.cells #[.string s] 9)):=hid fun V=>callsIn_wide.2 (uS s V);have hT:=hOk.len;have HOk:=hid hOk;refine callsIn_of_wp_marks func148 rfl trivial ?_ rfl;simp only[ntmps148,List.size_toArray,List.length_cons,List.length_nil,Nat.reduceAdd,Nat.reduceSub,Array.replicate_succ,Array.replicate_zero,List.push_toArray,List.append_toArray,List.nil_append,List.cons_append];unfold zW;have HH:=hid (And.intro hT (And.intro hs (And.intro hh h16)));clear hT hs hOk hh h16 hmf;gi_wp2
 refine⟨trivial,(HOf.o _).mono ?_⟩;rintro e W0 ⟨rfl,hW0⟩;have c0:zh W0 w.heap.size 77 (zk T):=by rw[hW0];exact((zh.alloc (heap_alloc_new w _) _).alloc _)
 have c2:zh W0 (w.heap.size+1) 3 #[.int .i64 0]:=by rw[hW0];have:=heap_alloc_new (w.alloc (.cells (zk T) 77)) (.cells #[.int .i64 0] 3);rw[World.size_alloc]at this;exact zh.alloc this _
 have c3:zh W0 (w.heap.size+2) 9 #[.string s]:=by rw[hW0];have:=heap_alloc_new ((w.alloc (.cells (zk T) 77)).alloc (.cells #[.int .i64 0] 3)) (.cells #[.string s] 9);rw[World.size_alloc,World.size_alloc]at this;exact this
 have hB0:Below w.heap.size w W0:=by rw[hW0];exact(((Below.refl _ w).alloc (Nat.le_refl _) _).alloc (by simp) _).alloc (by simp;omega) _
 have hsz:W0.heap.size=w.heap.size+3:=by rw[hW0];simp
 have hnb:((w.alloc (.cells (zk T) 77)).alloc (.cells #[.int .i64 0] 3)).heap.size=w.heap.size+2:=by simp
 rw[hnb];clear hW0 hnb HOf;gi_wp2
 refine wpIn_rangeFunc_ownH rfl (by omega) (gf:=124) (lb:=#[.pointer (some ⟨w.heap.size+2,0,none⟩)]) rfl trivial (enters_of func124 (by kernel_rfl) rfl)
  (Z6 Fence.wide (6-1) rfl (by omega) (w.heap.size+2) s HH.o.2.1 h HH.o.2.2.1 HH.o.2.2.2 (xa 0) W0 (cell_of_row W0 _ 0 _ _ _ c3) c3.lt) (yj 0) (yl 0 (w:=W0)) (Below.refl _ _) (fun _=>rfl)
  (fun(pre:List (Fin 16)) W=>(((∀j∈pre,Je T j=false)∧zh W w.heap.size 77 (zk T))∧zh W (w.heap.size+1) 3 #[.int .i64 0])∧Below w.heap.size w W)
  (fun c (pre:List (Fin 16)) W=>(c= .ret∧(∃(q:List (Fin 16)) (j:Fin 16),(pre=q++[j]∧(∀r∈q,Je T r=false)∧Je T j=true)∧zh W (w.heap.size+1) 3 #[.int .i64 (j.val:Nat)]))∧Below w.heap.size w W)
  ?o1 ?o2 ?o3
  (fun(x:Fin 16) a' W=>a'={tmps:=#[.agg (zk T),.string s,.pointer (some ⟨w.heap.size,0,none⟩),undef,.pointer (some ⟨w.heap.size+1,0,none⟩),.int .i64 (x.val:Nat),.string s,.func (.func 124) #[] #[.pointer (some ⟨w.heap.size+2,0,none⟩)],.int .i64 (x.val:Nat),undef,undef,undef,undef,undef,undef],defers:=[]})
  ?o4 ?assign ?body ?done ?stop
 case o1=>exact OwnFrom.and (OwnFrom.and (OwnFrom.and (ownFrom_pure _ _) (Own.from (zT _ _ _) _)) (Own.from (zT _ _ _) _)) (ownFrom_below (Nat.le_refl _) (by omega))
 case o2=>
  refine fun c=>OwnFrom.and (OwnFrom.and (ownFrom_pure _ _) ?_) (ownFrom_below (Nat.le_refl _) (by omega));rintro s X Y row ⟨q,p,hp,hc⟩ hg hr;exact⟨q,p,hp,zT _ _ (fun(_:Unit)=>#[Value.int .i64 (p.val:Nat)]) () X Y row hc hg (fun r e=>(hr r e).2)⟩
 case o4=>
  rintro x a' _ X Y row h hg hr;exact h
 case o3=>exact⟨⟨⟨by simp,c0⟩,c2⟩,hB0⟩
 case assign=>
  rintro l pre x W K ⟨⟨⟨hp,q0⟩,q2⟩,hB1⟩ hK;have HK:=hid hK;have HP:=hid (And.intro hp (And.intro q0 (And.intro q2 hB1)));clear hK hp q0 q2 hB1;gi_wp2
  exact HK.o _ _ (KeepsFrom.refl _ _) (xz _ _) ⟨⟨⟨HP.o.1,HP.o.2.1⟩,HP.o.2.2.1⟩,HP.o.2.2.2⟩ rfl
 case body=>
  rintro l pre x a' W hl ⟨r,hr⟩ ⟨⟨⟨hp,q0⟩,q2⟩,hB1⟩ rfl hlt;have HP:=hid (And.intro hp (And.intro q0 (And.intro q2 hB1)));have HB:=hid hB1;obtain⟨e,he⟩:=nm (Gd.entAt T x.val);have hge:=Gd.entAt_get HH.o.1 x.isLt;rw[←he]at hge;have hem:=Gd.entAt_may HOk.o x.val;rw[←he]at hem;obtain⟨x0,x1⟩:=jH q0 hge;obtain⟨k,hk⟩:∃k:Nat,k=x.val:=⟨_,rfl⟩;rw[←hk]at x0 x1;rw[←hk];have hk16:(k:Int)<16:=by have:=x.isLt;omega
  have hk0:(0:Int)≤k:=by omega
  obtain⟨es,hes⟩:∃es:ByteArray,es=⟨e.s.toArray⟩:=⟨_,rfl⟩;rw[←hes]at x0;obtain⟨ei,hei⟩:=nm e.i;rw[←hei]at x1;have y0:=cell_of_row W _ 0 _ _ _ q2;have z0:=frozen_of_row W _ 0 _ _ q2;have Hk:=hid hk;have HE:Hid (Je T x=decide (e=Gd.noEnt)):=hid (by unfold Je;rw[he]);by_cases hno:e=Gd.noEnt
  ·have hi0:ei=0:=by rw[hei,hno];rfl
   have hs0:es.toList.isEmpty=true:=by rw[hes,hno,Lib.toList_data];rfl
   rw[decide_eq_true hno]at HE;subst hi0;clear hl hr hp q0 q2 hB1 hlt hge he hes hk hem hno hei;gi_wp2
   refine⟨(KeepsOthers.setCell W ⟨w.heap.size+1,0,none⟩ (.int .i64 k)).from _,⟨rfl,pre,x,⟨rfl,HP.o.1,HE.o⟩,?_⟩,HB.o.setCell (show w.heap.size≤w.heap.size+1 by omega) _⟩;rw[←Hk.o];exact Go.heap_setCell_same W _ 0 _ _ (.int .i64 k) HP.o.2.2.1
  ·have hs0:es.toList.isEmpty=false:=by
    rcases hem with h1|⟨h1,-⟩
    ·exact absurd h1 hno
    ·have h2:=Np.name_ne h1;rw[hes,Lib.toList_data]
     cases hl2:e.s with
     |nil=>exact absurd hl2 h2
     |cons a r=>simp
   rw[decide_eq_false hno]at HE;clear hl hr hp q0 q2 hB1 hlt hge he hes hk hem hno hei;gi_wp2
   exact⟨KeepsFrom.refl _ _,xz _ _,⟨⟨fun j hj=>(List.mem_append.1 hj).elim (HP.o.1 j) (fun e=>by rw[List.mem_singleton.1 e];exact HE.o),HP.o.2.1⟩,HP.o.2.2.1⟩,HB.o⟩
 case done=>
  rintro D zs W hD rfl ⟨⟨⟨hp,q0⟩,q2⟩,hB1⟩ hK;have HN:Hid (Gd.placeT T h=none):=hid (List.find?_eq_none.2 fun j hj=>by
   have:=hp j hj
   unfold Je at this;rw[this];decide)
  have y0:=cell_of_row W _ 0 _ _ _ q2;have z0:=frozen_of_row W _ 0 _ _ q2;have HK:=hid (And.intro hD (And.intro q2 (And.intro hB1 hK)));clear hp q0 q2 hB1 hK;gi_wp2
  obtain⟨V,hV⟩:=nm (W.setCell ⟨w.heap.size+1,0,none⟩ (.int .i64 (-1)));rw[←hV];have v2:zh V (w.heap.size+1) 3 #[.int .i64 (-1)]:=by rw[hV];exact Go.heap_setCell_same W _ 0 _ _ (.int .i64 (-1)) HK.o.2.1
  have vk:V.heap[D]? =some (.deferred (some [])):=by rw[hV];exact(Go.heap_setCell_other W ⟨w.heap.size+1,0,none⟩ _ _ (show D≠w.heap.size+1 by omega)).trans HK.o.2.2.2
  have vb:Below w.heap.size w V:=by rw[hV];exact HK.o.2.2.1.setCell (show w.heap.size≤w.heap.size+1 by omega) _
  clear hV y0 z0;have e2:zh (V.putObj D (.deferred none)) (w.heap.size+1) 3 _:=(World.putObj_heap_other (show w.heap.size+1≠D by omega)).trans v2;have y0:=cell_of_row _ _ 0 _ _ _ e2;refine⟨by simp,.inl ⟨_,_,rfl,run_takeDeferred vk,?_⟩⟩;refine⟨.int .i64 (-1),?_,by rw[HN.o];rfl,vb.trans ?_⟩
  ·simp[results,f148,go_sem,y0]
  ·exact belowK_b (w:=w) (Nat.le_refl _) _ D _ _ (by omega) vk rfl rfl
 case stop=>
  rintro D c pre W hD hpre ⟨⟨rfl,q,j,⟨rfl,hq,hj⟩,q2⟩,hB1⟩ hK;have HF:Hid (Gd.placeT T h=some j):=hid (by
   obtain⟨r,hr⟩:=hpre;unfold Gd.placeT;rw[←hr,List.append_assoc,List.find?_append,List.find?_eq_none.2 (fun k hk=>by
    have:=hq k hk
    unfold Je at this;rw[this];decide)]
   unfold Je at hj;rw[List.singleton_append,List.find?_cons,hj];rfl)
  gi_wp2
  have e2:zh (W.putObj D (.deferred none)) (w.heap.size+1) 3 _:=(World.putObj_heap_other (show w.heap.size+1≠D by omega)).trans q2;have y0:=cell_of_row _ _ 0 _ _ _ e2;refine⟨by simp,.inl ⟨_,_,rfl,run_takeDeferred hK,?_⟩⟩;refine⟨.int .i64 (j.val:Nat),?_,by rw[HF.o];rfl,hB1.trans ?_⟩
  ·simp[results,f148,go_sem,y0]
  ·exact belowK_b (w:=w) (Nat.le_refl _) _ D _ _ (by omega) hK rfl rfl
theorem vh(T:Gd.Tab)(hOk:Gd.TabOk T)(s:ByteArray)(hs:s.size≤100000)(h:Nat)(hh:(h:Int)=xA s.data.toList)(w:World):
 Calls prog 148 #[zW T,.string s] w fun e W'=>e= .returned (.int .i64 (vG (Gd.placeT T h)))∧Below w.heap.size w W':=
 callsIn_wide.1 (QZ T hOk s hs h hh w)
end
section
open Go.Shelf
attribute [local go_sem] Oper.semAt_some
def Zl(e:Gd.Ent):Value:= .agg #[.string ⟨e.s.toArray⟩,.int .i64 e.i]
theorem Zm(k:Int)(w:World):Calls prog 163 #[.int .i64 k] w fun e w'=>e= .returned (.bool (decide (0≤k)&&decide (k<4)))∧w'=w:=by
 go_enter func163,ntmps163;by_cases h0:0≤k
 ·by_cases h4:k<4
  ·go_wp2;go_ret
   exact⟨zq (by simp[h0,h4]),rfl⟩
  ·go_wp2;go_ret
   exact⟨zq (by simp[h0,h4]),rfl⟩
 ·go_wp2;go_ret
  exact⟨zq (by simp;omega),rfl⟩
theorem Vo{e:Gd.Ent}(h:e≠Gd.noEnt):e.i≠0∨e.s≠[]:=by
 obtain⟨s,i⟩:=e;by_cases hi:i=0
 ·right
  intro hs;apply h
  show Gd.Ent.mk s i=⟨[],0⟩
  rw[show s=[] from hs,hi]
 ·exact Or.inl hi
theorem qZ{s:List UInt8}(h:s≠[]):(⟨s.toArray⟩:ByteArray).toList.isEmpty=false:=by
 rw[Lib.toList_data]
 cases s with
 |nil=>exact absurd rfl h
 |cons a r=>rfl
theorem QV(e:Gd.Ent)(w:World):Calls prog 194 #[Zl e] w fun x w'=>x= .returned (.bool (decide (e≠Gd.noEnt)))∧Below w.heap.size w w':=by
 unfold Zl;obtain⟨es,hes⟩:∃es:ByteArray,es=⟨e.s.toArray⟩:=⟨_,rfl⟩;obtain⟨ei,hei⟩:=nm e.i;rw[←hes,←hei];by_cases hno:e=Gd.noEnt
 ·have hi0:ei=0:=by rw[hei,hno];rfl
  have hs0:es.toList.isEmpty=true:=by rw[hes,hno,Lib.toList_data];rfl
  have HD:Hid (decide (e≠Gd.noEnt)=false):=hid (by simp[hno]);subst hi0;clear hno hes hei;go_enter func194,ntmps194;go_wp2;go_ret
  exact⟨zq HD.o.symm,(Below.refl _ _).alloc (Nat.le_refl _) _⟩
 ·have HD:Hid (decide (e≠Gd.noEnt)=true):=hid (by simp[hno]);rcases Vo hno with h|h
  ·have hi:(ei:Int)≠0:=by omega
   have hi':¬ei=0:=by omega
   clear hno hes hei h;go_enter func194,ntmps194;go_wp2;go_ret
   exact⟨zq HD.o.symm,(Below.refl _ _).alloc (Nat.le_refl _) _⟩
  ·have hs0:=qZ h;rw[←hes]at hs0;clear hno hes hei h;go_enter func194,ntmps194;go_wp2;go_ret
   exact⟨zq HD.o.symm,(Below.refl _ _).alloc (Nat.le_refl _) _⟩
def J4(e:Gd.Ent):Bool:=decide (e=Gd.noEnt)||(Np.nameB e.s&&(decide (1≤e.i)&&decide (e.i≤32)))
theorem YY(e:Gd.Ent):J4 e=true↔e.May:=by
 unfold J4 Gd.Ent.May;simp
theorem Vp(e:Gd.Ent)(hl:e.s.length≤100000)(hi9:e.i≤100000)(w:World):Calls prog 181 #[Zl e] w fun x w'=>x= .returned (.bool (J4 e))∧Below w.heap.size w w':=by
 unfold Zl;have HMy:=hid fun W=>QF ⟨e.s.toArray⟩ W (by rw[Lib.size_eq];show e.s.length≤_;omega);rw[show(⟨e.s.toArray⟩:ByteArray).data.toList=e.s from rfl]at HMy;obtain⟨es,hes⟩:∃es:ByteArray,es=⟨e.s.toArray⟩:=⟨_,rfl⟩;obtain⟨ei,hei⟩:=nm e.i;rw[←hes,←hei];rw[←hes]at HMy;rw[←hei]at hi9;obtain⟨bn,hbn⟩:=nm (Np.nameB e.s);rw[←hbn]at HMy;obtain⟨wb,hwb⟩:=nm (w.alloc (.cells #[.string es,.int .i64 ei] 75));have hrow:wb.heap[w.heap.size]? =some (.cells #[.string es,.int .i64 ei] 75 (0,0)):=by rw[hwb];exact heap_alloc_new _ _
 have HBb:Hid (Below w.heap.size w wb):=hid (by rw[hwb];exact(Below.refl _ _).alloc (Nat.le_refl _) _);have Hwb:=hid hwb;have c0:wb.cell? ⟨w.heap.size,0,none⟩=some (.string es):=cell_of_row _ _ 0 _ _ _ hrow;have c1:wb.cell? ⟨w.heap.size,1,none⟩=some (.int .i64 ei):=cell_of_row _ _ 1 _ _ _ hrow;have HRow:=hid hrow;clear hrow hwb;by_cases hno:e=Gd.noEnt
 ·have hi0:ei=0:=by rw[hei,hno];rfl
  have hs0:es.toList.isEmpty=true:=by rw[hes,hno,Lib.toList_data];rfl
  have HD:Hid (J4 e=true):=hid (by simp[J4,hno]);have Hi0:=hid hi0;clear hno hes hei hbn hi0;go_enter func181,ntmps181;go_upto_region 1 with fail
  rw[←Hwb.o];obtain rfl:=Hi0.o
  go_wp2_with fail
  go_ret
  exact⟨zq HD.o.symm,HBb.o⟩
 ·have HD:Hid (J4 e=(bn&&(decide (1≤ei)&&decide (ei≤32)))):=hid (by unfold J4;rw[decide_eq_false hno,hbn,hei];rfl);have hne:(ei:Int)≠0∨es.toList.isEmpty=false:=by
   rcases Vo hno with h|h
   ·exact Or.inl (by omega)
   ·exact Or.inr (by rw[hes];exact qZ h)
  clear hno hes hei hbn;have hkeep:∀W:World,Below wb.heap.size wb W→W.cell? ⟨w.heap.size,1,none⟩=some (.int .i64 ei):=fun W hb=>(hb.cell (p:=⟨w.heap.size,1,none⟩) (za HRow.o)).trans c1;have HKp:=hid hkeep;clear hkeep;rcases hne with h|h
  all_goals
   cases bn with
   |false=>
    go_enter func181,ntmps181;go_upto_region 1 with fail
    rw[←Hwb.o];go_wp2_with(go_at_call 121;refine(HMy.o _).mono ?_;rintro x w2 ⟨rfl,hb2⟩;have d1:=HKp.o _ hb2;have HB2:=HBb.t hb2;clear hb2)
    go_ret
    exact⟨zq (by rw[HD.o];rfl),HB2.o⟩
   |true=>
    by_cases h1:1≤ei
    ·by_cases h32:ei≤32
     ·have g1:(1:Int)≤ei:=by omega
      have g2:(ei:Int)≤32:=by omega
      go_enter func181,ntmps181;go_upto_region 1 with fail
      rw[←Hwb.o];go_wp2_with(go_at_call 121;refine(HMy.o _).mono ?_;rintro x w2 ⟨rfl,hb2⟩;have d1:=HKp.o _ hb2;have HB2:=HBb.t hb2;clear hb2)
      go_ret
      exact⟨zq (by rw[HD.o];simp[h1,h32]<;>omega),HB2.o⟩
     ·have g1:(1:Int)≤ei:=by omega
      have g2:¬(ei:Int)≤32:=by omega
      go_enter func181,ntmps181;go_upto_region 1 with fail
      rw[←Hwb.o];go_wp2_with(go_at_call 121;refine(HMy.o _).mono ?_;rintro x w2 ⟨rfl,hb2⟩;have d1:=HKp.o _ hb2;have HB2:=HBb.t hb2;clear hb2)
      go_ret
      exact⟨zq (by rw[HD.o];simp[h32]<;>omega),HB2.o⟩
    ·first
     |(exfalso;omega)
     |(have g1:¬(1:Int)≤ei:=by omega
       go_enter func181,ntmps181;go_upto_region 1 with fail
       rw[←Hwb.o];go_wp2_with(go_at_call 121;refine(HMy.o _).mono ?_;rintro x w2 ⟨rfl,hb2⟩;have d1:=HKp.o _ hb2;have HB2:=HBb.t hb2;clear hb2)
       go_ret
       exact⟨zq (by rw[HD.o];simp[h1]<;>omega),HB2.o⟩)
end
section
open Go.Shelf
attribute [local go_sem] Oper.semAt_some
structure yQ(w:World)(b o:Nat)(L:List Gd.Ent):Prop where
 lt:b<w.heap.size
 cell:∀j x,L[j]? =some x→w.cell? ⟨b,o+j*2,none⟩=some (.string ⟨x.s.toArray⟩)∧w.cell? ⟨b,o+j*2+1,none⟩=some (.int .i64 x.i)
theorem yQ.keep{w w':World}{b o:Nat}{L:List Gd.Ent}(h:yQ w b o L)(hb:Below w.heap.size w w'):yQ w' b o L:=
 ⟨Nat.lt_of_lt_of_le h.lt hb.size,fun j x hx=>⟨(hb.cell (p:=⟨b,o+j*2,none⟩) h.lt).trans (h.cell j x hx).1,(hb.cell (p:=⟨b,o+j*2+1,none⟩) h.lt).trans (h.cell j x hx).2⟩⟩
theorem ZD{w:World}{b t:Nat}{T:Gd.Tab}(h:w.heap[b]? =some (.cells (zk T) t (0,0)))(k:Nat):yQ w b (k*8) ((T.drop (4*k)).take 4):=⟨za h,fun j x hx=>by
 have hj:j<4:=by have:=(List.getElem?_eq_some_iff.1 hx).1;rw[List.length_take]at this;omega
 rw[List.getElem?_take,if_pos hj,List.getElem?_drop]at hx;have:=jH h hx
 rw[show(4*k+j)*2=k*8+j*2 by omega]at this;exact this⟩
theorem VC{L:List Gd.Ent}{k:Nat}{x:Gd.Ent}(h:(L.take k).any (fun e=>decide (e≠Gd.noEnt))=false)(hx:L[k]? =some x):(L.take (k+1)).any (fun e=>decide (e≠Gd.noEnt))=decide (x≠Gd.noEnt):=by
 rw[List.take_add_one,hx,List.any_append,h];simp
theorem Yh{L:List Gd.Ent}{k:Nat}{x:Gd.Ent}(hx:L[k]? =some x)(h:decide (x≠Gd.noEnt)=true):L.any (fun e=>decide (e≠Gd.noEnt))=true:=by
 rw[List.any_eq_true];exact⟨x,List.mem_of_getElem? hx,h⟩
def U4(L:List Gd.Ent)(w:World)(e:Ending)(w':World):Prop:=∃r:Int,e= .returned (.int .i64 r)∧decide (0≤r)=L.any (fun e=>decide (e≠Gd.noEnt))∧Below w.heap.size w w'
theorem Qf(b o:Nat)(L:List Gd.Ent)(c:Nat)(w:World)(hL:L.length≤1000)(hS:yQ w b o L):
 Calls prog 206 #[.slice (some ⟨b,o,none⟩) L.length c,.func (.func 194) #[] #[]] w (U4 L w):=by
 have HS:=hid hS;clear hS;go_enter func206,ntmps206;go_wp2;go_loopw[5,8] (fun _ i wr=>∃k:Nat,k≤L.length∧i= .int .i64 k∧Hid ((L.take k).any (fun e=>decide (e≠Gd.noEnt))=false)∧Below w.heap.size w wr) (fun _ i _=>L.length-(intOf i).toNat)
 case atStart=>exact⟨0,by omega,rfl,hid (by simp),Below.refl _ _⟩
 case round=>
  obtain⟨k,hk,rfl,hok,hbw⟩:=hrel;by_cases hlt:k<L.length
  ·obtain⟨x,hx⟩:∃x,L[k]? =some x:=⟨_,List.getElem?_eq_getElem hlt⟩;obtain⟨c0,c1⟩:=(HS.o.keep hbw).cell k x hx;have HU:=hid fun W=>QV x W;have Hst:=hid (VC hok.o hx);have Hfd:=hid (Yh hx);unfold Zl at HU;obtain⟨xs,hxs⟩:∃xs:ByteArray,xs=⟨x.s.toArray⟩:=⟨_,rfl⟩;obtain⟨xi,hxi⟩:∃xi:Nat,xi=x.i:=⟨_,rfl⟩;rw[←hxs,←hxi]at HU;rw[←hxs]at c0;rw[←hxi]at c1;obtain⟨g,hg⟩:=nm (decide (x≠Gd.noEnt));rw[←hg]at HU Hst Hfd;clear hx hxs hxi hg
   cases g with
   |false=>
    clear Hfd;go_wp2_with fail
    refine(HU.o _).mono ?_
    rintro e w2 ⟨rfl,hb⟩;go_wp2;go_roundw
    case rel=>exact⟨k+1,by omega,by go_num,Hst,hbw.trans (hb.mono hbw.size)⟩
    case measure=>simp[intOf];omega
   |true=>
    go_wp2_with fail
    refine(HU.o _).mono ?_
    rintro e w2 ⟨rfl,hb⟩;go_wp2;go_ret
    refine⟨_,rfl,?_,hbw.trans (hb.mono hbw.size)⟩;rw[Hfd.o trivial];simp
  ·go_wp2;go_ret
   refine⟨_,rfl,?_,hbw⟩;have:=hok.o
   rw[List.take_of_length_le (by omega)]at this;rw[this];rfl
theorem ul(b o:Nat)(L:List Gd.Ent)(c:Nat)(w:World)(hL:L.length≤1000)(hS:yQ w b o L):
 Calls prog 193 #[.slice (some ⟨b,o,none⟩) L.length c,.func (.func 194) #[] #[]] w fun e w'=>e= .returned (.bool (L.any (fun e=>decide (e≠Gd.noEnt))))∧Below w.heap.size w w':=by
 have H:=hid (Qf b o L c w hL hS);clear hS;go_enter func193,ntmps193;go_wp2_with fail
 refine H.o.mono ?_;rintro e w2 ⟨r,rfl,hr,hb⟩;have Hr:=hid hr;clear hr;go_wp2;go_ret
 exact⟨zq Hr.o,hb⟩
theorem sizeEnt:(prog.info? 75).map (fun i=>i.size)=some 2:=by kernel_rfl
theorem Yv{k:Nat}(hk:k<4)(b:Nat)(w:World):(Instr.sliceAt 77 (.pointer (some ⟨b,0,none⟩)) (some (.int .i64 (4*(k:Int)))) (some (.int .i64 (4*(k:Int)+4))) none).run prog w= .ok (.slice (some ⟨b,k*8,none⟩) 4 (16-4*k)) w:=by
 have hal:prog.arrayLen 77=16:=by simp[Program.arrayLen,underlying77]
 have hel:prog.elem 77=75:=by simp[Program.elem,underlying77]
 rw[run_sliceAt_array_lh w 77 ⟨b,0,none⟩ (by rw[hal,hel];exact underlying77) .i64 .i64 (4*(k:Int)) (4*(k:Int)+4) (by omega) (by omega) (by rw[hal];omega),hal,hel];have hs:(sizeOf 75).run prog w= .ok 2 w:=by simp[go_sem]
 rw[hs];simp only[Result.andThen_ok,slicedAt];rw[show(4*(k:Int)).toNat=4*k by omega,show(4*(k:Int)+4).toNat=4*k+4 by omega,if_neg (by omega)];unfold Addr.add;rw[show 4*k+4-4*k=4 by omega];by_cases h0:4*k*2=0
 ·rw[if_pos h0,show k*8=0 by omega]
 ·rw[if_neg h0];simp only[Nat.zero_add];rw[show 4*k*2=k*8 by omega]
theorem xG(T:Gd.Tab)(hT:T.length=16)(k:Nat)(hk:k<4)(w:World):Calls prog 174 #[zW T,.int .i64 k] w fun e w'=>e= .returned (.bool (Gd.usedT T k))∧Below w.heap.size w w':=by
 have hsz:=zF hT;obtain⟨wb,hwb⟩:=nm (w.alloc (.cells (zk T) 77));have hrow:wb.heap[w.heap.size]? =some (.cells (zk T) 77 (0,0)):=by rw[hwb];exact heap_alloc_new _ _
 have HBb:Hid (Below w.heap.size w wb):=hid (by rw[hwb];exact(Below.refl _ _).alloc (Nat.le_refl _) _);have Hwb:=hid hwb;have hEn:=ZD hrow k;have hl:((T.drop (4*k)).take 4).length=4:=by rw[List.length_take,List.length_drop];omega
 have HC:=hid (ul w.heap.size (k*8) _ (16-4*k) wb (by omega) hEn);rw[hl]at HC;have HC2:Hid (Calls prog 193 #[.slice (some ⟨w.heap.size,k*8,none⟩) 4 (16-4*k),.func (.func 194) #[] #[]] wb fun e w'=>e= .returned (.bool (Gd.usedT T k))∧Below wb.heap.size wb w'):=HC;have HI:=hid fun W=>Zm (k:Int) W;rw[show(decide ((0:Int)≤k)&&decide ((k:Int)<4))=true by simp;omega]at HI;have hk4:(k:Int)<4:=by omega
 have hk0:(0:Int)≤k:=by omega
 clear hwb hrow hEn hl HC;unfold zW;go_enter func174,ntmps174;go_upto_region 1 with fail
 rw[←Hwb.o];have hS4:=fun W=>Yv hk w.heap.size W;go_wp2_with(first|(go_at_call 163;refine(HI.o _).mono ?_;rintro e w2 ⟨rfl,rfl⟩)|(go_at_call 193;refine HC2.o.mono ?_;rintro e w2 ⟨rfl,hb2⟩))
 go_ret
 exact⟨rfl,HBb.o.trans (hb2.mono HBb.o.size)⟩
theorem ZE{T:Gd.Tab}{j:Nat}(hj:j<T.length)(e:Gd.Ent):zk (Gd.setT T j e)=((zk T).setIfInBounds (j*2) (.string ⟨e.s.toArray⟩)).setIfInBounds (j*2+1) (.int .i64 e.i):=by
 have h:=jQ (xO e) (j*2) (zk T) (by
  show _+2≤_
  unfold zk;rw[List.size_toArray,xB];omega)
 rw[←Array.toList_inj];refine Eq.trans ?_ h.symm;show(Gd.setT T j e).flatMap xO=(T.flatMap xO).take (j*2)++xO e++(T.flatMap xO).drop (j*2+2)
 unfold Gd.setT;have e1:=List.take_append_drop j T;have e2:T.drop j=T[j]::T.drop (j+1):=List.drop_eq_getElem_cons hj;have l1:((T.take j).flatMap xO).length=j*2:=by rw[xB,List.length_take];omega
 rw[List.set_eq_take_append_cons_drop,if_pos hj,List.flatMap_append,List.flatMap_cons];have e3:T.flatMap xO=(T.take j).flatMap xO++(xO T[j]++(T.drop (j+1)).flatMap xO):=by
  rw[←List.flatMap_cons,←e2,←List.flatMap_append,e1]
 rw[e3,List.take_left' l1,List.append_assoc];congr 2
 rw[←List.append_assoc,List.drop_left' (by rw[List.length_append,l1];rfl)]
theorem qh:zk Gd.noTab=#[Value.string {data:=#[]},Value.int IntKind.i64 0,Value.string {data:=#[]},Value.int IntKind.i64 0,Value.string {data:=#[]},Value.int IntKind.i64 0,Value.string {data:=#[]},Value.int IntKind.i64 0,Value.string {data:=#[]},Value.int IntKind.i64 0,Value.string {data:=#[]},Value.int IntKind.i64 0,Value.string {data:=#[]},Value.int IntKind.i64 0,Value.string {data:=#[]},Value.int IntKind.i64 0,Value.string {data:=#[]},Value.int IntKind.i64 0,Value.string {data:=#[]},Value.int IntKind.i64 0,Value.string {data:=#[]},Value.int IntKind.i64 0,Value.string {data:=#[]},Value.int IntKind.i64 0,Value.string {data:=#[]},Value.int IntKind.i64 0,Value.string {data:=#[]},Value.int IntKind.i64 0,Value.string {data:=#[]},Value.int IntKind.i64 0,Value.string {data:=#[]},Value.int IntKind.i64 0]:=by rfl
theorem ZB(T:Gd.Tab)(hT:T.length=16)(j:Nat)(hj:j<16)(e:Gd.Ent)(w:World):Calls prog 150 #[zW T,.int .i64 j,Zl e] w fun x w'=>x= .returned (zW (Gd.setT T j e))∧Below w.heap.size w w':=by
 have hsz:=zF hT;obtain⟨tb,htb⟩:=nm w.heap.size;obtain⟨w3,hw3⟩:=nm (((w.alloc (.cells (zk T) 77)).alloc (.cells #[.string ⟨e.s.toArray⟩,.int .i64 e.i] 75)).alloc (.cells (zk Gd.noTab) 77));have hB3:Below w.heap.size w w3:=by rw[hw3];exact(((Below.refl _ _).alloc (Nat.le_refl _) _).alloc (by simp) _).alloc (by simp;omega) _
 have r0:w3.heap[tb]? =some (.cells (zk T) 77 (0,0)):=by rw[hw3,htb];exact zh.alloc (zh.alloc (heap_alloc_new w _) _) _
 have r1:w3.heap[tb+1]? =some (.cells #[.string ⟨e.s.toArray⟩,.int .i64 e.i] 75 (0,0)):=by
  have:=heap_alloc_new (w.alloc (.cells (zk T) 77)) (.cells #[.string ⟨e.s.toArray⟩,.int .i64 e.i] 75)
  rw[World.size_alloc]at this;rw[hw3,htb];exact zh.alloc this _
 have r2:w3.heap[tb+1+1]? =some (.cells (zk Gd.noTab) 77 (0,0)):=by
  have:=heap_alloc_new ((w.alloc (.cells (zk T) 77)).alloc (.cells #[.string ⟨e.s.toArray⟩,.int .i64 e.i] 75)) (.cells (zk Gd.noTab) 77)
  rw[World.size_alloc,World.size_alloc]at this;rw[hw3,htb];exact this
 have hg:=Gd.entAt_get hT hj;obtain⟨t0,t1⟩:=jH r0 hg;obtain⟨o,ho⟩:∃o:ByteArray,o=⟨(Gd.entAt T j).s.toArray⟩:=⟨_,rfl⟩;obtain⟨oi,hoi⟩:∃o:Int,o=(Gd.entAt T j).i:=⟨_,rfl⟩;rw[←ho]at t0;rw[←hoi]at t1;obtain⟨es,hes⟩:∃es:ByteArray,es=⟨e.s.toArray⟩:=⟨_,rfl⟩;obtain⟨ei,hei⟩:∃ei:Int,ei=e.i:=⟨_,rfl⟩;obtain⟨T',hT'⟩:=nm (Gd.setT T j e);have hsz':(zk T').size=32:=by rw[hT'];exact zF (by unfold Gd.setT;rw[List.length_set];exact hT)
 have hset:=ZE (T:=T) (j:=j) (by omega) e;rw[←hes,←hei,←hT']at hset;rw[←hes,←hei]at hw3 r1;have f0:=frozen_of_row w3 tb (j*2) _ _ r0;have f1:=frozen_of_row w3 tb (j*2+1) _ _ r0;have e0:w3.cell? ⟨tb+1,0,none⟩=some (.string es):=cell_of_row _ _ 0 _ _ _ r1;have e1:w3.cell? ⟨tb+1,1,none⟩=some (.int .i64 ei):=cell_of_row _ _ 1 _ _ _ r1;obtain⟨w4,hw4⟩:=nm ((w3.setCell ⟨tb,j*2,none⟩ (.string es)).setCell ⟨tb,j*2+1,none⟩ (.int .i64 ei));have hB4:Below w.heap.size w w4:=by rw[hw4,htb];exact(hB3.setCell (Nat.le_refl _) _).setCell (Nat.le_refl _) _
 have s0:w4.heap[tb]? =some (.cells (zk T') 77 (0,0)):=by
  rw[hw4,hset];exact Go.heap_setCell_same _ tb _ _ _ _ (Go.heap_setCell_same w3 tb _ _ _ _ r0)
 have s2:w4.heap[tb+1+1]? =some (.cells (zk Gd.noTab) 77 (0,0)):=by
  rw[hw4];exact(Go.heap_setCell_other _ ⟨tb,j*2+1,none⟩ (tb+1+1) _ (show tb+1+1≠tb by omega)).trans ((Go.heap_setCell_other _ ⟨tb,j*2,none⟩ (tb+1+1) _ (show tb+1+1≠tb by omega)).trans r2)
 have HZs:Hid ((zk Gd.noTab).size=32):=hid (zF rfl);have HS:=hid hsz;have HS':=hid hsz';have Hb:=hid htb.symm;have HW3:=hid hw3;have HW4:=hid hw4;have HB4:=hid hB4;have HS0:=hid s0;have HS2:=hid s2;have hj0:(0:Int)≤j:=by omega
 have hj16:(j:Int)<16:=by omega
 unfold zW Zl;rw[←hT',←hes,←hei];clear hsz htb hw3 hB3 r0 r1 r2 hg ho hoi hes hei hT' hsz' hset hw4 hB4 s0 s2;go_enter func150,ntmps150;go_upto_region 1 with fail
 rw[←qh,←HW3.o,Hb.o];go_upto_region 3 with fail
 rw[←HW4.o];go_wp2_with(first|(refine wpList_load_row rfl 77 _ rfl tb rfl 77 (zk T') (0,0) _ HS0.o underlying77 rfl (by rw[HS'.o];exact sizeTab) ?_)|(refine wpList_store_mid rfl 77 _ _ rfl (tb+1+1) 0 (zk T') rfl rfl (zd HS2.o (by rw[HZs.o,HS'.o])) (by rw[HS'.o];exact sizeTab) (zQ _) ?_;obtain⟨hbw,hbg⟩:=zC HS2.o (vs:=(zk T').toList) (B:=tb) (by rw[HZs.o,Array.length_toList,HS'.o]) (show tb≤tb+1+1 by omega);generalize (World.setCells _ _ _ _)=wf at hbw hbg⊢))
 refine bodyPost_ret (results_cell_row rfl _ _ (tb+1+1) 77 (zk T') (0,0) _ rfl hbg underlying77 rfl (by rw[HS'.o];exact sizeTab)) rfl ?_;exact⟨rfl,HB4.o.trans (by rw[Hb.o];exact hbw)⟩
end
section
open Go.Shelf
attribute [local go_sem] Oper.semAt_some
theorem Vn{L:List Gd.Ent}{i:Nat}{e:Gd.Ent}(h:L[i]? =some e):(L.take (i+1)).flatMap Gd.entB=(L.take i).flatMap Gd.entB++Gd.le e.i 1++Gd.le e.s.length 1++e.s++List.replicate (14-e.s.length) 0:=by
 rw[List.take_add_one,h,List.flatMap_append];show _++(Gd.entB e++[])=_
 rw[List.append_nil];simp[Gd.entB,Gd.le]
theorem uR:∀{L:List Gd.Ent} (_:∀e∈L,e.May),(L.flatMap Gd.entB).length=16*L.length
 |[],_=>rfl
 |e::r,h=>by
  rw[List.flatMap_cons,List.length_append,Gd.entB_length (h e (List.mem_cons_self ..)),uR fun x hx=>h x (List.mem_cons_of_mem _ hx),List.length_cons];omega
theorem xT(T:Gd.Tab)(hOk:Gd.TabOk T)(k:Nat)(hk:k<4)(w:World):
 Calls prog 164 #[zW T,.int .i64 k] w fun e w'=>∃v,e= .returned (.tuple #[v,.int .i64 0])∧zV w' w.heap.size v (Gd.blkT T k)∧Below w.heap.size w w':=by
 have hT:=hOk.len;obtain⟨tb,htb⟩:=nm w.heap.size;obtain⟨wb,hwb⟩:=nm (w.alloc (.cells (zk T) 77));have hrow:wb.heap[tb]? =some (.cells (zk T) 77 (0,0)):=by rw[hwb,htb];exact heap_alloc_new _ _
 have HBb:Hid (Below w.heap.size w wb):=hid (by rw[hwb];exact(Below.refl _ _).alloc (Nat.le_refl _) _);have Hwb:=hid hwb;have hsb:tb<wb.heap.size:=za hrow;have hEn:=ZD hrow k;have HI:=hid fun W=>Zm (k:Int) W;rw[show(decide ((0:Int)≤k)&&decide ((k:Int)<4))=true by simp;omega]at HI;obtain⟨L,hL⟩:=nm ((T.drop (4*k)).take 4);have hl:L.length=4:=by rw[hL,List.length_take,List.length_drop];omega
 rw[←hL]at hEn;have hLm:∀e∈L,e.May:=fun e he=>hOk.may e (by rw[hL]at he;exact List.mem_of_mem_drop (List.mem_of_mem_take he));have HLm:=hid hLm;have HLl:=hid hl;have HRes:Hid (Gd.blkT T k=L.flatMap Gd.entB):=hid (by rw[hL];rfl);have HEn:=hid hEn;have Htb:=hid htb.symm;have HLt:∀i,i≤4→((L.take i).flatMap Gd.entB).length=16*i:=fun i hi=>by
  rw[uR fun e he=>hLm e (List.mem_of_mem_take he),List.length_take,hl];omega
 have HLT:=hid HLt;have hk4:(k:Int)<4:=by omega
 have hk0:(0:Int)≤k:=by omega
 have hS4:=fun W=>Yv hk tb W;clear hOk hT htb hwb hrow hEn hL hl hLm HLt;unfold zW;rw[HRes.o];clear HRes;go_enter func164,ntmps164;go_upto_region 1 with fail
 rw[←Hwb.o,Htb.o];go_upto_region 3 with(go_at_call 163;refine(HI.o _).mono ?_;rintro e w2 ⟨rfl,rfl⟩)
 go_upto_region 5 with fail
 go_loopw[6,19] (fun u z wr=>∃i:Nat,z= .int .i64 i∧i≤4∧Hid (zV wr w2.heap.size u ((L.take i).flatMap Gd.entB))∧Hid (Below w2.heap.size w2 wr)) (fun _ z _=>4-(intOf z).toNat)
 case atStart=>exact⟨0,rfl,by omega,hid (World.ownsRow_nil _ _ _ _),hid (Below.refl _ _)⟩
 case round=>
  obtain⟨i,rfl,hin,HO,HBw⟩:=hrel;by_cases hlt:i<4
  ·obtain⟨e,he⟩:∃e,L[i]? =some e:=⟨_,List.getElem?_eq_getElem (by have:=HLl.o;omega)⟩;obtain⟨q0,q1⟩:=(HEn.o.keep HBw.o).cell i e he;have h1:(i:Int)<4:=by omega
   have h0:(0:Int)≤i:=by omega
   have HX:=hid he;have hem:=HLm.o e (List.mem_of_getElem? he);have hlen:=Gd.May.len hem;have HMy:=hid fun W=>Vp e (by omega) (by omega) W;rw[(YY e).2 hem]at HMy;clear he hem;go_upto_region 7 with fail
   obtain⟨q,hq⟩:=nm e.i;obtain⟨s,hs⟩:∃s:ByteArray,s=⟨e.s.toArray⟩:=⟨_,rfl⟩;obtain⟨l,hl⟩:=nm e.s.length;have hsz:s.size=l:=by rw[hs,hl];rfl
   unfold Zl at HMy;rw[←hq,←hs]at HMy;rw[←hq,←hs];rw[←hq,←hl]at hlen;have hl12:(l:Int)≤12:=by omega
   have hl12':l≤12:=by omega
   have hq32:q≤32:=by omega
   obtain⟨wz,hwz⟩:=nm (wr.alloc (.cells #[.string s,.int .i64 q] 75));rw[←hwz];have hbz:Below wr.heap.size wr wz:=by rw[hwz];exact(Below.refl _ _).alloc (Nat.le_refl _) _
   have hz:wz.heap[wr.heap.size]? =some (.cells #[.string s,.int .i64 q] 75 (0,0)):=by rw[hwz];exact heap_alloc_new _ _
   obtain⟨zb,hzb⟩:=nm wr.heap.size;rw[←hzb]at hz⊢;have HZ:=hid hz;have z0:wz.cell? ⟨zb,0,none⟩=some (.string s):=cell_of_row wz zb 0 _ _ _ hz;have z1:wz.cell? ⟨zb,1,none⟩=some (.int .i64 q):=cell_of_row wz zb 1 _ _ _ hz;have HBwz:Hid (Below w2.heap.size w2 wz):=HBw.t hbz;have HOz:=hid (HO.o.keep hbz);have HQ:=hid (And.intro hq (And.intro hs hl));obtain⟨PL,hPL⟩:=nm ((L.take i).flatMap Gd.entB);have HPl:Hid (PL.length=16*i):=hid (by rw[hPL];exact HLT.o i hin);rw[←hPL]at HOz;have HNext:Hid ((L.take (i+1)).flatMap Gd.entB=PL++Gd.le q 1++Gd.le l 1++e.s++List.replicate (14-l) 0):=hid (by rw[Vn HX.o,←hPL,←hq,←hl]);clear hwz hbz hz q0 q1 hq hs hl hzb hPL HO HX hlen hlt;go_wp2_with fail
   refine(HMy.o _).mono ?_
   rintro x w3 ⟨rfl,hb3⟩;have HO3:=hid (HOz.o.keep hb3);have HBw3:=HBwz.t hb3;have HZ3:=hid ((hb3.block zb (za HZ.o)).trans HZ.o);clear hb3 z0 z1 HMy HOz;have z0:w3.cell? ⟨zb,0,none⟩=some (.string s):=cell_of_row w3 zb 0 _ _ _ HZ3.o;have z1:w3.cell? ⟨zb,1,none⟩=some (.int .i64 q):=cell_of_row w3 zb 1 _ _ _ HZ3.o;have HP1:=hid (jj u6 PL q 1 (Or.inl rfl) (by omega) (by omega) w3 HO3.o.at_ (by have:=HPl.o;omega));go_wp2_with fail
   refine HP1.o.mono ?_;rintro x w4 ⟨v4,rfl,ho4,hb4⟩;have HO4:=hid (ho4.mono HBw3.o.size);have HBw4:=HBw3.t hb4;have HZ4:=hid ((hb4.block zb (za HZ3.o)).trans HZ3.o);clear ho4 hb4 HP1 z0 z1 HO3;have z0:w4.cell? ⟨zb,0,none⟩=some (.string s):=cell_of_row w4 zb 0 _ _ _ HZ4.o;have HP2:=hid (jj v4 _ l 1 (Or.inl rfl) (by omega) (by omega) w4 HO4.o.at_ (by rw[List.length_append,Gd.le_length];have:=HPl.o;omega));go_wp2_with fail
   refine HP2.o.mono ?_;rintro x w5 ⟨v5,rfl,ho5,hb5⟩;have HO5:=hid (ho5.mono HBw4.o.size);have HBw5:=HBw4.t hb5;have HZ5:=hid ((hb5.block zb (za HZ4.o)).trans HZ4.o);clear ho5 hb5 HP2 z0 HO4;have z0:w5.cell? ⟨zb,0,none⟩=some (.string s):=cell_of_row w5 zb 0 _ _ _ HZ5.o;go_upto_region 12 with(at_builtin;refine QP rfl _ _ rfl w2.heap.size v5 _ w5 rfl HO5.o e.s s HQ.o.2.1 rfl (by rw[List.length_append,List.length_append,Gd.le_length,Gd.le_length,←HQ.o.2.2,HPl.o];omega) HBw5.o.size ?_;intro v6 w6 ho6 hb6)
   have HO6:=hid ho6;have HBw6:=hid (HBw5.o.trans hb6);clear ho6 hb6 z0 HO5;obtain⟨A6,c6,rfl,ht6⟩:=HO6.o.at_;have hl6:(PL++Gd.le q 1++Gd.le l 1++e.s).length=16*i+2+l:=by rw[List.length_append,List.length_append,List.length_append,Gd.le_length,Gd.le_length,←HQ.o.2.2,HPl.o]
   obtain⟨r,hr⟩:=nm ((PL++Gd.le q 1++Gd.le l 1++e.s).length);rw[←hr]at hl6 HO6⊢;have HRr:=hid hr;have g1:(r:Int)=16*i+2+l:=by omega
   have g2:(l:Int)≤12:=by omega
   clear ht6 hr;go_wp2_with(at_builtin;refine xL rfl _ _ rfl w2.heap.size (.slice A6 r c6) _ w6 rfl HO6.o (14-l) _ rfl (by omega) (by have:=HRr.o;omega) HBw6.o.size ?_;intro v7 w7 ho7 hb7)
   have HO7:Hid (zV w7 w2.heap.size v7 ((L.take (i+1)).flatMap Gd.entB)):=hid (by rw[HNext.o];exact ho7);have HBw7:=hid (HBw6.o.trans hb7);clear ho7 hb7;go_wp2;go_roundw
   case rel=>exact⟨i+1,by go_num,by omega,HO7,HBw7⟩
   case measure=>simp[intOf];omega
  ·obtain rfl:i=4:=by omega
   clear hlt;go_wp2_with fail
   go_ret2
   refine⟨_,rfl,?_,HBb.o.trans (HBw.o.mono HBb.o.size)⟩;have:=HO.o.mono HBb.o.size
   rw[List.take_of_length_le (by have:=HLl.o;omega)]at this;exact this
end
section
open Go.Shelf
attribute [local go_sem] Oper.semAt_some
theorem Yu{b o n c l h:Nat}(h1:l≤h)(h2:h≤c)(h3:l<c)(w:World):(Instr.slice 60 (.slice (some ⟨b,o,none⟩) n c) (some (.int .i64 l)) (some (.int .i64 h)) none).run prog w= .ok (.slice (some ⟨b,o+l,none⟩) (h-l) (c-l)) w:=by
 have hel:prog.elem 60=5:=by simp[Program.elem,underlying60]
 rw[run_slice_lh w 60 _ n c (by rw[hel];exact underlying60) .i64 .i64 (l:Int) (h:Int) (by omega) (by omega) (by omega),hel];have hs:(sizeOf 5).run prog w= .ok 1 w:=by simp[go_sem]
 rw[hs];simp only[Result.andThen_ok,sliced,Int.toNat_natCast];rw[if_neg (by omega)];unfold Addr.add;by_cases h0:l*1=0
 ·simp[show l=0 by omega]
 ·simp
  omega
theorem JI(u v:Value)(L:List UInt8)(w:World)(hu:zH w u L)(hv:zH w v L)(hl:L.length≤100000):Calls prog 165 #[u,v] w fun e w'=>e= .returned (.bool true)∧Below w.heap.size w w':=by
 obtain⟨A,c,rfl,hA⟩:=hu;obtain⟨A',c',rfl,hA'⟩:=hv;obtain⟨n,hn⟩:=nm L.length;have HA:=hid (And.intro hA hA');have Hn:=hid hn;rw[←hn]at hl⊢;clear hn hA hA';go_enter func165,ntmps165;go_wp2;go_loopw[5,13] (fun _ z wr=>∃i:Nat,z= .int .i64 i∧i≤n∧Below w.heap.size w wr) (fun _ z _=>n-(intOf z).toNat)
 case atStart=>exact⟨0,rfl,by omega,Below.refl _ _⟩
 case round=>
  obtain⟨i,rfl,hi,hbw⟩:=hrel;by_cases hlt:i<n
  ·obtain⟨x,hx⟩:∃x,L[i]? =some x:=⟨_,List.getElem?_eq_getElem (by have:=Hn.o;omega)⟩;rcases HA.o.1 with⟨-,h0,-⟩|⟨b,o,rfl,hb,hc⟩
   ·rw[h0]at hx;simp at hx
   rcases HA.o.2 with⟨-,h0,-⟩|⟨b',o',rfl,hb',hc'⟩
   ·rw[h0]at hx;simp at hx
   have c0:=(hbw.cell (p:=⟨b,o+i,none⟩) hb).trans (hc i x hx);have c1:=(hbw.cell (p:=⟨b',o'+i,none⟩) hb').trans (hc' i x hx);have h1:(i:Int)<n:=by omega
   have h0:(0:Int)≤i:=by omega
   have HBw:=hid hbw;clear hx hc hc' hlt hbw;go_upto_region 6 with fail
   go_region
   all_goals
    go_wp2;go_roundw
    case rel=>exact⟨i+1,by go_num,by omega,HBw.o.drew⟩
    case measure=>simp[intOf];omega
  ·go_wp2;go_ret
   exact⟨rfl,hbw⟩
namespace Gd
def rdT(T T2:Tab)(k:Nat):Nat→Tab
 |0=>T
 |i+1=>setT (rdT T T2 k i) (4*k+i) (entAt T2 (4*k+i))
theorem rdT_ok{T T2:Tab}(hT:TabOk T)(hT2:TabOk T2)(k:Nat):∀i,TabOk (rdT T T2 k i)
 |0=>hT
 |i+1=>(rdT_ok hT hT2 k i).set (entAt_may hT2 _)
theorem setT_at{T:Tab}{j i:Nat}{e:Ent}(hT:T.length=16)(hj:j<16):entAt (setT T j e) i=if i=j then e else entAt T i:=by
 unfold entAt setT;rw[List.getD_eq_getElem?_getD,List.getD_eq_getElem?_getD,List.getElem?_set];by_cases h:i=j
 ·subst h;rw[if_pos rfl,if_pos rfl,if_pos (by omega)];rfl
 ·rw[if_neg (Ne.symm h),if_neg h]
theorem rdT_at{T T2:Tab}(hT:TabOk T)(hT2:TabOk T2){k:Nat}(hk:k<4):∀i,i≤4→∀j,entAt (rdT T T2 k i) j=if 4*k≤j∧j<4*k+i then entAt T2 j else entAt T j
 |0,_,j=>by
  rw[if_neg (by omega)];rfl
 |i+1,h,j=>by
  unfold rdT;rw[setT_at (rdT_ok hT hT2 k i).len (by omega),rdT_at hT hT2 hk i (by omega) j];by_cases hj:j=4*k+i
  ·rw[if_pos hj,if_pos (by omega),hj]
  ·rw[if_neg hj];by_cases h2:4*k≤j∧j<4*k+i
   ·rw[if_pos h2,if_pos (by omega)]
   ·rw[if_neg h2,if_neg (by omega)]
theorem tab_ext{T T2:Tab}(h1:T.length=16)(h2:T2.length=16)(h:∀j,j<16→entAt T j=entAt T2 j):T=T2:=by
 apply List.ext_getElem?
 intro j;by_cases hj:j<16
 ·rw[entAt_get h1 hj,entAt_get h2 hj,h j hj]
 ·rw[List.getElem?_eq_none (by omega),List.getElem?_eq_none (by omega)]
theorem blk_ext{T T2:Tab}(h1:T.length=16)(h2:T2.length=16){k:Nat}(hk:k<4)(h:∀i,i<4→entAt T (4*k+i)=entAt T2 (4*k+i)):(T.drop (4*k)).take 4=(T2.drop (4*k)).take 4:=by
 apply List.ext_getElem?
 intro j;rw[List.getElem?_take,List.getElem?_take];by_cases hj:j<4
 ·rw[if_pos hj,if_pos hj,List.getElem?_drop,List.getElem?_drop,entAt_get h1 (by omega),entAt_get h2 (by omega),h j hj]
 ·rw[if_neg hj,if_neg hj]
theorem rdT_blk{T T2:Tab}(hT:TabOk T)(hT2:TabOk T2){k:Nat}(hk:k<4):blkT (rdT T T2 k 4) k=blkT T2 k:=by
 unfold blkT;rw[blk_ext (rdT_ok hT hT2 k 4).len hT2.len hk fun i hi=>by rw[rdT_at hT hT2 hk 4 (Nat.le_refl _),if_pos (by omega)]]
theorem blkT_parts{T:Tab}(hT:TabOk T){k i:Nat}(hk:k<4)(hi:i<4):((blkT T k).drop (16*i)).take 16=entB (entAt T (4*k+i)):=by
 have hl:∀(L:List Ent),(∀e∈L,e.May)→∀i e,L[i]? =some e→((L.flatMap entB).drop (16*i)).take 16=entB e:=by
  intro L;induction L with
  |nil=>intro _ i e h;simp at h
  |cons a r ih=>
   intro hm i e h;have ha:=entB_length (hm a (List.mem_cons_self ..));rw[List.flatMap_cons]
   cases i with
   |zero=>
    simp at h
    rw[h]at ha⊢;rw[Nat.mul_zero,List.drop_zero,List.take_left' ha]
   |succ i=>
    rw[show 16*(i+1)=16+16*i by omega,←List.drop_drop,List.drop_left' ha];exact ih (fun x hx=>hm x (List.mem_cons_of_mem _ hx)) i e (by simpa using h)
 refine hl _ (fun e he=>hT.may e (List.mem_of_mem_drop (List.mem_of_mem_take he))) i _ ?_;rw[List.getElem?_take,if_pos hi,List.getElem?_drop];exact entAt_get hT.len (by omega)
theorem blkT_len{T:Tab}(hT:TabOk T){k:Nat}(hk:k<4):(blkT T k).length=64:=by
 have hl:∀(L:List Ent),(∀e∈L,e.May)→(L.flatMap entB).length=16*L.length:=by
  intro L;induction L with
  |nil=>intro _;rfl
  |cons a r ih=>
   intro hm;rw[List.flatMap_cons,List.length_append,entB_length (hm a (List.mem_cons_self ..)),ih fun x hx=>hm x (List.mem_cons_of_mem _ hx),List.length_cons];omega
 unfold blkT;rw[hl _ fun e he=>hT.may e (List.mem_of_mem_drop (List.mem_of_mem_take he)),List.length_take,List.length_drop,hT.len];omega
theorem blkT_read{T:Tab}(hT:TabOk T){k i:Nat}(hk:k<4)(hi:i<4){e:Ent}(he:e=entAt T (4*k+i)):
 (blkT T k)[16*i]? =some (UInt8.ofNat e.i)∧(blkT T k)[16*i+1]? =some (UInt8.ofNat e.s.length)∧∀j x,e.s[j]? =some x→(blkT T k)[16*i+2+j]? =some x:=by
 have h:=blkT_parts hT hk hi;rw[←he]at h;have hg:∀j x,j<16→(entB e)[j]? =some x→(blkT T k)[16*i+j]? =some x:=fun j x hj hx=>by
  rw[←h,List.getElem?_take,if_pos hj,List.getElem?_drop]at hx;exact hx
 have hm:=May.len (entAt_may hT (4*k+i));rw[←he]at hm;refine⟨hg 0 _ (by omega) rfl,hg 1 _ (by omega) rfl,fun j x hx=> ?_⟩;have hj:=(List.getElem?_eq_some_iff.1 hx).1;rw[show 16*i+2+j=16*i+(j+2) by omega];refine hg (j+2) x (by omega) ?_;show(e.s++_)[j]? =_
 rw[List.getElem?_append_left hj];exact hx
end Gd
end
end Go.Proofs.YtjlpkbhgphjpeaaGreatDoor
