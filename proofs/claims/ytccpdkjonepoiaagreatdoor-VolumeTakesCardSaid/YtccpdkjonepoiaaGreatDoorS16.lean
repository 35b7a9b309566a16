/- Walks: plog.Decode, of any bytes: the whole. -/
import Derived.Test.YtccpdkjonepoiaaGreatDoorS15
set_option linter.unusedVariables false
set_option linter.unusedSimpArgs false
set_option linter.unusedSectionVars false
set_option maxHeartbeats 8000000
set_option maxRecDepth 100000
namespace Go.Proofs.YtccpdkjonepoiaaGreatDoor
open Go.RowKit
open Lib(hid)
open Go.Proofs.Tryz
open Go.Shelf
attribute [local go_sem] Oper.semAt_some
def Qk(ll:Nat)(w:World)(e:Ending)(w':World):Prop:=
 Below w.heap.size w w'∧∃(u:Value) (n E:Int),e= .returned (.tuple #[u,.int .i64 n,.int .i64 E])∧(E=0→∃(k:Nat) (P:List Gd.Pa),n=k∧8≤k∧k≤ll∧w'.ownsRow w.heap.size 122 2 u P.length (z9 P)∧(∀p∈P,Gd.PaMay p)∧P.length≤64)
theorem jP{ll:Nat}{w w':World}{u:Value}{n E:Int}(hE:E≠0)(hb:Below w.heap.size w w'):Qk ll w (.returned (.tuple #[u,.int .i64 n,.int .i64 E])) w':=⟨hb,u,n,E,rfl,fun e=>absurd e hE⟩
theorem J5(b o c:Nat)(L:List UInt8)(w:World)(hbl:b<w.heap.size)(hcap:L.length≤c)(hbc:∀(j:Nat) (x:UInt8),L[j]? =some x→w.cell? ⟨b,o+j,none⟩=some (.int .u8 x.toNat))(hl:L.length≤70000):
 Calls prog 126 #[.slice (some ⟨b,o,none⟩) L.length c] w (Qk L.length w):=by
 obtain⟨i0,hi,hz0,hz1,hz2⟩:=info_parts infoPa;have hat:zr w (.slice (some ⟨b,o,none⟩) L.length c) L:=⟨_,c,rfl,Or.inr ⟨b,o,rfl,hbl,hbc⟩⟩;obtain⟨vv,hvv⟩:∃vv:Value,vv= .slice (some ⟨b,o,none⟩) L.length c:=⟨_,rfl⟩;rw[←hvv]at hat;have HN:=hid fun at_ sh k hk W h ha=>Yo (w0:=w) (at_:=at_) (sh:=sh) L hat k hk W h (by omega) ha;have HBc:=hid (And.intro hbl hbc);obtain⟨ll,hll⟩:=nm L.length;rw[←hll]at hcap hl hvv⊢;have Hvv:=hid hvv;have Hll:=hid hll;have hcap2:(ll:Int)≤c:=by omega
 obtain⟨W,hW⟩:=nm (((w.alloc (.cells #[.slice (some ⟨b,o,none⟩) ll c] 22)).alloc (.cells #[.int .i64 0] 3)).alloc (.cells #[.bool false] 4));have HD:Hid (yO w vv 0 false W):=hid (by
  rw[hW,hvv];refine⟨(((Below.refl _ w).alloc (Nat.le_refl _) _).alloc (by simp) _).alloc (by simp;omega) _,zd.alloc (zd.alloc (heap_alloc_new w _) _) _,?_,?_⟩
  ·have:=heap_alloc_new (w.alloc (.cells #[.slice (some ⟨b,o,none⟩) ll c] 22)) (.cells #[.int .i64 0] 3)
   rw[World.size_alloc]at this;exact zd.alloc this _
  ·have:=heap_alloc_new ((w.alloc (.cells #[.slice (some ⟨b,o,none⟩) ll c] 22)).alloc (.cells #[.int .i64 0] 3)) (.cells #[.bool false] 4)
   rw[World.size_alloc,World.size_alloc]at this;exact this)
 have HSz:Hid (W.heap.size=w.heap.size+3):=hid (by rw[hW];simp);have hmf:∀(fn:Fn) (first cap:Array Value) (w:World),(Instr.makeFunc fn first cap).run prog w= .ok (.func fn first cap) w:=fun _ _ _ _=>rfl;obtain⟨N,hN⟩:=nm (Gd.get L (0:Nat) 2);obtain⟨s1,hs1⟩:=nm ((false|| !(Gd.getB L (0:Nat) 2)));have hHN:=HN.o 0 false 2 (Or.inr (Or.inl rfl)) W HD.o (by omega);rw[←hN,←hs1]at hHN;have HN0:=hid hHN;have HS1b:Hid (s1=false→2≤ll):=hid fun h=>by
  rw[hs1]at h;have h2:Gd.getB L (0:Nat) 2=true:=by simpa using h
  have h3:=(xj h2).1;have:=Hll.o
  omega
 have hN1:0≤N:=by rw[hN];exact(YF _ _ _).1
 clear hat hbl hbc hll hN hs1 hHN hvv;go_enter func126,ntmps126;go_upto_region 3 with fail
 rw[←hW];clear hW;go_wp2_with fail
 refine HN0.o.mono ?_;rintro e W1 ⟨rfl,hD1,hO1⟩;have HD1:=hid hD1;have HS1:Hid (w.heap.size+3≤W1.heap.size):=hid (by have:=hO1.size;have:=HSz.o;omega);clear hD1 hO1 HN0;by_cases hN64:64<N
 ·go_wp2_with fail
  go_ret3
  exact jP (by decide) HD1.o.below
 go_upto_region 8 with fail
 go_loopw[8,10] (fun u z wr=>∃(i at_:Nat) (P:List Gd.Pa) (sh:Bool),z= .int .i64 i∧i≤64∧P.length≤i∧at_≤2+262*i∧Hid ((∀p∈P,Gd.PaMay p)∧(sh=false→2≤at_∧at_≤ll))∧Hid (wr.ownsRow (w.heap.size+3) 122 2 u P.length (z9 P))∧Hid (yO w vv at_ sh wr)∧Hid (w.heap.size+3≤wr.heap.size)) (fun _ z _=>64-(intOf z).toNat)
 case atStart=>exact⟨0,2,[],s1,rfl,by omega,Nat.le_refl 0,by omega,hid ⟨(fun _ h=>by cases h),fun h=>⟨by omega,HS1b.o h⟩⟩,hid (World.ownsRow_nil _ _ _ _),HD1,HS1⟩
 case round=>
  obtain⟨i,at_,P,sh,rfl,hi64,hPi,hat,HP,HO,HDr,HSr⟩:=hrel;have x3:=cell_of_row wr _ 0 _ _ _ HDr.o.c3;by_cases hlt:(i:Int)<N∧sh=false
  ·obtain⟨h1,rfl⟩:=hlt;have hi63:i<64:=by omega
   obtain⟨q,hq⟩:=nm (Gd.get L at_ 4);obtain⟨g1,hg1⟩:=nm (Gd.getB L at_ 4);have hn1:=HN.o at_ false 4 (Or.inr (Or.inr (Or.inl rfl))) wr HDr.o (by omega);rw[←hq,←hg1,Bool.false_or]at hn1;have HNa:=hid hn1;have Hq:=hid hq;have Hg1:=hid hg1;clear hq hg1 hn1;go_wp2_with fail
   refine HNa.o.mono ?_;rintro e w3 ⟨rfl,hD3,hO3⟩;have HD3:=hid hD3;have HO3:=hid (qY HO.o hO3 (qj w));have HS3:Hid (w.heap.size+3≤w3.heap.size):=hid (by have:=hO3.size;have:=HSr.o;omega);clear hD3 hO3 HNa x3;go_upto_region 11 with fail
   obtain⟨w4,hw4⟩:=nm (w3.alloc (.cells #[.int .i64 q,.string ⟨#[]⟩] 122));rw[←hw4];obtain⟨pb,hpb⟩:=nm w3.heap.size;rw[←hpb];have hb4:Below w3.heap.size w3 w4:=by rw[hw4];exact(Below.refl _ _).alloc (Nat.le_refl _) _
   have HC4:Hid (zd w4 pb 122 #[.int .i64 q,.string ⟨#[]⟩]):=hid (by rw[hw4,hpb];exact heap_alloc_new _ _);have HD4:=hid (HD3.o.read hb4);have HO4:=hid (zx HO3.o hb4);have HOb:Hid (∀k,u8.ownBlock=some k→w.heap.size+3≤k∧k<pb):=hid fun k hk=>by rw[hpb];exact zE HO3.o k hk
   have HS4:Hid (w.heap.size+3≤pb):=hid (by rw[hpb];exact HS3.o);have HS4':Hid (w.heap.size+3≤w4.heap.size):=hid (by have:=hb4.size;have:=HS3.o;omega);clear hw4 hpb hb4;obtain⟨l,hl2⟩:=nm (Gd.get L ((at_+4:Nat):Int) 2);obtain⟨g2,hg2⟩:=nm (Gd.getB L ((at_+4:Nat):Int) 2);have hn2:=HN.o (at_+4) (!g1) 2 (Or.inr (Or.inl rfl)) w4 HD4.o (by omega);rw[←hl2,←hg2]at hn2;have HNb:=hid hn2;have Hl:=hid hl2;have Hg2:=hid hg2;clear hl2 hg2 hn2;go_wp2_with fail
   refine HNb.o.mono ?_;rintro e w5 ⟨rfl,hD5,hO5⟩;have HO5:=hid (qY HO4.o hO5 (qj w));have HC5:Hid (zd w5 pb 122 #[.int .i64 q,.string ⟨#[]⟩]):=hid ((hO5.block pb HC4.o.lt (qj w pb HS4.o)).trans HC4.o);have HS5:Hid (w.heap.size+3≤w5.heap.size):=hid (by have:=hO5.size;have:=HS4'.o;omega);obtain⟨a6,ha6⟩:=nm (at_+4+2);rw[←ha6]at hD5;obtain⟨sh2,hsh2⟩:=nm (!g1|| !g2);rw[←hsh2]at hD5;have HD5:=hid hD5;have ha6l:a6≤2+262*i+6:=by omega
   have HA6:=hid ha6;have x1:=cell_of_row w5 _ 0 _ _ _ HD5.o.c1;rw[Hvv.o]at x1;have x2:=cell_of_row w5 _ 0 _ _ _ HD5.o.c2;have x3:=cell_of_row w5 _ 0 _ _ _ HD5.o.c3;have y3:=frozen_of_row w5 _ 0 _ _ HD5.o.c3;clear hD5 hO5 HNb ha6
   cases sh2 with
   |true=>
    clear hsh2;go_wp2_with fail
    go_roundw
    case rel=>exact⟨i+1,a6,P,true,by go_num,by omega,by omega,by omega,hid ⟨HP.o.1,(fun h=>by cases h)⟩,HO5,HD5,HS5⟩
    case measure=>simp[intOf];omega
   |false=>
    have hgg:g1=true∧g2=true:=by
     cases g1<;>cases g2<;>simp at hsh2⊢
    obtain⟨rfl,rfl⟩:=hgg;have hF1:=xj Hg1.o.symm;have hF2:=xj Hg2.o.symm;have ha6ll:a6≤ll:=by have:=Hll.o;have:=HA6.o;omega
    obtain⟨q',hq'⟩:∃q':Nat,q'=Gd.getN L at_ 4:=⟨_,rfl⟩;obtain⟨l',hl'⟩:∃l':Nat,l'=Gd.getN L (at_+4) 2:=⟨_,rfl⟩;have hqe:q=(q':Int):=by rw[Hq.o,hq'];exact hF1.2.1
    have hle:l=(l':Int):=by rw[Hl.o,hl'];exact hF2.2.1
    have hq4:q'<4294967296:=by rw[hq'];exact hF1.2.2
    subst hqe hle;clear hsh2 hF1 hF2 hq' hl';by_cases hl256:256<l'
    ·have f0:(256:Int)<l':=by omega
     go_wp2_with fail
     go_ret3
     exact jP (by decide) HD5.o.below
    have f0:¬(256:Int)<l':=by omega
    by_cases hlw:ll<a6+l'
    ·have f1:(ll:Int)-a6<l':=by omega
     go_wp2_with fail
     go_roundw
     have HD6:Hid (yO w vv a6 true (w5.setCell ⟨w.heap.size+1+1,0,none⟩ (.bool true))):=hid ⟨HD5.o.below.setCell (show w.heap.size≤w.heap.size+1+1 by omega) _,(Go.heap_setCell_other _ _ _ _ (by simp;omega)).trans HD5.o.c1,(Go.heap_setCell_other _ _ _ _ (by simp)).trans HD5.o.c2,Go.heap_setCell_same _ _ 0 _ _ _ HD5.o.c3⟩
     case rel=>exact⟨i+1,a6,P,true,by go_num,by omega,by omega,by omega,hid ⟨HP.o.1,(fun h=>by cases h)⟩,hid (yx HO5.o ⟨w.heap.size+1+1,0,none⟩ (.bool true) fun k hk=>by have:=HOb.o k hk;show k≠w.heap.size+1+1;omega),HD6,hid (by simp;exact HS5.o)⟩
     case measure=>simp[intOf];omega
    have f1:¬((ll:Int)-a6<l'):=by omega
    have f2:(a6:Int)+l'≤ll:=by omega
    obtain⟨D,hDl,hDp⟩:∃D:List UInt8,D.length=l'∧D=(L.drop a6).take l':=⟨(L.drop a6).take l',by rw[List.length_take,List.length_drop];have:=Hll.o;omega,rfl⟩;obtain⟨s,hs⟩:∃s:ByteArray,s=⟨D.toArray⟩:=⟨_,rfl⟩;have Hs:=hid hs;have f4:(a6:Int)≤c:=by omega
    have f5:(a6:Int)+l'≤c:=by omega
    have hways:(a6=c∧l'=0)∨(¬a6=c∧(a6:Int)<c):=by omega
    rcases hways with⟨hac,hl0⟩|⟨f3,f8⟩
    case' inl=>
     have hcv:(convert 22 9 (.slice (some ⟨b,o,none⟩) 0 0)).run prog w5= .ok (.string s) w5:=by
      have hD0:D=[]:=List.eq_nil_of_length_eq_zero (by omega);rw[hs,hD0];exact jJ (.slice (some ⟨b,o,none⟩) 0 0) [] w5 ⟨_,_,rfl,Or.inr ⟨b,o,rfl,Nat.lt_of_lt_of_le HBc.o.1 HD5.o.below.size,fun j x hx=>by simp at hx⟩⟩
     subst hac;clear hl0
    case' inr=>
     have hcv:(convert 22 9 (.slice (some ⟨b,o+a6,none⟩) l' (c-a6))).run prog w5= .ok (.string s) w5:=by
      rw[hs];have hbb:=HD5.o.below;refine jJ _ D w5 ⟨_,_,by rw[hDl],Or.inr ⟨b,o+a6,rfl,Nat.lt_of_lt_of_le HBc.o.1 hbb.size,fun j x hx=> ?_⟩⟩;have hj:j<l':=by rw[←hDl];exact(List.getElem?_eq_some_iff.1 hx).1
      rw[hDp,List.getElem?_take_of_lt hj,List.getElem?_drop]at hx;rw[Nat.add_assoc];exact(hbb.cell (p:=⟨b,o+(a6+j),none⟩) HBc.o.1).trans (HBc.o.2 _ _ hx)
    all_goals
     have f6:(0:Int)≤a6:=by omega
     have f7:(0:Int)≤l':=by omega
     have HDl:=hid (And.intro hDl hq4);have HL2:=hid hl256;clear hDl hDp hlw hl256 hq4 ha6l hs;have p0:=cell_of_row w5 pb 0 _ _ _ HC5.o;have p1:=cell_of_row w5 pb 1 _ _ _ HC5.o;have p2:=frozen_of_row w5 pb 1 _ _ HC5.o;go_upto_region 13 with fail
     obtain⟨w6,hw6⟩:=nm (w5.setCell ⟨pb,1,none⟩ (.string s));rw[←hw6];have HD6:Hid (yO w vv a6 false w6):=hid (by
      have h1:=HS4.o;rw[hw6];exact⟨HD5.o.below.setCell (show w.heap.size≤pb by omega) _,(Go.heap_setCell_other _ _ _ _ (by simp;omega)).trans HD5.o.c1,(Go.heap_setCell_other _ _ _ _ (by simp;omega)).trans HD5.o.c2,(Go.heap_setCell_other _ _ _ _ (by simp;omega)).trans HD5.o.c3⟩)
     have HC6:Hid (zd w6 pb 122 #[.int .i64 q',.string s]):=hid (by rw[hw6];exact Go.heap_setCell_same _ _ 1 _ _ _ HC5.o);have HO6:=hid (yx HO5.o ⟨pb,1,none⟩ (.string s) fun k hk=>by have:=HOb.o k hk;show k≠pb;omega);rw[←hw6]at HO6;have HS6:Hid (w.heap.size+3≤w6.heap.size):=hid (by rw[hw6];simp;exact HS5.o);clear x1 x2 x3 y3 p0 p1 p2 hcv hw6;have x2:=cell_of_row w6 _ 0 _ _ _ HD6.o.c2;have y2:=frozen_of_row w6 _ 0 _ _ HD6.o.c2;go_upto_region 14 with fail
     rw[show((a6:Int)+l')=((a6+l':Nat):Int) by omega];obtain⟨w7,hw7⟩:=nm (w6.setCell ⟨w.heap.size+1,0,none⟩ (.int .i64 ((a6+l':Nat):Int)));rw[←hw7];have HD7:Hid (yO w vv (a6+l') false w7):=hid (by
      rw[hw7];exact⟨HD6.o.below.setCell (show w.heap.size≤w.heap.size+1 by omega) _,(Go.heap_setCell_other _ _ _ _ (by simp)).trans HD6.o.c1,Go.heap_setCell_same _ _ 0 _ _ _ HD6.o.c2,(Go.heap_setCell_other _ _ _ _ (by simp)).trans HD6.o.c3⟩)
     have HC7:Hid (zd w7 pb 122 #[.int .i64 q',.string s]):=hid (by rw[hw7];exact(Go.heap_setCell_other _ _ _ _ (by have:=HS4.o;show pb≠w.heap.size+1;omega)).trans HC6.o);have HO7:=hid (yx HO6.o ⟨w.heap.size+1,0,none⟩ (.int .i64 ((a6+l':Nat):Int)) fun k hk=>by have:=HOb.o k hk;show k≠w.heap.size+1;omega);rw[←hw7]at HO7;have HS7:Hid (w.heap.size+3≤w7.heap.size):=hid (by rw[hw7];simp;exact HS6.o);clear x2 y2 hw7;have p0:=cell_of_row w7 pb 0 _ _ _ HC7.o;have p1:=cell_of_row w7 pb 1 _ _ _ HC7.o;obtain⟨pl,hpl⟩:=nm P.length;have hpl64:pl≤64:=by omega
     have HPl:=hid hpl;rw[←hpl]at HO7;clear hpl;go_wp2_with(at_builtin;refine wpList_append_own _ rfl _ _ 65 rfl (w.heap.size+3) 122 i0 _ 2 24 underlying65 hi hz0 hz1 hz2 rfl (by decide) u8 pl (z9 P) rfl (zx HO7.o ((Below.refl _ _).alloc (Nat.le_refl _) _)) ⟨w7.heap.size,0,none⟩ 1 1 [.int .i64 q',.string s] rfl rfl (xo w7 _ _ _) (by intro u hu;simp at hu;rcases hu with rfl|rfl<;>rfl) (by unfold maxLen;omega) (by omega) (by have:=HS7.o;simp;omega) ?_;intro v' w8 h1 h2 h3)
     have hba:Below w7.heap.size w7 (w7.alloc (.cells #[.int .i64 q',.string s] 122)):=(Below.refl _ _).alloc (Nat.le_refl _) _;have HO8:Hid (w8.ownsRow (w.heap.size+3) 122 2 v' (P++[(q',D)]).length (z9 (P++[(q',D)]))):=hid (by
      rw[←xl,List.length_append,List.length_singleton,←HPl.o];unfold paC;rw[←Hs.o];exact h1)
     have hO8:zi (fun k=>u8.ownBlock=some k) w7 w8:=(zg hba _).trans (zK h2 (F:=fun k=>u8.ownBlock=some k) fun k e=>e) fun _ _ e=>e;have HD8:=hid (HD7.o.apart hO8 (by have:=HS7.o;omega) fun k hk e=>by have:=HOb.o k e;omega);have HS8:Hid (w.heap.size+3≤w8.heap.size):=hid (by have:=hO8.size;have:=HS7.o;omega);clear h2 h3 hO8 hba;refine⟨⟨i+1,a6+l',P++[(q',D)],false,by go_num,by omega,by rw[List.length_append,List.length_singleton];have:=HPl.o;omega,by have:=HA6.o;omega,hid ⟨fun p hp=> ?_,fun _=>by have:=HA6.o;omega⟩,HO8,HD8,HS8⟩,?_⟩
     ·rcases List.mem_append.1 hp with hp|hp
      ·exact HP.o.1 p hp
      ·rw[List.mem_singleton.1 hp];exact⟨HDl.o.2,by show D.length≤256;have:=HDl.o.1;have:=HL2.o;omega⟩
     ·simp[intOf];omega
  ·have hx:¬(i:Int)<N∨((i:Int)<N∧sh=true):=by
    by_cases h:(i:Int)<N
    ·right
     refine⟨h,?_⟩
     cases sh
     ·exact absurd ⟨h,rfl⟩ hlt
     ·rfl
    ·exact Or.inl h
   have x2:=cell_of_row wr _ 0 _ _ _ HDr.o.c2;obtain⟨sm,hsm⟩:=nm (Gd.get L at_ 4);obtain⟨g4,hg4⟩:=nm (Gd.getB L at_ 4);have hn1:=HN.o at_ sh 4 (Or.inr (Or.inr (Or.inl rfl))) wr HDr.o (by omega);rw[←hsm,←hg4]at hn1;obtain⟨e4,he4⟩:=nm (at_+4);obtain⟨sh3,hsh3⟩:=nm (sh|| !g4);rw[←he4,←hsh3]at hn1;have HNc:=hid hn1;have HE4:=hid he4;have HF:Hid (sh3=false→sh=false∧at_+4≤ll∧2≤at_):=hid fun h=>by
    rw[hsh3]at h;have h2:sh=false∧g4=true:=by cases sh<;>cases g4<;>simp at h⊢
    have h3:=(xj (hg4.symm.trans h2.2)).1;have h4:=HP.o.2 h2.1;have h5:=Hll.o;exact⟨h2.1,by omega,h4.1⟩
   have he4b:e4≤20000:=by omega
   have ha20:at_≤20000:=by omega
   have HP64:Hid (P.length≤64):=hid (by omega);clear hlt hsm hg4 hn1 he4 hsh3 hat hPi hi64;have hways:(sh3=true∧¬(i:Int)<N)∨(sh3=true∧(i:Int)<N∧sh=true)∨(sh3=false∧¬(i:Int)<N):=by
    cases sh3
    ·rcases hx with h|⟨_,h⟩
     ·exact Or.inr (Or.inr ⟨rfl,h⟩)
     ·have:=(HF.o rfl).1
      rw[h]at this
      cases this
    ·rcases hx with h|h
     ·exact Or.inl ⟨rfl,h⟩
     ·exact Or.inr (Or.inl ⟨rfl,h⟩)
   clear hx;rcases hways with⟨rfl,h1⟩|⟨rfl,h1,rfl⟩|⟨rfl,h1⟩
   all_goals
    go_wp2_with fail
    refine HNc.o.mono ?_;rintro e w3 ⟨rfl,hD3,hO3⟩;have HD3:=hid hD3;have HO3:=hid (qY HO.o hO3 (qj w));have HS3:Hid (w.heap.size+3≤w3.heap.size):=hid (by have:=hO3.size;have:=HSr.o;omega);have HUp:=hid (Zi e4 (by omega) w3);have x1:=cell_of_row w3 _ 0 _ _ _ hD3.c1;rw[Hvv.o]at x1;have x2:=cell_of_row w3 _ 0 _ _ _ hD3.c2;have x3:=cell_of_row w3 _ 0 _ _ _ hD3.c3;clear hD3 hO3 HNc;go_wp2_with fail
    refine HUp.o.mono ?_;rintro e w4 ⟨rfl,rfl⟩;clear HUp
   ·go_wp2_with fail
    go_ret3
    exact jP (by decide) HD3.o.below
   ·go_wp2_with fail
    go_ret3
    exact jP (by decide) HD3.o.below
   obtain⟨-,hal,ha2⟩:=HF.o (by first|trivial|rfl);have hLl:ll≤L.length:=by have:=Hll.o;omega
   have hLl2:L.length≤ll:=by have:=Hll.o;omega
   obtain⟨cc,hcc⟩:=nm (Gd.crc (L.take at_));have hcl:cc<4294967296:=by rw[hcc];exact Gd.crc_lt _
   have hc2:(cc:Int)<4294967296:=by omega
   have HBy:Hid (zr w4 (.slice (some ⟨b,o,none⟩) at_ c) (L.take at_)):=hid (by
    refine⟨_,c,by rw[List.length_take,Nat.min_eq_left (by omega)],Or.inr ⟨b,o,rfl,Nat.lt_of_lt_of_le HBc.o.1 HD3.o.below.size,fun j x hx=> ?_⟩⟩;have hj:j<at_:=by
     have:=(List.getElem?_eq_some_iff.1 hx).1
     rw[List.length_take]at this;omega
    rw[List.getElem?_take_of_lt hj]at hx;exact(HD3.o.below.cell (p:=⟨b,o+j,none⟩) HBc.o.1).trans (HBc.o.2 _ _ hx))
   have HCr:=hid (qf _ (L.take at_) w4 HBy.o (by rw[List.length_take];omega));rw[←hcc]at HCr;have hEc:(at_:Int)≤c:=by omega
   have he5:at_+4≤e4:=by have:=HE4.o;omega
   have hup:=Gd.up8_ge e4;obtain⟨up,hupe⟩:=nm (Gd.up8 e4);rw[←hupe]at hup;rw[←hupe];obtain⟨hu1,hu2,-⟩:=hup;have hup8:8≤up:=by rw[hupe];unfold Gd.up8;omega
   clear hcc hupe;by_cases hsc:sm=(cc:Int)
   ·have hsb:(sm !=(cc:Int))=false:=by simp[hsc]
    have hll0:(0:Int)≤at_:=by omega
    clear hsc;go_upto_region 27 with(first|(go_at_call 104;refine HCr.o.mono ?_;rintro e w5 ⟨rfl,hb5⟩;have HD5:=hid (HD3.o.read hb5);have HO5:=hid (zx HO3.o hb5);clear hb5))
    have x1':=cell_of_row w5 _ 0 _ _ _ HD5.o.c1;rw[Hvv.o]at x1';have x2':=cell_of_row w5 _ 0 _ _ _ HD5.o.c2;clear x1 x2 x3;by_cases hul:ll<up
    ·have f1:(ll:Int)<up:=by omega
     go_wp2_with fail
     go_ret3
     exact jP (by decide) HD5.o.below
    have f1:¬(ll:Int)<up:=by omega
    have HZ:Hid (∀j,j<up-e4→∃x:UInt8,w5.cell? ⟨b,o+e4+j,none⟩=some (.int .u8 x.toNat)):=hid fun j hj=>by
     obtain⟨x,hx⟩:∃x,L[e4+j]? =some x:=⟨_,List.getElem?_eq_getElem (by omega)⟩;rw[Nat.add_assoc];exact⟨x,(HD5.o.below.cell (p:=⟨b,o+(e4+j),none⟩) HBc.o.1).trans (HBc.o.2 _ _ hx)⟩
    have HFin:Hid (Qk ll w (.returned (.tuple #[u8,.int .i64 up,.int .i64 0])) w5):=hid <| by
     refine⟨HD5.o.below,u8,up,0,rfl,fun _=>⟨up,P,rfl,hup8,by omega,?_,HP.o.1,HP64.o⟩⟩;exact⟨HO5.o.1,HO5.o.2.imp id fun⟨q,cap,cur,hv,hB,r⟩=>⟨q,cap,cur,hv,by omega,r⟩⟩
    have f2:(e4:Int)≤up:=by omega
    have f3:(up:Int)≤c:=by omega
    have f9:(e4:Int)≤c:=by omega
    by_cases hce:e4=c
    ·have hue:up=c:=by omega
     subst hce;subst hue;go_upto_region 30 with fail
     go_loopw[17,89] (fun y z wx=>z= .int .i64 0∧wx=w5) (fun _ _ _=>0)
     case atStart=>exact⟨rfl,rfl⟩
     case round=>
      obtain⟨rfl,rfl⟩:=hrel;go_wp2;go_ret3
      exact HFin.o
    ·have hce':(e4:Int)<c:=by omega
     obtain⟨m,rfl⟩:∃m,up=e4+m:=⟨up-e4,by omega⟩;have hm3:e4+m-e4=m:=by omega
     rw[hm3]at HZ;have hm8:m≤8:=by omega
     clear hm3 hsb hal ha2 hLl hLl2 hup8 hu2 hu1 ha20 h1 hN1 hN64 hEc he5 hcl hc2 hll0;go_upto_region 30 with fail
     go_loopw[17,89] (fun y z wx=>∃j:Nat,z= .int .i64 j∧j≤m∧wx=w5) (fun _ z _=>m-(intOf z).toNat)
     case atStart=>exact⟨0,rfl,by omega,rfl⟩
     case round=>
      obtain⟨j,rfl,hj,rfl⟩:=hrel;by_cases hjm:j<m
      ·obtain⟨x,z0⟩:=HZ.o j hjm;have j1:(j:Int)<m:=by omega
       have j0:(0:Int)≤j:=by omega
       by_cases hx0:x=0
       ·have hb0:((x.toNat:Int) !=0)=false:=by rw[hx0];rfl
        clear hx0;go_wp2;go_roundw
        case rel=>exact⟨j+1,by go_num,by omega,trivial⟩
        case measure=>simp[intOf];omega
       ·have hb0:((x.toNat:Int) !=0)=true:=by
         rw[bne_iff_ne];intro h;exact hx0 (UInt8.toNat_inj.1 (by simpa using h))
        clear hx0;go_wp2;go_ret3
        exact jP (by decide) HD5.o.below
      ·obtain rfl:j=m:=by omega
       go_wp2;go_ret3
       exact HFin.o
   ·have hsb:(sm !=(cc:Int))=true:=by simp[hsc]
    have hll0:(0:Int)≤at_:=by omega
    clear hsc;go_upto_region 26 with(first|(go_at_call 104;refine HCr.o.mono ?_;rintro e w5 ⟨rfl,hb5⟩;have HD5:=hid (HD3.o.read hb5);clear hb5))
    go_wp2_with fail
    go_ret3
    exact jP (by decide) HD5.o.below
end Go.Proofs.YtccpdkjonepoiaaGreatDoor
