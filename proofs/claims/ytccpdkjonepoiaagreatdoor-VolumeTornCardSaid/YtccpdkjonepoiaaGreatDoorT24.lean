/- Walks: files: Set. -/
import Derived.Test.YtccpdkjonepoiaaGreatDoorT23
import Derived.Scope
set_option linter.unusedVariables false
set_option linter.unusedSimpArgs false
set_option linter.unusedSectionVars false
set_option maxHeartbeats 8000000
set_option maxRecDepth 100000
namespace Go.Proofs.YtccpdkjonepoiaaGreatDoor
open Go.RowKit
open Lib(hid)
open Go.Proofs.Tryz
open Go.Shelf
attribute [local go_sem] Oper.semAt_some
namespace Gd
def Ino.setBs(x:Ino)(B:List Int):Ino:={x with B:=B}
def part64(all:List UInt8)(k:Nat):List UInt8:=(all.drop (64*k)).take 64
def setK(all:List UInt8)(need:Nat)(spare:Int):Nat→Nat→Vol→List Int→Option (Vol×List Int)
 |0,_,M,B=>some (M,B)
 |fu+1,k,M,B=>
  if need≤k then
   if B.getD k 0=0 then some (M,B)
   else setK all need spare fu (k+1) (M.setMap (giveI M.map (B.getD k 0))) (B.set k 0)
  else if B.getD k 0=0 then
   if 128-(countB M.map:Int)≤max 0 spare then none
   else setK all need spare fu (k+1) (M.take.setBlk (firstB M.map) (part64 all k)) (B.set k (firstB M.map))
  else setK all need spare fu (k+1) (M.setBlk (B.getD k 0).toNat (part64 all k)) B
end Gd
theorem Va{a:ByteArray}{l h:Nat}(h1:l≤h)(h2:h≤a.size)(w:World):(Instr.slice 9 (.string a) (some (.int .i64 (l:Int))) (some (.int .i64 (h:Int))) none).run prog w= .ok (.string (a.extract l h)) w:=by
 have g1:(l:Int)≤(h:Int):=by omega
 have g2:(h:Int)≤(a.size:Int):=by omega
 have g3:(0:Int)≤(l:Int):=by omega
 have g4:(0:Int)≤(h:Int):=by omega
 simp[Instr.slice,run_underlying underlying9,Instr.sliceBounds,run_sliceBound,g1,g2,g3,g4,h1,h2]
theorem VZ{a:ByteArray}{k:Nat}{all:List UInt8}(h:64*(k+1)≤a.size)(ha:a.data.toList=all)(w:World):(Instr.slice 9 (.string a) (some (.int .i64 ((k:Int)*64))) (some (.int .i64 (((k:Int)+1)*64))) none).run prog w= .ok (.string ⟨(Gd.part64 all k).toArray⟩) w:=by
 have:=Va (a:=a) (l:=64*k) (h:=64*(k+1)) (by omega) h w
 rw[show((64*k:Nat):Int)=(k:Int)*64 by omega,show((64*(k+1):Nat):Int)=((k:Int)+1)*64 by omega]at this;have he:a.extract (64*k) (64*(k+1))=⟨(Gd.part64 all k).toArray⟩:=va (by
  rw[Lib.extract_data,ha,show 64*(k+1)-64*k=64 by omega];rfl)
 rw[this,he]
def QD[zc](x t:Nat)(S:List UInt8)(i:Nat)(y:Gd.Ino)(len:Nat)(R:Option (Gd.Vol×List Int))(c K:Nat)(F:Nat→Prop)(w:World)(e:Ending)(w':World):Prop:=
 match R with
 |none=>e= .returned (.int .i64 18)∧∃M',zV x t S M' (c+13) K F w w'
 |some p=>e= .returned (.int .i64 0)∧zV x t S (p.1.setIno i ((y.setBs p.2).setS len)) (c+13) K F w w'
theorem uh{y:Gd.Ino}{B:List Int}(hB:B.length=4){k:Nat}(hk:k<4)(n:Int):z5 (y.setBs (B.set k n))=(z5 (y.setBs B)).set (3+k) n:=by
 show y.k::y.l::y.s::(B.set k n++y.O)=_
 unfold z5;show _=(y.k::y.l::y.s::(B++y.O)).set (3+k) n
 rw[show 3+k=k+3 by omega,List.set_cons_succ,List.set_cons_succ,List.set_cons_succ,List.set_append_left _ _ (by rw[hB];exact hk)]
theorem V0[zc]{x t c K f:Nat}{S:List UInt8}{M:Gd.Vol}{F:Nat→Prop}(i:Nat)(s:List UInt8)(spare:Int)(w:World)(h:zC x t S M c K w F)(hf:jG w f t x)(hfF:¬F f)(h1:1≤i)(h2:i≤32)(hE:Gd.fileE M i=0)(hl:s.length≤256)(hB:∀n∈(M.ino i).B,0≤n∧n≤128)
 (hmay:∀p,Gd.setK (Fp.sizedL s ((s.length+63)/64*64)) ((s.length+63)/64) spare 4 0 M (M.ino i).B=some p→Gd.mayI (((M.ino i).setBs p.2).setS s.length)=true)(hc:c+13<64):
 Calls prog 123 #[.pointer (some ⟨f,0,none⟩),.int .i64 i,.string ⟨s.toArray⟩,.int .i64 spare] w (QD x t S i (M.ino i) s.length (Gd.setK (Fp.sizedL s ((s.length+63)/64*64)) ((s.length+63)/64) spare 4 0 M (M.ino i).B) c K F w):=by
 have HF:=hid (uj i w h hf h1 h2);rw[hE]at HF;have hsh:(M.ino i).Shape:=by
  obtain⟨P,h3,h4⟩:=h;exact h4.shape i h1 h2
 obtain⟨l,hll⟩:=nm s.length;obtain⟨need,hneed⟩:=nm ((s.length+63)/64);rw[←hneed]at hmay⊢;have hn4:need≤4:=by omega
 have HNe:=hid fun W=>Xf s.length (by omega) W;rw[←hneed]at HNe;have HSd:=hid fun W=>Fl.sized_any ⟨s.toArray⟩ (need*64) W (by rw[Lib.size_eq];show s.length≤_;omega) (by omega);rw[show(⟨s.toArray⟩:ByteArray).data.toList=s from rfl]at HSd;obtain⟨all,hall⟩:=nm (Fp.sizedL s (need*64));rw[←hall]at hmay HSd⊢;have hallL:all.length=need*64:=by rw[hall];exact Fp.sizedL_length _ _
 rw[←hll]at HNe hmay hl⊢;obtain⟨y,hy⟩:=nm (M.ino i);rw[←hy]at HF hsh hB hmay⊢;obtain⟨R,hR⟩:=nm (Gd.setK all need spare 4 0 M y.B);rw[←hR]at hmay⊢;have H:=hid h;have HFi:=hid (And.intro hf hfF);have HS:=hid (zy hsh);have HSh:=hid hsh;have HB:=hid hB;have HMy:=hid hmay;have HR:=hid hR;have HAl:=hid hallL;have HC:=hid hc;have HI12:=hid (And.intro h1 h2);obtain⟨sb,hsb⟩:∃sb:ByteArray,sb=⟨s.toArray⟩:=⟨_,rfl⟩;rw[←hsb]at HSd⊢;have hsl:sb.size=l:=by rw[hsb,hll];rfl
 obtain⟨ab,hab⟩:∃ab:ByteArray,ab=⟨all.toArray⟩:=⟨_,rfl⟩;rw[←hab]at HSd;have HAb:=hid hab;have hasz:ab.size=need*64:=by rw[hab,←hallL];rfl
 have hl256:(l:Int)≤256:=by omega
 have HLs:=hid hll;clear h hf hfF h1 h2 hE hl hB hmay hc hsh hneed hall hallL hy hR hsb hab hll;unfold zQ at*;go_enter func123,ntmps123;go_upto_region 1 with fail
 refine wp_scope_straight ?_;go_upto_region 2 with(first|(go_at_call 79;refine HF.o.mono ?_;rintro e w2 ⟨rfl,hb2⟩;have HL2:=hid ((Tl.start H.o).below hb2);clear hb2)|(rw[←ja];refine wpList_store_mid rfl 40 _ _ rfl w2.heap.size 0 (zj y) rfl rfl (zf (heap_alloc_new _ _) (by rw[zt,HS.o])) (by rw[HS.o];exact sizeIno) (zw _) ?_;obtain⟨hbw,hbg⟩:=zG w2 zP 40 (zj y).toList (by rw[zt,Array.length_toList,HS.o]);generalize (World.setCells _ _ _ _)=w3 at hbw hbg⊢;have HL3:=hid (HL2.o.new hbw (Nat.le_refl _) (o:= .cells (zj y) 40 (0,0)) hbg);clear hbw hbg))
 obtain⟨ib,hib⟩:=nm w2.heap.size;rw[←hib]at HL3⊢;clear hib;go_upto_region 9 with(first|(go_at_call 153;refine(HNe.o _).mono ?_;rintro e w4 ⟨rfl,rfl⟩)|(go_at_call 152;refine(HSd.o _).mono ?_;rintro e w5 ⟨rfl,hb5⟩;have HL5:=hid (HL3.o.below hb5);clear hb5))
 go_step3
 go_upto_region 9 with fail
 go_loopw[10,36] (fun v z wr=>∃(k:Nat) (M':Gd.Vol) (B':List Int),z= .int .i64 k∧v= .int .i64 0∧k≤4∧Hid (R=Gd.setK all need spare (4-k) k M' B')∧Hid (B'.length=4∧∀n∈B',0≤n∧n≤128)∧Hid (Tl x t S M' (c+3*k) K F w wr [(ib,.cells (zj (y.setBs B')) 40 (0,0))])) (fun _ z _=>4-(intOf z).toNat)
 case atStart=>exact⟨0,M,y.B,rfl,rfl,by omega,HR,hid ⟨HSh.o.1,HB.o⟩,HL5⟩
 case round=>
  obtain⟨k,M',B',rfl,rfl,hk,HRk,HB4,HT⟩:=hrel;by_cases hlt:k<4
  ·obtain⟨n,hn⟩:∃n,B'[k]? =some n:=⟨_,List.getElem?_eq_getElem (by rw[HB4.o.1];exact hlt)⟩;have hnr:=HB4.o.2 n (List.mem_of_getElem? hn);have hgd:B'.getD k 0=n:=by rw[List.getD_eq_getElem?_getD,hn];rfl
   have hRk:=HRk.o;rw[show 4-k=(4-(k+1))+1 by omega]at hRk;unfold Gd.setK at hRk;rw[hgd]at hRk;have h4:(k:Int)<4:=by omega
   have h0:(0:Int)≤k:=by omega
   have HIr:Hid (zz wr ib (y.setBs B')):=hid ⟨HT.o.get (k:=ib) (by simp),⟨HB4.o.1,HSh.o.2⟩⟩;obtain⟨b0,b1⟩:=HIr.o.cB (k:=k) (n:=n) hn;by_cases hnk:need≤k
   ·rw[if_pos hnk]at hRk;have hnk':(need:Int)≤k:=by omega
    by_cases hn0:n=0
    ·rw[if_pos hn0]at hRk;have HRe:=hid hRk;subst hn0;clear hn hnr hgd hRk hlt;go_upto_region 24 with fail
     have HI6:Hid (zz wr ib (y.setBs B')):=hid ⟨HT.o.get (k:=ib) (by simp),⟨HB4.o.1,HSh.o.2⟩⟩;have b2:=HI6.o.c2;have f2:=HI6.o.f 2;have HSz:Hid (((y.setBs B').setS l).Shape):=hid ⟨HB4.o.1,HSh.o.2⟩;have HSs:=hid (zy HSz.o);have hl7:Tl x t S M' (c+3*k) K F w (wr.setCell ⟨ib,2,none⟩ (.int .i64 l)) [(ib,.cells (zj ((y.setBs B').setS l)) 40 (0,0))]:=by
      refine HT.o.set (k:=ib) (C:=zj (y.setBs B')) (ty:=40) (by simp) _ fun p hp=> ?_;rw[jX (xS (y.setBs B') l)];exact Or.inl (by simpa using hp)
     obtain⟨w7,hw7⟩:=nm (wr.setCell ⟨ib,2,none⟩ (.int .i64 l));rw[←hw7]at hl7;have HW7:=hid hw7.symm;have HL7:Hid (Tl x t S M' (c+3*k) K F w w7.drew [(ib,.cells (zj ((y.setBs B').setS l)) 40 (0,0))]):=hid (hl7.below ((Below.refl _ _).drew));obtain⟨F7,h7s,h7l⟩:=HL7.o;have hf7:jG w7.drew f t x:=(HL7.o.old (za HFi.o.1) HFi.o.2).trans HFi.o.1;have HSi:=hid (qW (i:Int) ((y.setBs B').setS l) HSz.o (HMy.o (M',B') HRe.o) w7.drew h7s.inv (by have:=HI12.o;omega) (by have:=HI12.o;omega) (by have:=HC.o;omega));rw[Int.toNat_natCast]at HSi;have HNx:=hid fun b N d (h:zV x t S N d K F7 w7.drew b)=>Tl.next h7s h7l h;have HRow:=hid (HL7.o.get (k:=ib) (o:= .cells (zj ((y.setBs B').setS l)) 40 (0,0)) (by simp));have hs0:=hf7.cells.2
     have hs1:∀W F8 N d,Tl x t S N d K F w W F8→W.cell? ⟨f,1,none⟩=some (.pointer (some ⟨x,0,none⟩)):=fun W F8 N d h=>jG.cells (t:=t) ((h.old (za HFi.o.1) HFi.o.2).trans HFi.o.1) |>.2;have HS1:=hid hs1;clear hl7 hw7 h7s h7l hf7 hs1;go_upto_region 25 with fail
     rw[HW7.o];unfold zQ at HSi;refine wp_region_held_drew (S:=(fun W=>W.cell? ⟨f,1,none⟩=some (.pointer (some ⟨x,0,none⟩)))) (by kernel_rfl) ?_ (fun hHeld=> ?_)
     ·exact hs0
     refine tk 0 ?_;refine tk 1 ?_;refine tk 2 ?_;refine tk 3 ?_;refine tk 4 ?_;refine rd 5 (fun K hK=> ?_);refine wp_load_row 40 _ rfl ib rfl 40 (zj ((y.setBs B').setS l)) (0,0) _ HRow.o underlying40 rfl (by rw[HSs.o];exact sizeIno) ?_;try dsimp only
     refine hK.o _ _ hs0 (fun hHeld=> ?_);clear hK K;try simp only[put]
     refine rd 6 (fun K hK=> ?_);go_simp
     refine HSi.o.mono ?_;rintro e w8 ⟨rfl,ht8⟩;have HL8:=hid (HNx.o _ _ _ ht8);have hs8:=HS1.o _ _ _ _ HL8.o;clear ht8;dsimp only;refine hK.o _ _ hs8 (fun hHeld=> ?_);clear hK K;try simp only[put]
     refine tk 7 ?_;refine dn ?_
     (try simp only[Exit.then])
     clear hs0 hs8;go_wp2;go_ret
     rw[HRe.o];exact⟨rfl,by
      obtain⟨F9,h9⟩:=HL8.o.turns;exact⟨F9,h9.mono fun h=>h.more (by omega) (Nat.le_refl K)⟩⟩
    ·rw[if_neg hn0]at hRk;have HRe:=hid hRk;have HT2:Hid (Tl x t S M' (c+3*k) K F w wr.drew [(ib,.cells (zj (y.setBs B')) 40 (0,0))]):=hid (HT.o.below ((Below.refl _ _).drew));have hml:M'.map.length=16:=by
      obtain⟨Fr,hrs,hrl⟩:=HT.o;obtain⟨P,h3,h4⟩:=hrs.inv;exact h4.mapl
     have HMp:Hid (Calls prog 154 #[.pointer (some ⟨x,0,none⟩)] wr.drew fun e w'=>e= .returned (jO M'.map)∧Below wr.drew.heap.size wr.drew w'):=hid (by
      obtain⟨Fr,hrs,hrl⟩:=HT2.o;exact Zs wr.drew hrs.inv)
     have HGv:=hid fun W=>YE M'.map hml n W;obtain⟨m2,hm2⟩:=nm (Gd.giveI M'.map n);rw[←hm2]at HGv HRe;have hm2l:m2.length=16:=by
      rw[hm2];unfold Gd.giveI;split
      ·rw[Gd.give_length];exact hml
      ·exact hml
     have HSm:Hid (∀W,Tl x t S M' (c+3*k) K F w W [(ib,.cells (zj (y.setBs B')) 40 (0,0))]→Calls prog 93 #[.pointer (some ⟨x,0,none⟩),jO m2] W fun e w'=>e= .returned (.int .i64 0)∧Tl x t S (M'.setMap m2) (c+3*k+1) K F w w' [(ib,.cells (zj (y.setBs B')) 40 (0,0))]):=hid fun W hT=>by
      obtain⟨F2,h2s,h2l⟩:=hT;refine(vN m2 hm2l W h2s.inv (by have:=HC.o;omega)).mono ?_
      rintro e w' ⟨he,ht⟩;exact⟨he,Tl.next h2s h2l ht⟩
     have HB5:Hid ((B'.set k (0:Int)).length=4∧∀n∈B'.set k (0:Int),0≤n∧n≤128):=hid ⟨by rw[List.length_set];exact HB4.o.1,fun n hn=>by
      rcases List.mem_or_eq_of_mem_set hn with h|rfl
      ·exact HB4.o.2 n h
      ·omega⟩
     have HKk:=hid hlt;have HIb:Hid (∀W N d,Tl x t S N d K F w W [(ib,.cells (zj (y.setBs B')) 40 (0,0))]→W.cell? ⟨f,1,none⟩=some (.pointer (some ⟨x,0,none⟩))∧W.cell? ⟨ib,3+k,none⟩=some (.int .i64 n)):=hid fun W N d h=>⟨(jG.cells (t:=t) ((h.old (za HFi.o.1) HFi.o.2).trans HFi.o.1)).2,(zz.cB (b:=ib) (x:=y.setBs B') ⟨h.get (k:=ib) (by simp),⟨HB4.o.1,HSh.o.2⟩⟩ hn).1⟩;have hs0:=HIb.o _ _ _ HT2.o;obtain⟨mc,hmc⟩:=nm (jO M'.map);obtain⟨mc2,hmc2⟩:=nm (jO m2);rw[←hmc]at HMp HGv;rw[←hmc2]at HGv HSm;clear hn hnr hgd hRk hlt hml hm2 hm2l hmc hmc2 b1;go_upto_region 13 with fail
     clear b0;refine wp_region_held_drew (S:=(fun W=>W.cell? ⟨f,1,none⟩=some (.pointer (some ⟨x,0,none⟩))∧W.cell? ⟨ib,3+k,none⟩=some (.int .i64 n))) (by kernel_rfl) ?_ (fun hHeld=> ?_)
     ·exact hs0
     refine tk 0 ?_;refine tk 1 ?_;refine tk 2 ?_;refine tk 3 ?_;refine tk 4 ?_;refine tk 5 ?_;refine tk 6 ?_;refine tk 7 ?_;refine tk 9 ?_;refine tk 10 ?_;refine tk 11 ?_;refine tk 12 ?_;refine rd 8 (fun K hK=> ?_);go_simp
     refine HMp.o.mono ?_;rintro e w1 ⟨rfl,hb1⟩;have HL1:=hid (HT2.o.below hb1);have hs1:=HIb.o _ _ _ HL1.o;clear hb1;dsimp only;refine hK.o _ _ hs1 (fun hHeld=> ?_);clear hK K;try simp only[put]
     refine rd 13 (fun K hK=> ?_);go_simp
     refine(HGv.o w1).mono ?_
     rintro e w2 ⟨rfl,hb2⟩;have HL2:=hid (HL1.o.below hb2);have hs2:=HIb.o _ _ _ HL2.o;clear hb2;dsimp only;refine hK.o _ _ hs2 (fun hHeld=> ?_);clear hK K;try simp only[put]
     refine rd 14 (fun K hK=> ?_);go_simp
     refine(HSm.o w2 HL2.o).mono ?_
     rintro e w3 ⟨rfl,hl3⟩;have HL3:=hid hl3;have hs3:=HIb.o _ _ _ hl3;clear hl3;dsimp only;refine hK.o _ _ hs3 (fun hHeld=> ?_);clear hK K;try simp only[put]
     refine tk 15 ?_;refine dn ?_
     (try simp only[Exit.then])
     clear hs0 hs1 hs2;have b4:=hs3.2;have f4:w3.frozen? ⟨ib,3+k,none⟩=false:=frozen_of_row w3 ib (3+k) _ _ (HL3.o.get (k:=ib) (o:= .cells (zj (y.setBs B')) 40 (0,0)) (by simp));have hl5:Tl x t S (M'.setMap m2) (c+3*k+1) K F w (w3.setCell ⟨ib,3+k,none⟩ (.int .i64 0)) [(ib,.cells (zj (y.setBs (B'.set k (0:Int)))) 40 (0,0))]:=by
      refine HL3.o.set (k:=ib) (C:=zj (y.setBs B')) (ty:=40) (by simp) _ fun p hp=> ?_;rw[jX (uh HB4.o.1 HKk.o 0)];exact Or.inl (by simpa using hp)
     have HL5:=hid hl5;clear hl5 hs3;go_wp2_with fail
     go_roundw
     case rel=>exact⟨k+1,_,B'.set k (0:Int),by go_num,rfl,by omega,HRe,HB5,hid (by
      obtain⟨F9,g9,g9l⟩:=HL5.o;exact⟨F9,g9.mono fun h=>h.more (by omega) (Nat.le_refl K),g9l⟩)⟩
     case measure=>simp[intOf];omega
   ·rw[if_neg hnk]at hRk;have hkn:(k:Int)<need:=by omega
    have hpl:(Gd.part64 all k).length=64:=by unfold Gd.part64;rw[List.length_take,List.length_drop,HAl.o];omega
    have hSl:∀W,(Instr.slice 9 (.string ab) (some (.int .i64 ((k:Int)*64))) (some (.int .i64 (((k:Int)+1)*64))) none).run prog W= .ok (.string ⟨(Gd.part64 all k).toArray⟩) W:=fun W=>VZ (by rw[hasz];omega) (by rw[HAb.o]) W;have g1:IntKind.i64.wrap ((k:Int)*64)=(k:Int)*64:=by rw[IntKind.wrap_i64];omega
    have g2:IntKind.i64.wrap ((k:Int)+1)=(k:Int)+1:=by rw[IntKind.wrap_i64];omega
    have g3:IntKind.i64.wrap (((k:Int)+1)*64)=((k:Int)+1)*64:=by rw[IntKind.wrap_i64];omega
    obtain⟨pk,hpk⟩:=nm (Gd.part64 all k);rw[←hpk]at hRk hpl hSl;by_cases hn0:n=0
    ·rw[if_pos hn0]at hRk;have hfr:=(HT.o.old (za HFi.o.1) HFi.o.2).trans HFi.o.1;have f1:=(jG.cells (t:=t) hfr).2;obtain⟨Fr,hrs,hrl⟩:=HT.o;subst hn0;by_cases hsp:128-(Gd.countB M'.map:Int)≤max 0 spare
     ·rw[if_pos hsp]at hRk;have HRe:=hid hRk;have HBn:=hid (Qg spare wr hrs.inv hsp);have HT4:Hid (∀w4,Below wr.heap.size wr w4→Tl x t S M' (c+3*k) K F w w4 [(ib,.cells (zj (y.setBs B')) 40 (0,0))]):=hid fun w4 h=>HT.o.below h;clear hrs hrl hsp hRk hn hnr hgd hlt hnk hfr hpk b1;go_upto_region 16 with fail
      clear b0;go_wp2_with fail
      refine HBn.o.mono ?_;rintro e w4 ⟨rfl,hb4⟩;have HL4:=hid (HT4.o w4 hb4);clear hb4;have hI4:zz w4 ib (y.setBs B'):=⟨HL4.o.get (k:=ib) (by simp),⟨HB4.o.1,HSh.o.2⟩⟩;have f4:=hI4.f (3+k);have b4:∃v,w4.cell? ⟨ib,3+k,none⟩=some v:=by
       obtain⟨n,hn⟩:∃n,B'[k]? =some n:=⟨_,List.getElem?_eq_getElem (by rw[HB4.o.1];omega)⟩;exact⟨_,(hI4.cB (k:=k) (n:=n) hn).1⟩
      obtain⟨v4,b4⟩:=b4;have hl5:Tl x t S M' (c+3*k) K F w (w4.setCell ⟨ib,3+k,none⟩ (.int .i64 0)) []:=HL4.o.set (k:=ib) (C:=zj (y.setBs B')) (ty:=40) (by simp) _ (fun p hp=>by simp at hp);have HL5:=hid hl5;clear hI4 hl5;go_wp2;go_ret
      rw[HRe.o];refine⟨rfl,M',?_⟩;obtain⟨F9,h9⟩:=HL5.o.turns;exact⟨F9,h9.mono fun h=>h.more (by omega) (Nat.le_refl K)⟩
     ·rw[if_neg hsp]at hRk;have HRe:=hid hRk;have hml:M'.map.length=16:=by
       obtain⟨P,h3,h4⟩:=hrs.inv;exact h4.mapl
      have hfs:=Gd.first_some hml (by omega);have HBn:=hid (JA spare wr hrs.inv (by omega) (by have:=HC.o;omega));obtain⟨q,hq⟩:=nm (Gd.firstB M'.map);rw[←hq]at HBn HRe hfs;obtain⟨M2,hM2⟩:=nm M'.take;rw[←hM2]at HBn HRe;have HNx:=hid fun b N d (h:zV x t S N d K Fr wr b)=>Tl.next hrs hrl h;have HB5:Hid ((B'.set k (q:Int)).length=4∧∀n∈B'.set k (q:Int),0≤n∧n≤128):=hid ⟨by rw[List.length_set];exact HB4.o.1,fun n hn=>by
       rcases List.mem_or_eq_of_mem_set hn with h|rfl
       ·exact HB4.o.2 n h
       ·omega⟩
      have HKk:=hid (And.intro hlt (And.intro hfs.1 hfs.2.1));have hBq:(B'.set k (q:Int))[k]? =some (q:Int):=by rw[List.getElem?_set_self (by rw[HB4.o.1];exact hlt)]
      have hq0:¬(q:Int)=0:=by omega
      have HPc:Hid (∀W d,Tl x t S M2 d K F w W [(ib,.cells (zj (y.setBs (B'.set k (q:Int)))) 40 (0,0))]→d<64→Calls prog 157 #[.pointer (some ⟨f,0,none⟩),.int .i64 q,.string ⟨pk.toArray⟩] W fun e w'=>e= .returned (.int .i64 0)∧Tl x t S (M2.setBlk q pk) (d+1) K F w w' [(ib,.cells (zj (y.setBs (B'.set k (q:Int)))) 40 (0,0))]):=hid fun W d hT hd=>by
       have hf2:jG W f t x:=(hT.old (za HFi.o.1) HFi.o.2).trans HFi.o.1;obtain⟨F2,h2s,h2l⟩:=hT;have hfn:¬F2 f:=fun e=>HFi.o.2 (h2s.old f (za HFi.o.1) e);refine(Jo q pk W h2s.inv hf2 hfn HKk.o.2.1 HKk.o.2.2 hpl hd).mono ?_
       rintro e w' ⟨he,ht⟩;exact⟨he,Tl.next h2s h2l ht⟩
      have HIb:Hid (∀W N d,Tl x t S N d K F w W [(ib,.cells (zj (y.setBs (B'.set k (q:Int)))) 40 (0,0))]→W.cell? ⟨ib,3+k,none⟩=some (.int .i64 q)):=hid fun W N d h=>(zz.cB (b:=ib) (x:=y.setBs (B'.set k (q:Int))) ⟨h.get (k:=ib) (by simp),⟨HB5.o.1,HSh.o.2⟩⟩ hBq).1;clear hrs hrl hsp hRk hn hnr hgd hlt hnk hfr hpk b1 hml hfs hq hM2 hBq;go_upto_region 16 with fail
      clear b0;go_wp2_with fail
      refine HBn.o.mono ?_;rintro e w4 ⟨rfl,ht4⟩;have HL4:=hid (HNx.o _ _ _ ht4);clear ht4 HNx HBn;have hI4:zz w4 ib (y.setBs B'):=⟨HL4.o.get (k:=ib) (by simp),⟨HB4.o.1,HSh.o.2⟩⟩;have f4:=hI4.f (3+k);have b4:∃v,w4.cell? ⟨ib,3+k,none⟩=some v:=by
       obtain⟨n,hn⟩:∃n,B'[k]? =some n:=⟨_,List.getElem?_eq_getElem (by rw[HB4.o.1];exact HKk.o.1)⟩;exact⟨_,(hI4.cB (k:=k) (n:=n) hn).1⟩
      obtain⟨v4,b4⟩:=b4;have hl5:Tl x t S M2 (c+3*k+2) K F w (w4.setCell ⟨ib,3+k,none⟩ (.int .i64 q)) [(ib,.cells (zj (y.setBs (B'.set k (q:Int)))) 40 (0,0))]:=by
       refine HL4.o.set (k:=ib) (C:=zj (y.setBs B')) (ty:=40) (by simp) _ fun p hp=> ?_;rw[jX (uh HB4.o.1 HKk.o.1 q)];exact Or.inl (by simpa using hp)
      obtain⟨w5,hw5⟩:=nm (w4.setCell ⟨ib,3+k,none⟩ (.int .i64 q));rw[←hw5]at hl5;have HW5:=hid hw5.symm;have hl6:=hl5.below ((Below.refl _ _).drew);have HPk:=hid (HPc.o w5.drew _ hl6 (by have:=HC.o;omega));have hs0:=HIb.o _ _ _ hl6;have c5:=HIb.o _ _ _ hl5;have f5:w5.frozen? ⟨ib,3+k,none⟩=false:=frozen_of_row w5 ib (3+k) _ _ (hl5.get (k:=ib) (o:= .cells (zj (y.setBs (B'.set k (q:Int)))) 40 (0,0)) (by simp));clear hI4 hl5 hl6 hw5;go_upto_region 17 with fail
      rw[HW5.o];clear b4 f4;go_upto_region 20 with fail
      refine wp_region_held_drew (S:=(fun W=>W.cell? ⟨ib,3+k,none⟩=some (.int .i64 q))) (by kernel_rfl) ?_ (fun hHeld=> ?_)
      ·exact hs0
      refine tk 0 ?_;refine tk 1 ?_;refine tk 2 ?_;refine tk 3 ?_;refine tk 4 ?_;refine tk 5 ?_;refine tk 6 ?_;refine tk 7 ?_;refine tk 8 ?_;refine tk 9 ?_;refine tk 10 ?_;refine tk 11 ?_;refine rd 12 (fun K hK=> ?_);go_simp
      refine HPk.o.mono ?_;rintro e w6 ⟨rfl,hl6⟩;have HL6:=hid hl6;have hs6:=HIb.o _ _ _ hl6;clear hl6;dsimp only;refine hK.o _ _ hs6 (fun hHeld=> ?_);clear hK K;try simp only[put]
      refine tk 13 ?_;refine dn ?_
      (try simp only[Exit.then])
      clear hs0 hs6 c5 f5;go_wp2;go_roundw
      case rel=>exact⟨k+1,_,B'.set k (q:Int),by go_num,rfl,by omega,HRe,HB5,hid (by
       obtain⟨F9,g9,g9l⟩:=HL6.o;exact⟨F9,g9.mono fun h=>h.more (by omega) (Nat.le_refl K),g9l⟩)⟩
      case measure=>simp[intOf];omega
    ·rw[if_neg hn0]at hRk;obtain⟨q,rfl⟩:∃q:Nat,n=q:=⟨n.toNat,by omega⟩;rw[Int.toNat_natCast]at hRk;have HRe:=hid hRk;have hq0:¬(q:Int)=0:=hn0;have HT2:Hid (Tl x t S M' (c+3*k) K F w wr.drew [(ib,.cells (zj (y.setBs B')) 40 (0,0))]):=hid (HT.o.below ((Below.refl _ _).drew));obtain⟨F2,h2s,h2l⟩:=HT2.o;have hf2:jG wr.drew f t x:=(HT2.o.old (za HFi.o.1) HFi.o.2).trans HFi.o.1;have hfn:¬F2 f:=fun e=>HFi.o.2 (h2s.old f (za HFi.o.1) e);have HPc:=hid (Jo q pk wr.drew h2s.inv hf2 hfn (by omega) (by omega) hpl (by have:=HC.o;omega));have HNx:=hid fun b N d (h:zV x t S N d K F2 wr.drew b)=>Tl.next h2s h2l h;have HIb:Hid (∀W N d,Tl x t S N d K F w W [(ib,.cells (zj (y.setBs B')) 40 (0,0))]→W.cell? ⟨ib,3+k,none⟩=some (.int .i64 q)):=hid fun W N d h=>(zz.cB (b:=ib) (x:=y.setBs B') ⟨h.get (k:=ib) (by simp),⟨HB4.o.1,HSh.o.2⟩⟩ hn).1;have hs0:=HIb.o _ _ _ HT2.o
     clear h2s h2l hf2 hfn hn hnr hgd hRk hlt hnk hn0 hpk b1;go_upto_region 20 with fail
     refine wp_region_held_drew (S:=(fun W=>W.cell? ⟨ib,3+k,none⟩=some (.int .i64 q))) (by kernel_rfl) ?_ (fun hHeld=> ?_)
     ·exact hs0
     refine tk 0 ?_;refine tk 1 ?_;refine tk 2 ?_;refine tk 3 ?_;refine tk 4 ?_;refine tk 5 ?_;refine tk 6 ?_;refine tk 7 ?_;refine tk 8 ?_;refine tk 9 ?_;refine tk 10 ?_;refine tk 11 ?_;refine rd 12 (fun K hK=> ?_);go_simp
     refine HPc.o.mono ?_;rintro e w3 ⟨rfl,ht3⟩;have HL4:=hid (HNx.o _ _ _ ht3);have hs3:=HIb.o _ _ _ HL4.o;clear ht3;dsimp only;refine hK.o _ _ hs3 (fun hHeld=> ?_);clear hK K;try simp only[put]
     refine tk 13 ?_;refine dn ?_
     (try simp only[Exit.then])
     clear hs0 hs3;go_wp2;go_roundw
     case rel=>exact⟨k+1,_,B',by go_num,rfl,by omega,HRe,HB4,hid (by
      obtain⟨F9,g9,g9l⟩:=HL4.o;exact⟨F9,g9.mono fun h=>h.more (by omega) (Nat.le_refl K),g9l⟩)⟩
     case measure=>simp[intOf];omega
  ·obtain rfl:k=4:=by omega
   have HRe:Hid (R=some (M',B')):=HRk;have hk4:(4:Nat)=4:=rfl;obtain⟨k,hkk⟩:∃k:Nat,k=4:=⟨_,rfl⟩;rw[←hkk]at HT;clear hlt hk4;go_upto_region 24 with fail
   have HI6:Hid (zz wr ib (y.setBs B')):=hid ⟨HT.o.get (k:=ib) (by simp),⟨HB4.o.1,HSh.o.2⟩⟩;have b2:=HI6.o.c2;have f2:=HI6.o.f 2;have HSz:Hid (((y.setBs B').setS l).Shape):=hid ⟨HB4.o.1,HSh.o.2⟩;have HSs:=hid (zy HSz.o);have hl7:Tl x t S M' (c+3*k) K F w (wr.setCell ⟨ib,2,none⟩ (.int .i64 l)) [(ib,.cells (zj ((y.setBs B').setS l)) 40 (0,0))]:=by
    refine HT.o.set (k:=ib) (C:=zj (y.setBs B')) (ty:=40) (by simp) _ fun p hp=> ?_;rw[jX (xS (y.setBs B') l)];exact Or.inl (by simpa using hp)
   obtain⟨w7,hw7⟩:=nm (wr.setCell ⟨ib,2,none⟩ (.int .i64 l));rw[←hw7]at hl7;have HW7:=hid hw7.symm;have HL7:Hid (Tl x t S M' (c+3*k) K F w w7.drew [(ib,.cells (zj ((y.setBs B').setS l)) 40 (0,0))]):=hid (hl7.below ((Below.refl _ _).drew));obtain⟨F7,h7s,h7l⟩:=HL7.o;have hf7:jG w7.drew f t x:=(HL7.o.old (za HFi.o.1) HFi.o.2).trans HFi.o.1;have HSi:=hid (qW (i:Int) ((y.setBs B').setS l) HSz.o (HMy.o (M',B') HRe.o) w7.drew h7s.inv (by have:=HI12.o;omega) (by have:=HI12.o;omega) (by have:=HC.o;omega));rw[Int.toNat_natCast]at HSi;have HNx:=hid fun b N d (h:zV x t S N d K F7 w7.drew b)=>Tl.next h7s h7l h;have HRow:=hid (HL7.o.get (k:=ib) (o:= .cells (zj ((y.setBs B').setS l)) 40 (0,0)) (by simp));have hs0:=hf7.cells.2
   have hs1:∀W F8 N d,Tl x t S N d K F w W F8→W.cell? ⟨f,1,none⟩=some (.pointer (some ⟨x,0,none⟩)):=fun W F8 N d h=>jG.cells (t:=t) ((h.old (za HFi.o.1) HFi.o.2).trans HFi.o.1) |>.2;have HS1:=hid hs1;clear hl7 hw7 h7s h7l hf7 hs1;go_upto_region 25 with fail
   rw[HW7.o];unfold zQ at HSi;refine wp_region_held_drew (S:=(fun W=>W.cell? ⟨f,1,none⟩=some (.pointer (some ⟨x,0,none⟩)))) (by kernel_rfl) ?_ (fun hHeld=> ?_)
   ·exact hs0
   refine tk 0 ?_;refine tk 1 ?_;refine tk 2 ?_;refine tk 3 ?_;refine tk 4 ?_;refine rd 5 (fun K hK=> ?_);refine wp_load_row 40 _ rfl ib rfl 40 (zj ((y.setBs B').setS l)) (0,0) _ HRow.o underlying40 rfl (by rw[HSs.o];exact sizeIno) ?_;try dsimp only
   refine hK.o _ _ hs0 (fun hHeld=> ?_);clear hK K;try simp only[put]
   refine rd 6 (fun K hK=> ?_);go_simp
   refine HSi.o.mono ?_;rintro e w8 ⟨rfl,ht8⟩;have HL8:=hid (HNx.o _ _ _ ht8);have hs8:=HS1.o _ _ _ _ HL8.o;clear ht8;dsimp only;refine hK.o _ _ hs8 (fun hHeld=> ?_);clear hK K;try simp only[put]
   refine tk 7 ?_;refine dn ?_
   (try simp only[Exit.then])
   clear hs0 hs8;go_wp2;go_ret
   rw[HRe.o];exact⟨rfl,by
    obtain⟨F9,h9⟩:=HL8.o.turns;exact⟨F9,h9.mono fun h=>h.more (by omega) (Nat.le_refl K)⟩⟩
end Go.Proofs.YtccpdkjonepoiaaGreatDoor
