/- Walk: clog.Encode. -/
import Derived.Test.YtccpdkjonepoiaaGreatDoorT26
set_option linter.unusedVariables false
set_option linter.unusedSimpArgs false
set_option linter.unusedSectionVars false
set_option maxHeartbeats 8000000
set_option maxRecDepth 100000
namespace Go.Proofs.YtccpdkjonepoiaaGreatDoor
open Go.RowKit
open Lib(hid)
open Go.Proofs.Tryz
section
open Go.Shelf
attribute [local go_sem] Oper.semAt_some
def qq(r:Gd.Rec):Value:=Fl.recV r.call r.inode r.tr r.off ⟨r.d.toArray⟩
def qK(w:World)(r:Gd.Rec)(wk:World):Prop:=Below w.heap.size w wk∧wk.heap[w.heap.size]? =some (.cells #[.int .i64 r.call,.int .i64 r.inode,.bool r.tr,.int .i64 r.off,.string ⟨r.d.toArray⟩] 57 (0,0))
theorem qK.next{w wk wk':World}{r:Gd.Rec}(h:qK w r wk)(hb:Below wk.heap.size wk wk'):qK w r wk':=
 ⟨h.1.trans (hb.mono h.1.size),(hb.block _ (za h.2)).trans h.2⟩
theorem qK.cells{w wk:World}{r:Gd.Rec}(h:qK w r wk):wk.cell? ⟨w.heap.size,0,none⟩=some (.int .i64 r.call)∧wk.cell? ⟨w.heap.size,1,none⟩=some (.int .i64 r.inode)∧wk.cell? ⟨w.heap.size,2,none⟩=some (.bool r.tr)∧wk.cell? ⟨w.heap.size,3,none⟩=some (.int .i64 r.off)∧wk.cell? ⟨w.heap.size,4,none⟩=some (.string ⟨r.d.toArray⟩):=
 ⟨cell_of_row wk _ 0 _ _ _ h.2,cell_of_row wk _ 1 _ _ _ h.2,cell_of_row wk _ 2 _ _ _ h.2,cell_of_row wk _ 3 _ _ _ h.2,cell_of_row wk _ 4 _ _ _ h.2⟩
theorem ud(w:World)(n:Nat):vf (w.alloc (.cells #[.int .i64 n] 3)) (.slice (some ⟨w.heap.size,0,none⟩) 1 1) [n]:=by
 refine⟨w.heap.size,rfl,by simp,fun j x hx=> ?_⟩;match j,hx with
 |0,hx=>
  cases hx
  exact cell_of_row _ _ 0 _ _ _ (heap_alloc_new w _)
theorem YB(w:World)(n m:Nat):vf (w.alloc (.cells #[.int .i64 n,.int .i64 m] 3)) (.slice (some ⟨w.heap.size,0,none⟩) 2 2) [n,m]:=by
 refine⟨w.heap.size,rfl,by simp,fun j x hx=> ?_⟩;match j,hx with
 |0,hx=>
  cases hx
  exact cell_of_row _ _ 0 _ _ _ (heap_alloc_new w _)
 |1,hx=>
  cases hx
  exact cell_of_row _ _ 1 _ _ _ (heap_alloc_new w _)
theorem Qh{B:Nat}{w w':World}(h:Below B w w'):Below B w w'.drew:=⟨h.os,h.tape,h.output,h.size,h.block⟩
theorem Xn{w:World}{s:Value}{N:List Nat}(h:vf w s N):vf w.drew s N:=h
theorem uU{r:Gd.Rec}(h:r.may=true):0≤r.call∧r.call≤1099511627776∧1≤r.inode∧r.inode≤32∧0≤r.off∧r.off≤256∧r.d.length≤64:=by
 apply Classical.byContradiction
 intro hn;have:=Fp.mayB_no (call:=r.call) (inode:=r.inode) (tr:=r.tr) (off:=r.off) (d:=r.d) (by omega)
 unfold Gd.Rec.may at h;rw[this]at h
 cases h
theorem xU(wk:World)(v s:Value)(B:Nat)(L:List UInt8)(k:Nat)(hk:Gd.wid k)(N:List Nat)(hN:∀n∈N,n<256^k∧n≤9223372036854775807)(hNl:N.length≤100)(hB:B≤wk.heap.size)(h:zA wk B v L)(hl:L.length≤100000)(wz:World)(hz:Below wk.heap.size wk wz)(hs:vf wz s N):
 Calls prog 195 #[v,.int .i64 k,s] wz fun e w'=>∃u,e= .returned u∧zA w' B u (jn k L N)∧Below wk.heap.size wk w':=
 (J9 v s L k hk N hN hNl wz B (Nat.le_trans hB hz.size) (h.keep hz) hl hs).mono fun e w' ⟨u,he,ho,hb⟩=>⟨u,he,ho,hz.trans (hb.mono hz.size)⟩
theorem VC(r:Gd.Rec)(hd:r.d.length≤1000)(hm:¬r.may=true)(w:World):Calls prog 179 #[qq r] w fun e w'=>e= .returned (.tuple #[.slice none 0 0,.int .i64 1])∧Below w.heap.size w w':=by
 have HM:=hid fun wk=>Fl.may_any r.call r.inode r.tr r.off ⟨r.d.toArray⟩ wk (by show r.d.length≤_;omega);have hf:Fp.mayB r.call r.inode r.tr r.off r.d=false:=by simpa [Gd.Rec.may]using hm
 have hf2:Fp.mayB r.call r.inode r.tr r.off (⟨r.d.toArray⟩:ByteArray).data.toList=false:=hf;rw[hf2]at HM;unfold qq;obtain⟨rc,ri,rt,ro,rd⟩:=r;dsimp only at*;obtain⟨s,hs⟩:∃s:ByteArray,s=⟨rd.toArray⟩:=⟨_,rfl⟩;rw[←hs]at HM⊢;unfold Fl.recV at HM⊢;clear hs hm hf hf2 hd;go_enter func179,ntmps179;go_wp2_with(go_at_call 121;refine(HM.o _).mono ?_;rintro e w2 ⟨rfl,hb2⟩;have HB2:=hid hb2;clear hb2)
 go_ret2
 exact⟨rfl,((Below.refl _ w).alloc (Nat.le_refl _) _).trans (HB2.o.mono (by simp))⟩
theorem YR(r:Gd.Rec)(hm:r.may=true)(w:World):Calls prog 179 #[qq r] w fun e w'=>∃u,e= .returned (.tuple #[u,.int .i64 0])∧zA w' w.heap.size u (Gd.encL r)∧Below w.heap.size w w':=by
 obtain⟨b0,b1,b2,b3,b4,b5,b6⟩:=uU hm;obtain⟨ca,hca⟩:∃n:Nat,r.call=n:=⟨r.call.toNat,by omega⟩;obtain⟨ki,hki⟩:∃n:Nat,r.inode=n:=⟨r.inode.toNat,by omega⟩;obtain⟨of,hof⟩:∃n:Nat,r.off=n:=⟨r.off.toNat,by omega⟩;have HM:=hid fun wk=>Fl.may_any r.call r.inode r.tr r.off ⟨r.d.toArray⟩ wk (by show r.d.length≤_;omega);have hf2:Fp.mayB r.call r.inode r.tr r.off (⟨r.d.toArray⟩:ByteArray).data.toList=true:=hm;rw[hf2]at HM;obtain⟨dn,hdn⟩:=nm r.d.length;obtain⟨s,hs⟩:∃s:ByteArray,s=⟨r.d.toArray⟩:=⟨_,rfl⟩;have hsz:s.size=dn:=by rw[hs,hdn];rfl
 have HSt0:Hid (qK w r (w.alloc (.cells #[.int .i64 r.call,.int .i64 r.inode,.bool r.tr,.int .i64 r.off,.string ⟨r.d.toArray⟩] 57))):=hid ⟨(Below.refl _ w).alloc (Nat.le_refl _) _,heap_alloc_new w _⟩;have HBody:Hid (Gd.bodyL r=(jn 2 (jn 1 (jn 8 [] [ca]) [ki,(Gd.trB r.tr).toNat]) [of])++[UInt8.ofNat dn]++r.d):=hid (by
  unfold Gd.bodyL;rw[hca,hki,hof,hdn];simp only[jn,Gd.le,List.nil_append,Int.toNat_natCast,List.append_assoc,List.cons_append];simp)
 have HD:Hid (s=⟨r.d.toArray⟩∧r.d.length≤64∧dn=r.d.length):=hid ⟨hs,b6,hdn⟩;have hdn64:dn≤64:=by omega
 have hki2:ki≤32:=by omega
 have hca2:ca≤1099511627776:=by omega
 have hof2:of≤256:=by omega
 have htr:=(Gd.trB r.tr).toNat_lt;obtain⟨tb,htb⟩:=nm ((Gd.trB r.tr).toNat);rw[←htb]at HBody htr;have HTr:=hid fun wk=>QQ r.tr wk;rw[←htb]at HTr;have HSx:Hid (∀wk,qK w r wk→wk.cell? ⟨w.heap.size,0,none⟩=some (.int .i64 ca)∧wk.cell? ⟨w.heap.size,1,none⟩=some (.int .i64 ki)∧wk.cell? ⟨w.heap.size,2,none⟩=some (.bool r.tr)∧wk.cell? ⟨w.heap.size,3,none⟩=some (.int .i64 of)∧wk.cell? ⟨w.heap.size,4,none⟩=some (.string s)):=hid fun wk h=>by
  have:=h.cells
  rw[hca,hki,hof,←hs]at this;exact this
 have hrv:qq r= .agg #[.int .i64 ca,.int .i64 ki,.bool r.tr,.int .i64 of,.string s]:=by unfold qq Fl.recV;rw[hca,hki,hof,hs]
 rw[hrv];rw[hca,hki,hof,←hs]at HSt0;have HMr:Hid (∀wk,Calls prog 121 #[.agg #[.int .i64 ca,.int .i64 ki,.bool r.tr,.int .i64 of,.string s]] wk fun e w'=>e= .returned (.bool true)∧Below wk.heap.size wk w'):=hid fun wk=>by
  have:=HM.o wk
  unfold Fl.recV at this;rw[hca,hki,hof,←hs]at this;exact this
 obtain⟨rt,hrt⟩:=nm r.tr;rw[←hrt]at HTr HSt0 HMr HSx⊢;obtain⟨W0,hW0⟩:=nm (w.alloc (.cells #[.int .i64 ca,.int .i64 ki,.bool rt,.int .i64 of,.string s] 57));rw[←hW0]at HSt0;have hc0:=HSx.o _ HSt0.o;clear HM hf2 hs hrv b0 b1 b2 b3 b4 b5 b6 htb hm hca hki hof hdn hrt;go_enter func179,ntmps179;go_upto_region 1 with fail
 rw[←hW0];clear hW0;obtain⟨x0,x1,x2,x3,x4⟩:=hc0;go_upto_region 3 with(go_at_call 121;refine(HMr.o _).mono ?_;rintro e w2 ⟨rfl,hb2⟩)
 have HSt2:=hid (HSt0.o.next hb2);clear hb2 x0 x1 x2 x3 x4 HMr;obtain⟨x0,x1,x2,x3,x4⟩:=HSx.o _ HSt2.o;have HB2:=hid HSt2.o.1.size;have HN1:=hid (xU w2 (.slice none 0 0) _ w.heap.size [] 8 (Or.inr (Or.inr (Or.inr rfl))) [ca] (fun n hn=>by simp only[List.mem_singleton]at hn;subst hn;omega) (by simp) HB2.o (q8 _ _) (by simp) _ ((Below.refl _ w2).alloc (Nat.le_refl _) _) (ud w2 ca));go_upto_region 4 with(go_at_call 195;refine HN1.o.mono ?_;rintro e w3 ⟨v3,rfl,ho3,hb3⟩)
 have HSt3:=hid (HSt2.o.next hb3);have HO3:=hid ho3;clear ho3 hb3 x0 x1 x2 x3 x4 HN1;obtain⟨x0,x1,x2,x3,x4⟩:=HSx.o _ HSt3.o;have HB3:=hid HSt3.o.1.size;have HN2:=hid (xU w3 v3 _ w.heap.size _ 1 (Or.inl rfl) [ki,tb] (fun n hn=>by simp only[List.mem_cons,List.not_mem_nil,or_false]at hn;rcases hn with rfl|rfl<;>omega) (by simp) HB3.o HO3.o (by rw[zS];simp) _ (Qh ((Below.refl _ w3).alloc (Nat.le_refl _) _)) (Xn (YB w3 ki tb)));go_cut[4] from 12 to 19 (fun z wx=>Hid (qK w r wx)∧Hid (zA wx w.heap.size z (jn 1 (jn 8 [] [ca]) [ki,tb])))
 case first=>
  go_region_with (first|(go_at_call 195;refine HN2.o.mono ?_;rintro e w4 ⟨v4,rfl,ho4,hb4⟩)|(go_at_call 196;refine(HTr.o _).mono ?_;rintro e w4 ⟨rfl,rfl⟩))
  all_goals
   go_wp2_with fail
   go_meet
   exact⟨hid (HSt3.o.next hb4),hid ho4⟩
 case rest=>
 obtain⟨w4,rfl⟩:=nm wc;obtain⟨HSt4,HO4⟩:=hcut;clear x0 x1 x2 x3 x4 HN2 HTr;obtain⟨x0,x1,x2,x3,x4⟩:=HSx.o _ HSt4.o;have HB4:=hid HSt4.o.1.size;have HN3:=hid (xU w4 u4 _ w.heap.size _ 2 (Or.inr (Or.inl rfl)) [of] (fun n hn=>by simp only[List.mem_singleton]at hn;subst hn;omega) (by simp) HB4.o HO4.o (by rw[zS,zS];simp) _ ((Below.refl _ w4).alloc (Nat.le_refl _) _) (ud w4 of));go_upto_region 6 with(go_at_call 195;refine HN3.o.mono ?_;rintro e w5 ⟨v5,rfl,ho5,hb5⟩)
 have HSt5:=hid (HSt4.o.next hb5);have HO5:=hid ho5;clear ho5 hb5 x0 x1 x2 x3 x4 HN3;obtain⟨x0,x1,x2,x3,x4⟩:=HSx.o _ HSt5.o;have HB5:=hid HSt5.o.1.size;have HN4:=hid (xU w5 v5 _ w.heap.size _ 1 (Or.inl rfl) [dn] (fun n hn=>by simp only[List.mem_singleton]at hn;subst hn;omega) (by simp) HB5.o HO5.o (by rw[zS,zS,zS];simp) _ ((Below.refl _ w5).alloc (Nat.le_refl _) _) (ud w5 dn));go_upto_region 7 with(go_at_call 195;refine HN4.o.mono ?_;rintro e w6 ⟨v6,rfl,ho6,hb6⟩)
 have HSt6:=hid (HSt5.o.next hb6);have HO6:=hid ho6;clear ho6 hb6 x0 x1 x2 x3 x4 HN4;obtain⟨x0,x1,x2,x3,x4⟩:=HSx.o _ HSt6.o;have HB6:=hid HSt6.o.1.size;have HE6:Hid (jn 1 (jn 2 (jn 1 (jn 8 [] [ca]) [ki,tb]) [of]) [dn]++r.d=Gd.bodyL r):=hid (by rw[HBody.o];simp only[jn,Gd.le]);have HL6:Hid ((jn 1 (jn 2 (jn 1 (jn 8 [] [ca]) [ki,tb]) [of]) [dn]).length+r.d.length≤1000):=hid (by rw[zS,zS,zS,zS];have:=HD.o.2.1;simp;omega);go_upto_region 8 with(at_builtin;refine vE rfl _ _ rfl w.heap.size v6 _ w6 rfl HO6.o r.d s HD.o.1 rfl (by have:=HL6.o;omega) HB6.o ?_;intro v7 w7 ho7 hb7)
 rw[HE6.o]at ho7;obtain⟨R,hR⟩:=nm (Gd.bodyL r);have HEnc:Hid (Gd.encL r=R++Gd.le (Gd.crc R) 4++List.replicate (Gd.up8 (R.length+4)-(R.length+4)) 0):=hid (by
  unfold Gd.encL Gd.padL;rw[Gd.sumL_length];unfold Gd.sumL;rw[←hR,show 17+r.d.length=R.length+4 by rw[hR,Gd.bodyL_length];omega])
 have HRl:Hid (R.length≤1000):=hid (by rw[hR,Gd.bodyL_length];have:=HD.o.2.1;omega);rw[←hR]at ho7;have HB7:Hid (Below w.heap.size w w7):=hid (HSt6.o.1.trans hb7);have HO7:=hid ho7;clear ho7 hb7 hR x0 x1 x2 x3 x4 HE6 HL6 HO6 HSx;have hcl:=Gd.crc_lt R;have HCr:=hid (qf v7 R w7 HO7.o.at_ (by have:=HRl.o;omega));obtain⟨cc,hcc⟩:=nm (Gd.crc R);rw[←hcc]at HCr HEnc hcl;have hc2:(cc:Int)<4294967296:=by omega
 clear hcc;go_upto_region 9 with(first|(go_at_call 104;refine HCr.o.mono ?_;rintro e w8 ⟨rfl,hb8⟩;have HB8:=HB7.t hb8;have HO8:=hid (HO7.o.keep hb8);have HP8:=hid (z8 v7 R cc 4 (Or.inr (Or.inr (Or.inl rfl))) (by omega) (by omega) w8 HO8.o.at_ (by have:=HRl.o;omega));clear hb8)|(go_at_call 130;refine HP8.o.mono ?_;rintro e w9 ⟨v9,rfl,ho9,hb9⟩))
 have HO9:=hid (ho9.mono HB8.o.size);have HB9:=HB8.t hb9;clear ho9 hb9 HCr HP8;obtain⟨A4,c4,rfl,ht4⟩:=HO9.o.at_;have hl4:(R++Gd.le cc 4).length=R.length+4:=by rw[List.length_append,Gd.le_length]
 obtain⟨n,hn⟩:=nm ((R++Gd.le cc 4).length);rw[←hn]at hl4 HO9⊢;have hn2:n≤1004:=by have:=HRl.o;omega
 obtain⟨u,hu8⟩:=nm (Gd.up8 n);have hu:=Gd.up8_ge n;have HUp:=hid (Zi n (by omega) w9);rw[←hu8]at hu HUp;obtain⟨hu1,hu2,-⟩:=hu;have HRr:=hid hn;have HE2:Hid (Gd.encL r=R++Gd.le cc 4++List.replicate (u-n) 0):=hid (by rw[HEnc.o,←hl4,←hu8]);clear ht4 hl4 hu8 hn HEnc;go_wp2_with fail
 refine HUp.o.mono ?_;rintro e w10 ⟨rfl,rfl⟩;clear HUp;have f1:(n:Int)≤u:=by omega
 have f2:(u:Int)<n+8:=by omega
 go_wp2_with(at_builtin;refine xb rfl _ _ rfl w.heap.size (.slice A4 n c4) _ w10 rfl HO9.o (u-n) _ rfl (by omega) (by have:=HRr.o;omega) HB9.o.size ?_;intro v6 w6 ho6 hb6)
 have HO10:=hid ho6;have HB10:=hid (HB9.o.trans hb6);clear ho6 hb6;go_wp2;go_ret2
 refine⟨_,rfl,?_,HB10.o⟩;rw[HE2.o];exact HO10.o
end
section
open Go.Shelf
attribute [local go_sem] Oper.semAt_some
def jD(w:World)(v:Value)(L:List UInt8):Prop:=∃b o c,v= .slice (some ⟨b,o,none⟩) L.length c∧L.length≤c∧c≤9223372036854775807∧b<w.heap.size∧∀(j:Nat) (x:UInt8),L[j]? =some x→w.cell? ⟨b,o+j,none⟩=some (.int .u8 x.toNat)
theorem jD.at_{w:World}{v:Value}{L:List UInt8}(h:jD w v L):zr w v L:=by
 obtain⟨b,o,c,rfl,_,_,hb,hc⟩:=h;exact⟨_,_,rfl,Or.inr ⟨b,o,rfl,hb,hc⟩⟩
theorem jD.keep{w w':World}{v:Value}{L:List UInt8}(h:jD w v L)(hb:Below w.heap.size w w'):jD w' v L:=by
 obtain⟨b,o,c,rfl,h1,h1b,h2,h3⟩:=h;exact⟨b,o,c,rfl,h1,h1b,Nat.lt_of_lt_of_le h2 hb.size,fun j x hx=>(hb.cell (p:=⟨b,o+j,none⟩) h2).trans (h3 j x hx)⟩
theorem yE{w:World}{b o:Nat}{L:List UInt8}(hb:b<w.heap.size)(hc:∀(j:Nat) (x:UInt8),L[j]? =some x→w.cell? ⟨b,o+j,none⟩=some (.int .u8 x.toNat))(lo m k:Nat)(hk:lo+k≤L.length):zr w (.slice (some ⟨b,o+lo,none⟩) k m) ((L.drop lo).take k):=by
 have hl:((L.drop lo).take k).length=k:=by rw[List.length_take,List.length_drop];omega
 refine⟨some ⟨b,o+lo,none⟩,m,by rw[hl],Or.inr ⟨b,o+lo,rfl,hb,fun j x hx=> ?_⟩⟩;have hj:j<k:=by rw[←hl];exact(List.getElem?_eq_some_iff.mp hx).1
 rw[List.getElem?_take,if_pos hj,List.getElem?_drop]at hx;rw[Nat.add_assoc];exact hc (lo+j) x hx
theorem uG(u v:Value)(L M:List UInt8)(w:World)(hu:jD w u L)(hv:zr w v M)(hl:L.length≤1000000)(hm:M.length≤1000000):Calls prog 180 #[u,v] w fun e w'=>e= .returned (.bool (decide (M<+:L)))∧w'=w:=by
 obtain⟨b,o,c,rfl,hc,hc2,hb,hcell⟩:=hu;have HV:=hid hv;obtain⟨A,d,rfl,hA⟩:=hv;have HC:=hid hcell;obtain⟨n,hn⟩:=nm L.length;obtain⟨m,hm2⟩:=nm M.length;rw[←hn]at hc hl⊢;rw[←hm2]at HV hm⊢;have HN:=hid (And.intro hn hm2);by_cases hnm:m≤n
 ·have HE:Hid (Calls prog 102 #[.slice (some ⟨b,o,none⟩) m c,.slice A m d] w fun e w'=>e= .returned (.bool (decide (M<+:L)))∧w'=w):=hid (by
   have h1:=yE hb hcell 0 c m (by omega);rw[Nat.add_zero,List.drop_zero]at h1;have h2:=jS _ _ _ _ w h1 HV.o;have h3:(L.take m=M)=(M<+:L):=by
    apply propext
    rw[List.prefix_iff_eq_take,hm2];exact⟨fun h=>h.symm,fun h=>h.symm⟩
   have h4:decide (L.take m=M)=decide (M<+:L):=by simp only[h3]
   rw[h4]at h2;exact h2)
  have hnmi:(m:Int)≤n:=by omega
  have hmc:m≤c:=by omega
  have hmci:(m:Int)≤c:=by omega
  obtain⟨bb,hbb⟩:=nm (decide (M<+:L));rw[←hbb]at HE⊢;clear hA hcell HC hn hm2 hbb hnm;go_enter func180,ntmps180;go_wp2_with(go_at_call 102;refine HE.o.mono ?_;rintro e w2 ⟨rfl,rfl⟩)
  go_ret
  exact⟨rfl,rfl⟩
 ·have hf:decide (M<+:L)=false:=decide_eq_false fun h=>hnm (by rw[hn,hm2];exact h.length_le);have hnmi:¬(m:Int)≤n:=by omega
  rw[hf];clear hA hcell HC hn hm2 hf hnm;go_enter func180,ntmps180;go_wp2_with fail
  go_ret
  exact⟨rfl,rfl⟩
end
section
open Go.Shelf
attribute [local go_sem] Oper.semAt_some
def z6:Gd.Rec:=⟨0,0,false,0,[]⟩
def xW(L:List UInt8)(w:World)(e:Ending)(w':World):Prop:=Below w.heap.size w w'∧∃r k err,e= .returned (.tuple #[qq r,.int .i64 k,.int .i64 err])∧((∃n:Nat,Gd.decR L=some (r,n)∧k=n∧err=0)∨(Gd.decR L=none∧err≠0))
theorem xT{L:List UInt8}(h:¬17+Gd.nOf L≤L.length):Gd.decR L=none:=by
 unfold Gd.decR;rw[if_neg fun hh=>h hh.1]
theorem sizeRec:(prog.info? 57).map (fun i=>i.size)=some 5:=by kernel_rfl
theorem zF{P:Program}{fn:Func}{p u v:Tmp}{ty:TypeId}(h:fn.results=#[.cell p ty,.tmp u,.tmp v])(tmps:Array Value)(w:World)(g:Nat)(t:TypeId)(cs:Array Value)(fr:Nat×Nat)(d:TypeDesc)
 (hp:tmps.getD p undef= .pointer (some ⟨g,0,none⟩))(hg:w.heap[g]? =some (.cells cs t fr))
 (hu:P.underlying ty=some d)(hd:(match d with| .struct _| .array _ _=>true|_=>false)=true)(hi:(P.info? ty).map (·.size)=some cs.size):
 (results fn tmps).run P w= .ok (.tuple #[.agg cs,tmps.getD u undef,tmps.getD v undef]) w:=by
 have hp':tmps[p]?.getD undef= .pointer (some ⟨g,0,none⟩):=by simpa using hp
 simp[results,h,hp',asAddr,run_loadVar_row w g t ty cs fr d hg hu hd hi]
def zN(r:Gd.Rec):Array Value:=#[.int .i64 r.call,.int .i64 r.inode,.bool r.tr,.int .i64 r.off,.string ⟨r.d.toArray⟩]
theorem Um(v:Value)(L:List UInt8)(w:World)(h:jD w v L)(hl:L.length<13):Calls prog 150 #[v] w (xW L w):=by
 have HD:=hid (xT (L:=L) (by omega));obtain⟨b,o,c,rfl,hc,hc2,hb,hcell⟩:=h;obtain⟨n,hn⟩:=nm L.length;rw[←hn]at hl⊢;clear hn hcell hc;go_enter func150,ntmps150;go_wp2_with fail
 refine bodyPost_ret (zF rfl _ _ w.heap.size 57 (zN z6) (0,0) _ rfl (heap_alloc_new w _) underlying57 rfl sizeRec) rfl ?_;exact⟨(Below.refl _ w).alloc (Nat.le_refl _) _,z6,0,3,rfl,Or.inr ⟨HD.o,by decide⟩⟩
theorem YG(L:List UInt8)(a:Nat):Gd.getN L a 4<4294967296:=by
 have:=xh L a 4
 exact this
theorem Qw(L:List UInt8)(a:Nat):Gd.getB L a 4=decide (a+4≤L.length):=by
 unfold Gd.getB;have:=YG L a
 rw[Int.toNat_natCast,decide_eq_true (by omega:Gd.getN L a 4<9223372036854775808),Bool.and_true,decide_eq_true (by omega:(0:Int)≤a),Bool.true_and];exact decide_eq_decide.mpr (by omega)
theorem jm(r:Gd.Rec):(zN r).all (·.oneCell')=true:=by
 refine all_oneCell_toArray fun v hv=> ?_;simp only[List.mem_cons,List.mem_nil_iff,or_false]at hv;rcases hv with rfl|rfl|rfl|rfl|rfl<;>rfl
theorem Qz{L:List UInt8}(h:¬Gd.getN L (13+Gd.nOf L) 4=Gd.crc (L.take (13+Gd.nOf L))):Gd.decR L=none:=by
 unfold Gd.decR;rw[if_neg fun hh=>h hh.2.1]
theorem QA{L:List UInt8}(h:¬(Gd.recOf L).may=true):Gd.decR L=none:=by
 unfold Gd.decR;rw[if_neg fun hh=>h hh.2.2.1]
theorem VB{L:List UInt8}(h:¬Gd.encL (Gd.recOf L)<+:L):Gd.decR L=none:=by
 unfold Gd.decR;rw[if_neg fun hh=>h hh.2.2.2]
structure Qj(w:World)(L:List UInt8)(b o n c N g:Nat)(wk:World):Prop where
 below:Below w.heap.size w wk
 row:wk.heap[g]? =some (.cells (zN z6) 57 (0,0))
theorem Qj.next{w:World}{L:List UInt8}{b o n c N g:Nat}{wk wk':World}(h:Qj w L b o n c N g wk)(hb:Below wk.heap.size wk wk'):Qj w L b o n c N g wk':=
 ⟨h.below.trans (hb.mono h.below.size),(hb.block g (za h.row)).trans h.row⟩
theorem Ul(v:Value)(L:List UInt8)(w:World)(h:jD w v L)(hl:13≤L.length)(hl2:L.length≤2000):Calls prog 150 #[v] w (xW L w):=by
 have HV:=hid h;obtain⟨b,o,c,rfl,hc,hc2,hb,hcell⟩:=h;have HC:=hid hcell;obtain⟨y12,hy12⟩:∃x,L[12]? =some x:=⟨_,List.getElem?_eq_getElem (by omega)⟩;have HNo:Hid (y12.toNat=Gd.nOf L):=hid (by unfold Gd.nOf;rw[List.getD_eq_getElem?_getD,hy12];rfl);have hc12:=hcell 12 y12 hy12;have hn8:=y12.toNat_lt;obtain⟨N,hN⟩:=nm y12.toNat;rw[←hN]at HNo hc12 hn8;obtain⟨W0,hW0⟩:=nm (w.alloc (.cells (zN z6) 57));have hb0:Below w.heap.size w W0:=by rw[hW0];exact(Below.refl _ w).alloc (Nat.le_refl _) _
 have hg0:W0.heap[w.heap.size]? =some (.cells (zN z6) 57 (0,0)):=by rw[hW0];exact heap_alloc_new w _
 have c12:=(hb0.cell (p:=⟨b,o+12,none⟩) hb).trans hc12;have HG0:=hid hg0;have HB0:=hid hb0;have HV0:=hid (HV.o.keep hb0);have HGet:=hid (jp _ L ((13+N:Nat):Int) 4 (Or.inr (Or.inr (Or.inl rfl))) (zu (by omega)) W0 HV0.o.at_ (by omega));rw[Qw]at HGet;obtain⟨n,hn⟩:=nm L.length;have HN:=hid hn;rw[←hn]at hl hl2 hc HGet HV HV0⊢;clear hcell hy12 hN hb0 hg0 hn hc12;obtain⟨g,hg⟩:=nm w.heap.size;have HGs:=hid hg;rw[←hg]at HG0;go_enter func150,ntmps150;go_upto_region 1 with fail
 have hW1:=hW0;unfold zN z6 at hW1;rw[←hW1,←hg];clear hW0 hW1 hg;by_cases h17:13+N+4≤n
 ·rw[decide_eq_true h17]at HGet;obtain⟨s,hs⟩:=nm (Gd.getN L (13+N) 4);have hgs:Gd.get L ((13+N:Nat):Int) 4=(s:Int):=by
   unfold Gd.get;rw[Qw,if_pos (by rw[←HN.o];exact decide_eq_true h17),hs];rfl
  rw[hgs]at HGet;have HS:=hid hs;have hN1:(13:Int)+N≤n:=by omega
  have hN2:(13:Int)+N≤c:=by omega
  have hN3:13+N≤c:=by omega
  have HCr:=hid (qf (.slice (some ⟨b,o,none⟩) (13+N) c) (L.take (13+N)) W0 (by
   have:=yE (Nat.lt_of_lt_of_le hb HB0.o.size) (fun j x hx=>(HB0.o.cell (p:=⟨b,o+j,none⟩) hb).trans (HC.o j x hx)) 0 c (13+N) (by rw[←HN.o];omega)
   rw[Nat.add_zero,List.drop_zero]at this;exact this) (by rw[List.length_take];omega))
  obtain⟨q,hq⟩:=nm (Gd.crc (L.take (13+N)));have hq32:q<4294967296:=by rw[hq];exact Gd.crc_lt _
  rw[←hq]at HCr;have HQ:=hid hq;clear hs hgs hq;by_cases hsq:s=q
  ·have hsqi:(s:Int)=q:=by omega
   have HSQ:=hid hsq;clear hsq;obtain⟨y8,hy8⟩:∃x,L[8]? =some x:=⟨_,List.getElem?_eq_getElem (by rw[←HN.o];omega)⟩;obtain⟨y9,hy9⟩:∃x,L[9]? =some x:=⟨_,List.getElem?_eq_getElem (by rw[←HN.o];omega)⟩;have hb8:=y8.toNat_lt;have hb9:=y9.toNat_lt;go_upto_region 9 with(first|(go_at_call 103;refine HGet.o.mono ?_;rintro e w2 ⟨rfl,rfl⟩)|(go_at_call 104;refine HCr.o.mono ?_;rintro e w3 ⟨rfl,hb3⟩;have HG3:=hid ((hb3.block g (za HG0.o)).trans HG0.o);have HB3:=HB0.t hb3;clear hb3))
   have HV3:=hid (HV.o.keep HB3.o);have HGa:=hid (jp _ L ((0:Nat):Int) 8 (Or.inr (Or.inr (Or.inr rfl))) (zu (by omega)) w3 HV3.o.at_ (by rw[←HN.o];omega));have HGb:=hid (jp _ L ((10:Nat):Int) 2 (Or.inr (Or.inl rfl)) (zu (by omega)) w3 HV3.o.at_ (by rw[←HN.o];omega));obtain⟨ca,hca⟩:=nm (Gd.get L ((0:Nat):Int) 8);obtain⟨cb,hcb⟩:=nm (Gd.getB L ((0:Nat):Int) 8);obtain⟨oa,hoa⟩:=nm (Gd.get L ((10:Nat):Int) 2);obtain⟨ob,hob⟩:=nm (Gd.getB L ((10:Nat):Int) 2);rw[←hca,←hcb]at HGa;rw[←hoa,←hob]at HGb;obtain⟨sd,hsd⟩:∃x:ByteArray,x=⟨((L.drop 13).take N).toArray⟩:=⟨_,rfl⟩;have HRec:Hid (Gd.recOf L=⟨ca,(y8.toNat:Int),decide (y9.toNat=1),oa,(L.drop 13).take N⟩):=hid (by
    unfold Gd.recOf;rw[←HNo.o,hca,hoa,List.getD_eq_getElem?_getD,List.getD_eq_getElem?_getD,hy8,hy9];have:decide (y9=1)=decide (y9.toNat=1):=decide_eq_decide.mpr ⟨fun h=>by rw[h];rfl,fun h=>UInt8.toNat_inj.mp h⟩
    show(⟨_,_,decide (y9=1),_,_⟩:Gd.Rec)=_
    rw[this];rfl)
   have HSd:=hid hsd;have hq8:=HC.o 8 y8 hy8;have hq9:=HC.o 9 y9 hy9;clear hy8 hy9 hca hcb hoa hob hsd c12;go_upto_region 10 with(go_at_call 103;refine HGa.o.mono ?_;rintro e w4 ⟨rfl,rfl⟩)
   clear HGa;go_upto_region 11 with(go_at_call 103;refine HGb.o.mono ?_;rintro e w5 ⟨rfl,rfl⟩)
   clear HGb;go_cut[12] from 53 to 67 (fun z wx=>∃i:Nat,z= .pointer (some ⟨i,0,none⟩)∧Hid (w.heap.size≤i∧i≠g)∧Hid (wx.heap[i]? =some (.cells #[.int .i64 ca,.int .i64 y8.toNat,.bool (decide (y9.toNat=1)),.int .i64 oa,.string sd] 57 (0,0)))∧Hid (Below w.heap.size w wx)∧Hid (wx.heap[g]? =some (.cells (zN z6) 57 (0,0))))
   case first=>
    have h8i:(8:Int)<n:=by omega
    have h9i:(9:Int)<n:=by omega
    have hc13:¬c=13:=by omega
    have h13t:((13:Int)+N).toNat-13=N:=by omega
    have h13i:(13:Int)≤13+N:=by omega
    have hsAll:∀W:World,Below w.heap.size w W→W.cell? ⟨b,o+8,none⟩=some (.int .u8 y8.toNat)∧W.cell? ⟨b,o+9,none⟩=some (.int .u8 y9.toNat)∧(convert 22 9 (.slice (some ⟨b,o+13,none⟩) N (c-13))).run prog W= .ok (.string sd) W:=fun W hW=>by
     refine⟨(hW.cell (p:=⟨b,o+8,none⟩) hb).trans hq8,(hW.cell (p:=⟨b,o+9,none⟩) hb).trans hq9,?_⟩;have:=jJ (.slice (some ⟨b,o+13,none⟩) N (c-13)) ((L.drop 13).take N) W (yE (Nat.lt_of_lt_of_le hb hW.size) (fun j x hx=>(hW.cell (p:=⟨b,o+j,none⟩) hb).trans (HC.o j x hx)) 13 (c-13) N (by rw[←HN.o];omega))
     rw[←HSd.o]at this;exact this
    have hB5:Below w.heap.size w w5.drew:=HB3.o.drew;refine wp_region_held_drew (S:=(fun W=>W.cell? ⟨b,o+8,none⟩=some (.int .u8 y8.toNat)∧W.cell? ⟨b,o+9,none⟩=some (.int .u8 y9.toNat)∧(convert 22 9 (.slice (some ⟨b,o+13,none⟩) N (c-13))).run prog W= .ok (.string sd) W)) (by kernel_rfl) ?_ (fun hHeld=> ?_)
    ·exact(hsAll _ hB5)
    refine tk 0 ?_;refine tk 1 ?_;refine tk 2 ?_;refine tk 3 ?_;refine tk 4 ?_;refine tk 5 ?_;refine tk 6 ?_;refine tk 7 ?_;refine tk 8 ?_;refine tk 9 ?_;refine tk 10 ?_;refine tk 11 ?_;refine tk 12 ?_;refine tk 13 ?_;refine tk 14 ?_;refine rd 15 (fun K hK=> ?_);go_simp
    try dsimp only
    refine hK.o _ _ (hsAll _ (hB5.alloc (by have:=HB3.o.size;exact this) _)) (fun hHeld=> ?_);clear hK K;try simp only[put]
    refine rd 16 (fun K hK=> ?_);go_simp
    try dsimp only
    refine hK.o _ _ (hsAll _ ((HB3.o.alloc HB3.o.size _).drew)) (fun hHeld=> ?_);clear hK K;try simp only[put]
    refine dn ?_
    (try simp only[Exit.then])
    go_wp2_with fail
    go_meet
    have hw8:IntKind.i64.wrap (y8.toNat:Int)=y8.toNat:=by rw[IntKind.wrap_i64];omega
    have hd9:((y9.toNat:Int)==1)=decide (y9.toNat=1):=by rw[Bool.eq_iff_iff,beq_iff_eq,decide_eq_true_iff];omega
    rw[hw8,hd9];refine⟨_,rfl,hid ⟨HB3.o.size,by have:=za HG3.o;omega⟩,hid (heap_alloc_new w5 _),hid ((HB3.o.alloc HB3.o.size _).drew),hid ?_⟩;exact(Below.heap_alloc w5 _ g (za HG3.o)).trans HG3.o
   case rest=>
   obtain⟨w4,rfl⟩:=nm wc;obtain⟨i,rfl,HI,HR4,HB4,HG4⟩:=hcut;obtain⟨r,hr⟩:∃r:Gd.Rec,r=Gd.recOf L:=⟨_,rfl⟩;have HRr:Hid (r=Gd.recOf L):=hid hr;have hrv:qq r= .agg #[.int .i64 ca,.int .i64 y8.toNat,.bool (decide (y9.toNat=1)),.int .i64 oa,.string sd]:=by
    rw[hr,HRec.o,HSd.o];rfl
   have hrd:r.d.length≤1000:=by
    rw[hr,HRec.o];show((L.drop 13).take N).length≤1000
    rw[List.length_take];omega
   have hrc:zN r=#[.int .i64 ca,.int .i64 y8.toNat,.bool (decide (y9.toNat=1)),.int .i64 oa,.string sd]:=by
    rw[hr,HRec.o,HSd.o];rfl
   have HRc:=hid hrc;rw[←hrc]at HR4;clear hrc hr;by_cases hm:r.may=true
   ·have HEn:Hid (Calls prog 179 #[.agg (zN r)] w4 fun e w'=>∃u,e= .returned (.tuple #[u,.int .i64 0])∧zA w' w4.heap.size u (Gd.encL r)∧Below w4.heap.size w4 w'):=hid (YR r hm w4);have HM:=hid hm;clear hm hrv;go_upto_region 13 with(first|(refine wpList_load_row rfl 57 _ rfl i rfl 57 (zN r) (0,0) _ HR4.o underlying57 rfl sizeRec ?_)|(go_at_call 179;with_reducible refine HEn.o.mono ?_;rintro e w6 ⟨u,rfl,ho6,hb6⟩))
    have HG6:=hid ((hb6.block g (za HG4.o)).trans HG4.o);have HR6:=hid ((hb6.block i (za HR4.o)).trans HR4.o);have HB6:=HB4.t hb6;have HEl:Hid ((Gd.encL r).length=Gd.up8 (17+N)):=hid (by
     rw[HRr.o,Gd.encL_length,Gd.recOf_len (by rw[←HNo.o,←HN.o];omega),←HNo.o])
    have hpa:=Hid.o (hid (Gd.up8_le (17+N)));have HPr:=hid (uG (.slice (some ⟨b,o,none⟩) n c) u L (Gd.encL r) w6 (HV.o.keep HB6.o) ho6.at_ (by rw[←HN.o];omega) (by rw[HEl.o];omega));have hua:=ho6.at_;obtain⟨A6,c6,rfl,-⟩:=hua;obtain⟨m,hm⟩:=nm ((Gd.encL r).length);rw[←hm]at HPr⊢;have Hm:=hid hm;clear ho6 hb6 hm HEn hpa;by_cases hp:Gd.encL r<+:L
    ·have HD:Hid (Gd.decR L=some (r,m)):=hid (by
      unfold Gd.decR;rw[Hm.o,HEl.o,HNo.o,HRr.o];refine if_pos ⟨by rw[←HNo.o,←HN.o];omega,?_,by rw[←HRr.o];exact HM.o,by rw[←HRr.o];exact hp⟩;rw[←HNo.o,←HS.o,←HQ.o];exact HSQ.o)
     rw[decide_eq_true hp]at HPr;clear hp;go_wp2_with(first|(go_at_call 180;with_reducible refine HPr.o.mono ?_;rintro e w7 ⟨rfl,rfl⟩)|(refine wpList_load_row rfl 57 _ rfl i rfl 57 (zN r) (0,0) _ HR6.o underlying57 rfl sizeRec ?_)|(refine wpList_store_mid rfl 57 _ _ rfl g 0 (zN r) rfl rfl (zf HG6.o rfl) sizeRec (jm _) ?_;obtain⟨hbw,hbg⟩:=zh HG6.o (vs:=(zN r).toList) (B:=w.heap.size) rfl (by have:=HGs.o;omega);generalize (World.setCells _ _ _ _)=wf at hbw hbg⊢))
     refine bodyPost_ret (zF rfl _ _ g 57 (zN r) (0,0) _ rfl hbg underlying57 rfl sizeRec) rfl ?_;exact⟨HB6.o.trans hbw,r,m,0,rfl,Or.inl ⟨m,HD.o,rfl,rfl⟩⟩
    ·have HD:=hid (VB (L:=L) (by rw[←HRr.o];exact hp));rw[decide_eq_false hp]at HPr;clear hp;go_wp2_with(first|(go_at_call 180;with_reducible refine HPr.o.mono ?_;rintro e w7 ⟨rfl,rfl⟩)|(refine wpList_store_mid rfl 57 _ _ rfl g 0 (zN z6) rfl rfl (zf HG6.o rfl) sizeRec (jm _) ?_;obtain⟨hbw,hbg⟩:=zh HG6.o (vs:=(zN z6).toList) (B:=w.heap.size) rfl (by have:=HGs.o;omega);generalize (World.setCells _ _ _ _)=wf at hbw hbg⊢))
     refine bodyPost_ret (zF rfl _ _ g 57 (zN z6) (0,0) _ rfl hbg underlying57 rfl sizeRec) rfl ?_;exact⟨HB6.o.trans hbw,z6,0,2,rfl,Or.inr ⟨HD.o,by decide⟩⟩
   ·have HEn:Hid (Calls prog 179 #[.agg (zN r)] w4 fun e w'=>e= .returned (.tuple #[.slice none 0 0,.int .i64 1])∧Below w4.heap.size w4 w'):=hid (VC r hrd hm w4);have HD:=hid (QA (L:=L) (by rw[←HRr.o];exact hm));clear hm hrv;go_wp2_with(first|(refine wpList_load_row rfl 57 _ rfl i rfl 57 (zN r) (0,0) _ HR4.o underlying57 rfl sizeRec ?_)|(go_at_call 179;with_reducible refine HEn.o.mono ?_;rintro e w6 ⟨rfl,hb6⟩;have HG6:=hid ((hb6.block g (za HG4.o)).trans HG4.o);have HB6:=HB4.t hb6;clear hb6)|(refine wpList_store_mid rfl 57 _ _ rfl g 0 (zN z6) rfl rfl (zf HG6.o rfl) sizeRec (jm _) ?_;obtain⟨hbw,hbg⟩:=zh HG6.o (vs:=(zN z6).toList) (B:=w.heap.size) rfl (by have:=HGs.o;omega);generalize (World.setCells _ _ _ _)=wf at hbw hbg⊢))
    refine bodyPost_ret (zF rfl _ _ g 57 (zN z6) (0,0) _ rfl hbg underlying57 rfl sizeRec) rfl ?_;exact⟨HB6.o.trans hbw,z6,0,2,rfl,Or.inr ⟨HD.o,by decide⟩⟩
  ·have HD:=hid (Qz (L:=L) (by rw[←HNo.o,←HS.o,←HQ.o];exact hsq));have hsqi:¬(s:Int)=q:=by omega
   clear hsq;go_wp2_with(first|(go_at_call 103;refine HGet.o.mono ?_;rintro e w2 ⟨rfl,rfl⟩)|(go_at_call 104;refine HCr.o.mono ?_;rintro e w3 ⟨rfl,hb3⟩;have HG3:=hid ((hb3.block g (za HG0.o)).trans HG0.o);have HB3:=HB0.t hb3;clear hb3)|(refine wpList_store_mid rfl 57 _ _ rfl g 0 (zN z6) rfl rfl (zf HG3.o rfl) sizeRec (jm _) ?_;obtain⟨hbw,hbg⟩:=zh HG3.o (vs:=(zN z6).toList) (B:=w.heap.size) rfl (by have:=HGs.o;omega);generalize (World.setCells _ _ _ _)=wf at hbw hbg⊢))
   refine bodyPost_ret (zF rfl _ _ g 57 (zN z6) (0,0) _ rfl hbg underlying57 rfl sizeRec) rfl ?_;exact⟨HB3.o.trans hbw,z6,0,4,rfl,Or.inr ⟨HD.o,by decide⟩⟩
 ·have HD:=hid (xT (L:=L) (by rw[←HNo.o,←HN.o];omega));rw[decide_eq_false h17]at HGet;go_wp2_with(first|(go_at_call 103;refine HGet.o.mono ?_;rintro e w2 ⟨rfl,rfl⟩)|(refine wpList_store_mid rfl 57 _ _ rfl g 0 (zN z6) rfl rfl (zf HG0.o rfl) sizeRec (jm _) ?_;obtain⟨hbw,hbg⟩:=zh HG0.o (vs:=(zN z6).toList) (B:=w.heap.size) rfl (by have:=HGs.o;omega);generalize (World.setCells _ _ _ _)=wf at hbw hbg⊢))
  refine bodyPost_ret (zF rfl _ _ g 57 (zN z6) (0,0) _ rfl hbg underlying57 rfl sizeRec) rfl ?_;exact⟨HB0.o.trans hbw,z6,0,3,rfl,Or.inr ⟨HD.o,by decide⟩⟩
theorem YS(v:Value)(L:List UInt8)(w:World)(h:jD w v L)(hl2:L.length≤2000):Calls prog 150 #[v] w (xW L w):=by
 by_cases hl:L.length<13
 ·exact Um v L w h hl
 ·exact Ul v L w h (by omega) hl2
end
end Go.Proofs.YtccpdkjonepoiaaGreatDoor
