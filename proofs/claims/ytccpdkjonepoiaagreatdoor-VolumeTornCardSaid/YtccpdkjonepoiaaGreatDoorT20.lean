/- Walks: slots.Read of any bytes. -/
import Derived.Test.YtccpdkjonepoiaaGreatDoorT19
import Derived.Test.YtccpdkjonepoiaaGreatDoorT17
set_option linter.unusedVariables false
set_option linter.unusedSimpArgs false
set_option linter.unusedSectionVars false
set_option maxHeartbeats 8000000
set_option maxRecDepth 100000
namespace Go.Proofs.YtccpdkjonepoiaaGreatDoor
open Go.RowKit
open Lib(hid)
open Go.Proofs.Tryz
section
attribute [local go_sem] Oper.semAt_some
structure RdG(w0:World)(v:Value)(rb ab at_:Nat)(W:World):Prop where
 below:Below w0.heap.size w0 W
 cb:zd W w0.heap.size 22 #[v]
 ca:zd W ab 3 #[.int .i64 at_]
 cr:W.heap[rb]? =some (.cells (zm ⟨0,0,0,0,0,0⟩) 48 (0,0))
 lb:w0.heap.size<ab∧w0.heap.size<rb∧rb<ab
theorem RdG.step{w0:World}{v:Value}{rb ab at_:Nat}{W:World}(h:RdG w0 v rb ab at_ W)(n:Nat):RdG w0 v rb ab n (W.setCell ⟨ab,0,none⟩ (.int .i64 n)):=by
 obtain⟨h1,h2,h3⟩:=h.lb;exact⟨h.below.setCell (show w0.heap.size≤ab by omega) _,(Go.heap_setCell_other _ _ _ _ (by simp;omega)).trans h.cb,Go.heap_setCell_same _ _ 0 _ _ _ h.ca,(Go.heap_setCell_other _ _ _ _ (by simp;omega)).trans h.cr,h.lb⟩
theorem RdG.apart{w0:World}{v:Value}{rb ab at_:Nat}{W W':World}(h:RdG w0 v rb ab at_ W){ib:Nat}(hi:ab<ib)(hO:zi (fun k=>k=ib) W W'):RdG w0 v rb ab at_ W':=by
 obtain⟨h1,h2,h3⟩:=h.lb;refine⟨⟨hO.os.trans h.below.os,hO.tape.trans h.below.tape,hO.output.trans h.below.output,Nat.le_trans h.below.size hO.size,fun k hk=>(hO.block k (Nat.lt_of_lt_of_le hk h.below.size) (by omega)).trans (h.below.block k hk)⟩,(hO.block _ h.cb.lt (by omega)).trans h.cb,(hO.block _ h.ca.lt (by omega)).trans h.ca,(hO.block _ (za h.cr) (by omega)).trans h.cr,h.lb⟩
theorem qx{w0:World}{v:Value}{rb ab at_:Nat}(L:List UInt8)(hv:zr w0 v L)(k:Nat)(hk:Gd.wid k)(w:World)(h:RdG w0 v rb ab at_ w)(hl:L.length≤1000000)(hat:at_≤1000000):
 Calls prog 107 #[.int .i64 k,.pointer (some ⟨w0.heap.size,0,none⟩),.pointer (some ⟨ab,0,none⟩)] w fun e w'=>e= .returned (.int .i64 ((Gd.get L at_ k).toNat:Nat))∧RdG w0 v rb ab (at_+k) w'∧zi (fun j=>j=ab) w w':=by
 have hvw:=hv.keep h.below;have HGt:=hid (jp v L at_ k hk (zu (by omega)) w hvw hl);obtain⟨N,hN⟩:=nm (Gd.get L at_ k);obtain⟨g,hg⟩:=nm (Gd.getB L at_ k);rw[←hN,←hg]at HGt;have hNn:(((Gd.get L at_ k).toNat:Nat):Int)=N:=by rw[←hN];exact Int.toNat_of_nonneg (by rw[hN];exact Gd.get_ge L at_ k)
 rw[hNn];have x1:=cell_of_row w _ 0 _ _ _ h.cb;have x2:=cell_of_row w _ 0 _ _ _ h.ca;have y2:=frozen_of_row w _ 0 _ _ h.ca;have hk8:(k:Int)≤8:=by rcases hk with rfl|rfl|rfl|rfl<;>omega
 have ha:(at_:Int)≤1000000:=by omega
 have hfin:Hid (RdG w0 v rb ab (at_+k) (w.setCell ⟨ab,0,none⟩ (.int .i64 ((at_:Int)+k)))∧zi (fun j=>j=ab) w (w.setCell ⟨ab,0,none⟩ (.int .i64 ((at_:Int)+k)))):=hid (by
  rw[show((at_:Int)+k)=((at_+k:Nat):Int) by omega];exact⟨h.step _,zq _ _ _ rfl⟩)
 obtain⟨n0,hn0⟩:=nm w0.heap.size;rw[←hn0]at x1⊢;clear hvw hN hNn hg hn0 h hat;go_enter func107,ntmps107;go_wp2_with fail
 refine HGt.o.mono ?_;rintro e w1 ⟨rfl,rfl⟩;clear HGt;go_wp2;go_ret
 exact⟨rfl,hfin.o⟩
theorem sizeSlot:(prog.info? 48).map (fun i=>i.size)=some 6:=by kernel_rfl
theorem jc(s:Gd.Slot):(zm s).all (·.oneCell')=true:=all_oneCell_toArray (Jj [s.e,s.h,s.r,s.ke,s.ki,s.w])
theorem Zn(L:List UInt8)(hlen:L.length=64)(v:Value)(B0:Nat)(w:World)(hv:zA w B0 v L):
 Calls prog 55 #[v] w fun e w'=>Below w.heap.size w w'∧((Gd.isSlot L∧e= .returned (.tuple #[zO (Gd.rawS L),.int .i64 0]))∨(¬Gd.isSlot L∧∃E:Int,E≠0∧e= .returned (.tuple #[zO ⟨0,0,0,0,0,0⟩,.int .i64 E]))):=by
 obtain⟨b,c,rfl,hlc,-,hbl,hcell⟩:=hv.lies (by intro e;rw[e]at hlen;simp at hlen);rw[hlen]at hlc⊢;have HO:=hid fun(W:World) (hW:Below w.heap.size w W)=>vW b c L hlen hlc W (Nat.lt_of_lt_of_le hbl hW.size) (fun j x hx=>(hW.cell (p:=⟨b,j,none⟩) hbl).trans (hcell j x hx));have hby64:=jh (c:=c) hbl hcell 64 (by omega);rw[List.take_of_length_le (by omega)]at hby64;have HS:Hid (Gd.isSlot L→Gd.get L 60 4=Gd.crc (L.take 60)):=hid fun h=>by
  rw[h.2];exact Gd.slotB_sum _
 have HI:Hid (Gd.isSlot L↔((Gd.rawS L).May∧Gd.slotB (Gd.rawS L)=L)):=hid ⟨fun h=>⟨h.1,h.2.symm⟩,fun h=>⟨h.1,h.2.symm⟩⟩;have hlL:L.length≤1000000:=by omega
 obtain⟨vv,hvv⟩:∃vv:Value,vv= .slice (some ⟨b,0,none⟩) 64 c:=⟨_,rfl⟩;rw[←hvv]at hby64;obtain⟨q0,hq0⟩:=nm ((Gd.get L (0:Nat) 4).toNat);obtain⟨q1,hq1⟩:=nm ((Gd.get L (4:Nat) 4).toNat);obtain⟨q2,hq2⟩:=nm ((Gd.get L (8:Nat) 8).toNat);obtain⟨q3,hq3⟩:=nm ((Gd.get L (16:Nat) 1).toNat);obtain⟨q4,hq4⟩:=nm ((Gd.get L (17:Nat) 1).toNat);obtain⟨q5,hq5⟩:=nm ((Gd.get L (18:Nat) 8).toNat);have hraw:Gd.rawS L=⟨q0,q1,q2,q3,q4,q5⟩:=by rw[hq0,hq1,hq2,hq3,hq4,hq5];rfl
 rw[hraw]at HI⊢;obtain⟨W,hW⟩:=nm ((w.alloc (.cells #[.slice (some ⟨b,0,none⟩) 64 c] 22)).alloc (.cells #[.int .i64 0,.int .i64 0,.int .i64 0,.int .i64 0,.int .i64 0,.int .i64 0] 48));have hbW:Below w.heap.size w W:=by rw[hW];exact((Below.refl _ _).alloc (Nat.le_refl _) _).alloc (by simp) _
 have hcbW:zd W w.heap.size 22 #[vv]:=by rw[hW,hvv];exact zd.alloc (heap_alloc_new w _) _
 obtain⟨rb,hrb⟩:=nm (w.heap.size+1);have hcrW:W.heap[rb]? =some (.cells (zm ⟨0,0,0,0,0,0⟩) 48 (0,0)):=by
  have:=heap_alloc_new (w.alloc (.cells #[.slice (some ⟨b,0,none⟩) 64 c] 22)) (.cells #[.int .i64 0,.int .i64 0,.int .i64 0,.int .i64 0,.int .i64 0,.int .i64 0] 48)
  rw[World.size_alloc]at this;rw[hW,hrb];exact this
 obtain⟨n0,hn0⟩:=nm w.heap.size;have HN0:Hid (∀ab U,RdG w vv rb ab 0 U→Calls prog 107 #[.int .i64 4,.pointer (some ⟨n0,0,none⟩),.pointer (some ⟨ab,0,none⟩)] U fun e w'=>e= .returned (.int .i64 q0)∧RdG w vv rb ab 4 w'∧zi (fun j=>j=ab) U w'):=hid fun ab U h=>by
  rw[hq0,hn0];exact qx L hby64 4 (Or.inr (Or.inr (Or.inl rfl))) U h hlL (by omega)
 have HN1:Hid (∀ab U,RdG w vv rb ab 4 U→Calls prog 107 #[.int .i64 4,.pointer (some ⟨n0,0,none⟩),.pointer (some ⟨ab,0,none⟩)] U fun e w'=>e= .returned (.int .i64 q1)∧RdG w vv rb ab 8 w'∧zi (fun j=>j=ab) U w'):=hid fun ab U h=>by
  rw[hq1,hn0];exact qx L hby64 4 (Or.inr (Or.inr (Or.inl rfl))) U h hlL (by omega)
 have HN2:Hid (∀ab U,RdG w vv rb ab 8 U→Calls prog 107 #[.int .i64 8,.pointer (some ⟨n0,0,none⟩),.pointer (some ⟨ab,0,none⟩)] U fun e w'=>e= .returned (.int .i64 q2)∧RdG w vv rb ab 16 w'∧zi (fun j=>j=ab) U w'):=hid fun ab U h=>by
  rw[hq2,hn0];exact qx L hby64 8 (Or.inr (Or.inr (Or.inr rfl))) U h hlL (by omega)
 have HN3:Hid (∀ab U,RdG w vv rb ab 16 U→Calls prog 107 #[.int .i64 1,.pointer (some ⟨n0,0,none⟩),.pointer (some ⟨ab,0,none⟩)] U fun e w'=>e= .returned (.int .i64 q3)∧RdG w vv rb ab 17 w'∧zi (fun j=>j=ab) U w'):=hid fun ab U h=>by
  rw[hq3,hn0];exact qx L hby64 1 (Or.inl rfl) U h hlL (by omega)
 have HN4:Hid (∀ab U,RdG w vv rb ab 17 U→Calls prog 107 #[.int .i64 1,.pointer (some ⟨n0,0,none⟩),.pointer (some ⟨ab,0,none⟩)] U fun e w'=>e= .returned (.int .i64 q4)∧RdG w vv rb ab 18 w'∧zi (fun j=>j=ab) U w'):=hid fun ab U h=>by
  rw[hq4,hn0];exact qx L hby64 1 (Or.inl rfl) U h hlL (by omega)
 have HN5:Hid (∀ab U,RdG w vv rb ab 18 U→Calls prog 107 #[.int .i64 8,.pointer (some ⟨n0,0,none⟩),.pointer (some ⟨ab,0,none⟩)] U fun e w'=>e= .returned (.int .i64 q5)∧RdG w vv rb ab 26 w'∧zi (fun j=>j=ab) U w'):=hid fun ab U h=>by
  rw[hq5,hn0];exact qx L hby64 8 (Or.inr (Or.inr (Or.inr rfl))) U h hlL (by omega)
 have HBw:=hid hbW;have Hcb:=hid hcbW;have Hcr:=hid hcrW;have Hrb:=hid (And.intro hrb hn0);have HBy:=hid hby64;have hOW:=HO.o W hbW;have HOW:=hid hOW;have Hvv:=hid hvv;have HW:=hid hW.symm;have hmf:∀(fn:Fn) (first cap:Array Value) (w:World),(Instr.makeFunc fn first cap).run prog w= .ok (.func fn first cap) w:=fun _ _ _ _=>rfl;have x0:=cell_of_row W _ 0 _ _ _ hcbW;rw[hvv]at x0;rw[←hn0]at x0;clear hn0 hlc hbl hcell hlen hv hq0 hq1 hq2 hq3 hq4 hq5 hraw hbW hcbW hcrW hrb hby64 hOW HO hW hlL hvv;go_enter func55,ntmps55;go_upto_region 1 with fail
 rw[HW.o,←Hrb.o.2,show n0+1=rb by have:=Hrb.o;omega];go_wp2_with fail
 refine HOW.o.mono ?_;rintro e w1 ⟨hb1,hor⟩;have HB1:=hid hb1;clear hb1 HOW;rcases hor with⟨hsum,rfl⟩|⟨hsum,E,hE,rfl⟩
 ·clear hsum;obtain⟨hn1,hn2⟩:=Hrb.o;have hcb1:zd w1 n0 22 #[vv]:=by rw[hn2];exact(HB1.o.block _ Hcb.o.lt).trans Hcb.o
  have y0:=cell_of_row w1 _ 0 _ _ _ hcb1;have z0:=frozen_of_row w1 _ 0 _ _ hcb1;obtain⟨w2,hw2⟩:=nm (w1.setCell ⟨n0,0,none⟩ (.slice (some ⟨b,0,none⟩) 64 c));have hcb2:zd w2 n0 22 #[vv]:=by rw[hw2,Hvv.o];exact Go.heap_setCell_same _ _ 0 _ _ _ hcb1
  have hcr1:w1.heap[rb]? =some (.cells (zm ⟨0,0,0,0,0,0⟩) 48 (0,0)):=(HB1.o.block _ (za Hcr.o)).trans Hcr.o;have hcr2:w2.heap[rb]? =some (.cells (zm ⟨0,0,0,0,0,0⟩) 48 (0,0)):=by rw[hw2];exact(Go.heap_setCell_other _ _ _ _ (by simp;omega)).trans hcr1
  have hb2:Below w.heap.size w w2:=by rw[hw2];exact(HBw.o.trans (HB1.o.mono HBw.o.size)).setCell (show w.heap.size≤n0 by omega) _
  obtain⟨w3,hw3⟩:=nm (w2.alloc (.cells #[.int .i64 0] 3));obtain⟨ab,hab⟩:=nm w2.heap.size;have HR3:Hid (RdG w vv rb ab 0 w3):=hid (by
   have h1:=za hcr2;refine⟨by rw[hw3];exact hb2.alloc hb2.size _,?_,?_,?_,by omega,by omega,by omega⟩
   ·rw[hw3,←hn2];exact zd.alloc hcb2 _
   ·rw[hw3,hab];exact heap_alloc_new _ _
   ·rw[hw3];exact zd.alloc hcr2 _)
  have Hw2:=hid hw2.symm;have Hw3:=hid hw3.symm;have Hab:=hid hab.symm;clear hn1 hn2 hcb1 hw2 hcb2 hcr1 hcr2 hb2 hw3 hab;go_upto_region 2 with fail
  rw[Hw2.o];clear x0 y0 z0;go_upto_region 6 with fail
  rw[Hab.o,Hw3.o];go_wp2_with fail
  refine(HN0.o ab w3 HR3.o).mono ?_
  rintro e w4 ⟨rfl,hR4,hO4⟩;obtain⟨wa,hwa⟩:=nm (w4.alloc (.cells #[.int .i64 q0,.int .i64 0,.int .i64 0,.int .i64 0,.int .i64 0,.int .i64 0] 48));obtain⟨ib,hib⟩:=nm w4.heap.size;have HI0:Hid (wa.heap[ib]? =some (.cells (zm ⟨q0,0,0,0,0,0⟩) 48 (0,0))):=hid (by rw[hwa,hib];exact heap_alloc_new _ _);have HL0:Hid (ab<ib):=hid (by rw[hib];exact hR4.ca.lt);have HR0:Hid (RdG w vv rb ab 4 wa):=hid (hR4.apart (ib:=ib) HL0.o (by rw[hwa];exact zg ((Below.refl _ w4).alloc (Nat.le_refl _) _) _));have Hwa:=hid hwa.symm;have Hib:=hid hib.symm;clear hR4 hO4 hwa hib;go_upto_region 7 with fail
  rw[Hib.o,Hwa.o];go_wp2_with fail
  refine(HN1.o ab _ HR0.o).mono ?_
  rintro e u1 ⟨rfl,hR,hO⟩;have hs:u1.heap[ib]? =some (.cells (zm ⟨q0,0,0,0,0,0⟩) 48 (0,0)):=(hO.block ib (za HI0.o) (by have:=HL0.o;omega)).trans HI0.o;have c1:=cell_of_row u1 ib 1 _ _ _ hs;have f1:=frozen_of_row u1 ib 1 _ _ hs;obtain⟨v1,hv1⟩:=nm (u1.setCell ⟨ib,1,none⟩ (.int .i64 q1));have HI1:Hid (v1.heap[ib]? =some (.cells (zm ⟨q0,q1,0,0,0,0⟩) 48 (0,0))):=hid (by rw[hv1];exact Go.heap_setCell_same _ _ 1 _ _ _ hs);have HR1:Hid (RdG w vv rb ab 8 v1):=hid (hR.apart (ib:=ib) HL0.o (by rw[hv1];exact zq _ _ _ rfl));have Hv1:=hid hv1.symm;clear hR hO hs hv1;go_upto_region 8 with fail
  rw[Hv1.o];clear c1 f1;go_wp2_with fail
  refine(HN2.o ab _ HR1.o).mono ?_
  rintro e u2 ⟨rfl,hR,hO⟩;have hs:u2.heap[ib]? =some (.cells (zm ⟨q0,q1,0,0,0,0⟩) 48 (0,0)):=(hO.block ib (za HI1.o) (by have:=HL0.o;omega)).trans HI1.o;have c2:=cell_of_row u2 ib 2 _ _ _ hs;have f2:=frozen_of_row u2 ib 2 _ _ hs;obtain⟨v2,hv2⟩:=nm (u2.setCell ⟨ib,2,none⟩ (.int .i64 q2));have HI2:Hid (v2.heap[ib]? =some (.cells (zm ⟨q0,q1,q2,0,0,0⟩) 48 (0,0))):=hid (by rw[hv2];exact Go.heap_setCell_same _ _ 2 _ _ _ hs);have HR2:Hid (RdG w vv rb ab 16 v2):=hid (hR.apart (ib:=ib) HL0.o (by rw[hv2];exact zq _ _ _ rfl));have Hv2:=hid hv2.symm;clear hR hO hs hv2;go_upto_region 9 with fail
  rw[Hv2.o];clear c2 f2;go_wp2_with fail
  refine(HN3.o ab _ HR2.o).mono ?_
  rintro e u3 ⟨rfl,hR,hO⟩;have hs:u3.heap[ib]? =some (.cells (zm ⟨q0,q1,q2,0,0,0⟩) 48 (0,0)):=(hO.block ib (za HI2.o) (by have:=HL0.o;omega)).trans HI2.o;have c3:=cell_of_row u3 ib 3 _ _ _ hs;have f3:=frozen_of_row u3 ib 3 _ _ hs;obtain⟨v3,hv3⟩:=nm (u3.setCell ⟨ib,3,none⟩ (.int .i64 q3));have HI3:Hid (v3.heap[ib]? =some (.cells (zm ⟨q0,q1,q2,q3,0,0⟩) 48 (0,0))):=hid (by rw[hv3];exact Go.heap_setCell_same _ _ 3 _ _ _ hs);have HR3:Hid (RdG w vv rb ab 17 v3):=hid (hR.apart (ib:=ib) HL0.o (by rw[hv3];exact zq _ _ _ rfl));have Hv3:=hid hv3.symm;clear hR hO hs hv3;go_upto_region 10 with fail
  rw[Hv3.o];clear c3 f3;go_wp2_with fail
  refine(HN4.o ab _ HR3.o).mono ?_
  rintro e u4 ⟨rfl,hR,hO⟩;have hs:u4.heap[ib]? =some (.cells (zm ⟨q0,q1,q2,q3,0,0⟩) 48 (0,0)):=(hO.block ib (za HI3.o) (by have:=HL0.o;omega)).trans HI3.o;have c4:=cell_of_row u4 ib 4 _ _ _ hs;have f4:=frozen_of_row u4 ib 4 _ _ hs;obtain⟨v4,hv4⟩:=nm (u4.setCell ⟨ib,4,none⟩ (.int .i64 q4));have HI4:Hid (v4.heap[ib]? =some (.cells (zm ⟨q0,q1,q2,q3,q4,0⟩) 48 (0,0))):=hid (by rw[hv4];exact Go.heap_setCell_same _ _ 4 _ _ _ hs);have HR4:Hid (RdG w vv rb ab 18 v4):=hid (hR.apart (ib:=ib) HL0.o (by rw[hv4];exact zq _ _ _ rfl));have Hv4:=hid hv4.symm;clear hR hO hs hv4;go_upto_region 11 with fail
  rw[Hv4.o];clear c4 f4;go_wp2_with fail
  refine(HN5.o ab _ HR4.o).mono ?_
  rintro e u5 ⟨rfl,hR,hO⟩;have hs:u5.heap[ib]? =some (.cells (zm ⟨q0,q1,q2,q3,q4,0⟩) 48 (0,0)):=(hO.block ib (za HI4.o) (by have:=HL0.o;omega)).trans HI4.o;have c5:=cell_of_row u5 ib 5 _ _ _ hs;have f5:=frozen_of_row u5 ib 5 _ _ hs;obtain⟨v5,hv5⟩:=nm (u5.setCell ⟨ib,5,none⟩ (.int .i64 q5));have HI5:Hid (v5.heap[ib]? =some (.cells (zm ⟨q0,q1,q2,q3,q4,q5⟩) 48 (0,0))):=hid (by rw[hv5];exact Go.heap_setCell_same _ _ 5 _ _ _ hs);have HR5:Hid (RdG w vv rb ab 26 v5):=hid (hR.apart (ib:=ib) HL0.o (by rw[hv5];exact zq _ _ _ rfl));have Hv5:=hid hv5.symm;clear hR hO hs hv5;go_upto_region 12 with fail
  rw[Hv5.o];clear c5 f5;by_cases hmay:(⟨q0,q1,q2,q3,q4,q5⟩:Gd.Slot).May
  ·have HPu:=hid (qN ⟨q0,q1,q2,q3,q4,q5⟩ hmay v5);unfold zO at HPu;have Hmay:=hid hmay;clear hmay;go_wp2_with(refine wpList_load_row rfl 48 _ rfl ib rfl 48 (zm ⟨q0,q1,q2,q3,q4,q5⟩) (0,0) _ HI5.o underlying48 rfl sizeSlot ?_)
   refine HPu.o.mono ?_;rintro e w8 ⟨v8,rfl,ho8,hb8⟩;have HB8:Hid (Below w.heap.size w w8):=hid (HR5.o.below.trans (hb8.mono HR5.o.below.size));have HEq:=hid (jS v8 vv (Gd.slotB ⟨q0,q1,q2,q3,q4,q5⟩) L w8 ho8.at_ (HBy.o.keep HB8.o));have HR8:=hid ((hb8.block _ (za HR5.o.cr)).trans HR5.o.cr);have HI8:=HI5.r hb8;have x8:=cell_of_row w8 _ 0 _ _ _ ((hb8.block _ HR5.o.cb.lt).trans HR5.o.cb);rw[←Hrb.o.2]at x8;clear ho8 hb8 HPu;by_cases he:Gd.slotB ⟨q0,q1,q2,q3,q4,q5⟩=L
   ·rw[decide_eq_true he]at HEq;have He:=hid he;clear he;go_wp2_with(first|(go_at_call 102;with_reducible refine HEq.o.mono ?_;rintro e w9 ⟨rfl,rfl⟩)|(refine wpList_load_row rfl 48 _ rfl ib rfl 48 (zm ⟨q0,q1,q2,q3,q4,q5⟩) (0,0) _ HI8.o underlying48 rfl sizeSlot ?_)|(refine wpList_store_mid rfl 48 _ _ rfl rb 0 (zm ⟨q0,q1,q2,q3,q4,q5⟩) rfl rfl (zf HR8.o rfl) sizeSlot (jc _) ?_;obtain⟨hbw,hbg⟩:=zh HR8.o (vs:=(zm ⟨q0,q1,q2,q3,q4,q5⟩).toList) (B:=w.heap.size) rfl (by have:=Hrb.o;omega);generalize (World.setCells _ _ _ _)=wf at hbw hbg⊢))
    refine bodyPost_ret (zk rfl _ _ rb 48 (zm ⟨q0,q1,q2,q3,q4,q5⟩) (0,0) _ rfl hbg underlying48 rfl sizeSlot) rfl ?_;exact⟨HB8.o.trans hbw,Or.inl ⟨HI.o.2 ⟨Hmay.o,He.o⟩,rfl⟩⟩
   ·rw[decide_eq_false he]at HEq;have He:=hid he;clear he;go_wp2_with(first|(go_at_call 102;with_reducible refine HEq.o.mono ?_;rintro e w9 ⟨rfl,rfl⟩)|(refine wpList_store_mid rfl 48 _ _ rfl rb 0 (zm ⟨0,0,0,0,0,0⟩) rfl rfl (zf HR8.o rfl) sizeSlot (jc _) ?_;obtain⟨hbw,hbg⟩:=zh HR8.o (vs:=(zm ⟨0,0,0,0,0,0⟩).toList) (B:=w.heap.size) rfl (by have:=Hrb.o;omega);generalize (World.setCells _ _ _ _)=wf at hbw hbg⊢))
    refine bodyPost_ret (zk rfl _ _ rb 48 (zm ⟨0,0,0,0,0,0⟩) (0,0) _ rfl hbg underlying48 rfl sizeSlot) rfl ?_;exact⟨HB8.o.trans hbw,Or.inr ⟨fun h=>He.o (HI.o.1 h).2,_,by decide,rfl⟩⟩
  ·have HPu:=hid (ZX ⟨q0,q1,q2,q3,q4,q5⟩ hmay v5);unfold zO at HPu;have Hmay:=hid hmay;clear hmay;go_wp2_with(refine wpList_load_row rfl 48 _ rfl ib rfl 48 (zm ⟨q0,q1,q2,q3,q4,q5⟩) (0,0) _ HI5.o underlying48 rfl sizeSlot ?_)
   refine HPu.o.mono ?_;rintro e w8 ⟨rfl,hb8⟩;have HB8:Hid (Below w.heap.size w w8):=hid (HR5.o.below.trans (hb8.mono HR5.o.below.size));have HR8:=hid ((hb8.block _ (za HR5.o.cr)).trans HR5.o.cr);clear hb8 HPu;go_wp2_with(refine wpList_store_mid rfl 48 _ _ rfl rb 0 (zm ⟨0,0,0,0,0,0⟩) rfl rfl (zf HR8.o rfl) sizeSlot (jc _) ?_;obtain⟨hbw,hbg⟩:=zh HR8.o (vs:=(zm ⟨0,0,0,0,0,0⟩).toList) (B:=w.heap.size) rfl (by have:=Hrb.o;omega);generalize (World.setCells _ _ _ _)=wf at hbw hbg⊢)
   refine bodyPost_ret (zk rfl _ _ rb 48 (zm ⟨0,0,0,0,0,0⟩) (0,0) _ rfl hbg underlying48 rfl sizeSlot) rfl ?_;exact⟨HB8.o.trans hbw,Or.inr ⟨fun h=>Hmay.o (HI.o.1 h).1,_,by decide,rfl⟩⟩
 ·have Hs:=hid hsum;have hE1:¬E=0:=hE;have hsb:(E !=0)=true:=by simp[hE1]
  have HE:=hid hE;obtain⟨hn1,hn2⟩:=Hrb.o;have hcb1:zd w1 n0 22 #[vv]:=by rw[hn2];exact(HB1.o.block _ Hcb.o.lt).trans Hcb.o
  have y0:=cell_of_row w1 _ 0 _ _ _ hcb1;have z0:=frozen_of_row w1 _ 0 _ _ hcb1;obtain⟨w2,hw2⟩:=nm (w1.setCell ⟨n0,0,none⟩ (.slice none 0 0));have hcr1:w1.heap[rb]? =some (.cells (zm ⟨0,0,0,0,0,0⟩) 48 (0,0)):=(HB1.o.block _ (za Hcr.o)).trans Hcr.o;have HR8:Hid (w2.heap[rb]? =some (.cells (zm ⟨0,0,0,0,0,0⟩) 48 (0,0))):=hid (by rw[hw2];exact(Go.heap_setCell_other _ _ _ _ (by simp;omega)).trans hcr1);have HB8:Hid (Below w.heap.size w w2):=hid (by rw[hw2];exact(HBw.o.trans (HB1.o.mono HBw.o.size)).setCell (show w.heap.size≤n0 by omega) _);have Hw2:=hid hw2.symm;clear hE hE1 hsum hn1 hn2 hcb1 hw2 hcr1;go_upto_region 2 with fail
  rw[Hw2.o];clear x0 y0 z0;go_wp2_with(refine wpList_store_mid rfl 48 _ _ rfl rb 0 (zm ⟨0,0,0,0,0,0⟩) rfl rfl (zf HR8.o rfl) sizeSlot (jc _) ?_;obtain⟨hbw,hbg⟩:=zh HR8.o (vs:=(zm ⟨0,0,0,0,0,0⟩).toList) (B:=w.heap.size) rfl (by have:=Hrb.o;omega);generalize (World.setCells _ _ _ _)=wf at hbw hbg⊢)
  refine bodyPost_ret (zk rfl _ _ rb 48 (zm ⟨0,0,0,0,0,0⟩) (0,0) _ rfl hbg underlying48 rfl sizeSlot) rfl ?_;exact⟨HB8.o.trans hbw,Or.inr ⟨fun h=>Hs.o (HS.o h),E,HE.o,rfl⟩⟩
end
section
attribute [local go_sem] Oper.semAt_some
theorem xd[zc]{x t c K:Nat}{S:List UInt8}{P:List Gd.Pa}{F:Nat→Prop}(k m:Int)(p:Gd.Pt)(w:World)(h:zY x t S P c K w F)(hp:Gd.ptAt k m=some p):
 Calls prog 54 #[.agg #[.pointer (some ⟨t,0,none⟩)],.int .i64 k,.int .i64 m] w (qS w (Gd.part (Gd.view S P) p.a p.s)):=by
 obtain⟨w0,hw0⟩:=nm (w.alloc (.cells #[.pointer (some ⟨t,0,none⟩)] 76));have hb0:Below w.heap.size w w0:=by rw[hw0];exact(Below.refl _ _).alloc (Nat.le_refl _) _
 obtain⟨x0,hx0⟩:=nm w.heap.size;have hxc:zd w0 x0 76 #[.pointer (some ⟨t,0,none⟩)]:=by rw[hw0,hx0];exact heap_alloc_new _ _
 have HF:=hid (ju k m w0);rw[hp]at HF;have hpi:=xf hp;have H:=hid h;have Hxc:=hid hxc;have HB0:=hid hb0;have Hw0:=hid hw0.symm;have Hx0:=hid hx0.symm;clear h hp hb0 hxc hw0 hx0;go_enter func54,ntmps54;go_upto_region 1 with fail
 rw[Hw0.o,Hx0.o];go_wp2_with fail
 refine HF.o.mono ?_;rintro e w1 ⟨rfl,hb1⟩;unfold ptO ptV;have hn:=heap_alloc_new w1 (.cells (ptC p) 139);have hba:=(Below.refl w1.heap.size w1).alloc (Nat.le_refl _) (.cells (ptC p) 139);obtain⟨w2,hw2⟩:=nm (w1.alloc (.cells (ptC p) 139));rw[←hw2]at hn hba;have hb2:Below w0.heap.size w0 w2:=hb1.trans (hba.mono hb1.size);obtain⟨pb,hpb⟩:=nm w1.heap.size;rw[←hpb]at hn;have hdr:Below w0.heap.size w0 w2:=hb2;have hdw:Below w.heap.size w w2:=HB0.o.trans (hdr.mono HB0.o.size);have H2:=H.o.below hdw;have hx:zd w2 x0 76 #[.pointer (some ⟨t,0,none⟩)]:=(hdr.block x0 Hxc.o.lt).trans Hxc.o;have hnd:w2.heap[pb]? =some (.cells (ptC p) 139 (0,0)):=hn
 have hs0:w2.cell? ⟨x0,0,none⟩=some (.pointer (some ⟨t,0,none⟩))∧w2.cell? ⟨pb,2,none⟩=some (.int .i64 p.a)∧w2.cell? ⟨pb,3,none⟩=some (.int .i64 p.s):=⟨cell_of_row _ x0 0 _ _ _ hx,cell_of_row _ pb 2 _ _ _ hnd,cell_of_row _ pb 3 _ _ _ hnd⟩;have HLd:=hid (xO p.a p.s w2 H2.txn (by have:=H2.len;omega) (by have:=H2.len;omega) (by omega));have HTr:Hid (∀W,Below w2.heap.size w2 W→W.cell? ⟨x0,0,none⟩=some (.pointer (some ⟨t,0,none⟩))∧W.cell? ⟨pb,2,none⟩=some (.int .i64 p.a)∧W.cell? ⟨pb,3,none⟩=some (.int .i64 p.s)):=hid fun W hW=>⟨(hW.cell (p:=⟨x0,0,none⟩) hx.lt).trans hs0.1,(hW.cell (p:=⟨pb,2,none⟩) (za hnd)).trans hs0.2.1,(hW.cell (p:=⟨pb,3,none⟩) (za hnd)).trans hs0.2.2⟩;have HD:=hid hdw;have Hpb:=hid hpb.symm;have Hw2:=hid hw2.symm;unfold ptC at Hw2;clear hb1 HF hn hba hw2 hb2 hpb hdr hdw H2 hx hnd hpi;go_upto_region 4 with fail
 rw[Hw2.o,Hpb.o];obtain⟨x1,x2,x3⟩:=hs0;clear HTr;go_wp2_with fail
 refine HLd.o.mono ?_;rintro e w3 ⟨v3,rfl,ho3,hb3⟩;have HO3:=hid ho3;have HB3:=hid hb3;clear ho3 hb3 x1 x2 x3;go_wp2;go_ret2
 exact⟨v3,rfl,HO3.o.mono HD.o.size,HD.o.trans (HB3.o.mono HD.o.size)⟩
end
section
attribute [local go_sem] Oper.semAt_some
def jU(w:World)(o t x f:Nat):Prop:=w.heap[o]? =some (.cells #[.pointer (some ⟨t,0,none⟩),.pointer (some ⟨x,0,none⟩),.pointer (some ⟨f,0,none⟩)] 79 (0,0))
theorem sizeStore:(prog.info? 76).map (fun i=>i.size)=some 1:=by kernel_rfl
theorem Zh[zc]{o f x t c K:Nat}{S:List UInt8}{P:List Gd.Pa}{F:Nat→Prop}(w:World)(h:zY x t S P c K w F)(hv:jU w o t x f):
 Calls prog 30 #[.pointer (some ⟨o,0,none⟩)] w fun e w'=>Below w.heap.size w w'∧((Gd.isHead (Gd.part (Gd.view S P) 0 64)∧e= .returned (.int .i64 (Gd.get (Gd.part (Gd.view S P) 0 64) 8 8)))∨(¬Gd.isHead (Gd.part (Gd.view S P) 0 64)∧e= .returned (.int .i64 0))):=by
 have HPa:=hid (xd 1 0 ⟨1,0,0,64⟩ w h rfl);dsimp only at HPa;have hl:(Gd.part (Gd.view S P) 0 64).length=64:=Gd.part_length (by rw[h.view_len];omega);have Hl:=hid hl;have Hv:=hid hv;have hvr:w.heap[o]? =some (.cells #[.pointer (some ⟨t,0,none⟩),.pointer (some ⟨x,0,none⟩),.pointer (some ⟨f,0,none⟩)] 79 (0,0)):=hv;obtain⟨c0,c1,c2⟩:=zl hvr;have hrow:w.rangeAt o 0 [.pointer (some ⟨t,0,none⟩)]:=fun j v hj=>by
  match j,hj with
  |0,hj=>cases hj;exact c0
  |j+1,hj=>simp at hj
 clear h hl hv hvr;go_enter func30,ntmps30;go_wp2_with(refine wpList_load_mid rfl 76 _ rfl o 0 rfl [.pointer (some ⟨t,0,none⟩)] _ hrow underlying76 rfl sizeStore ?_)
 refine HPa.o.mono ?_;rintro e w1 ⟨v1,rfl,ho1,hb1⟩;have HRh:=hid (yD _ Hl.o v1 _ w1 ho1);have HB1:=hid hb1;clear ho1 hb1 HPa c0 c1 c2 hrow;go_wp2_with fail
 refine HRh.o.mono ?_;rintro e w2 ⟨hb2,hor⟩;have HB2:=HB1.t hb2;clear hb2 HRh;rcases hor with⟨hh,rfl⟩|⟨hh,E,hE,rfl⟩
 ·have Hh:=hid hh;clear hh;go_wp2;go_ret
  exact⟨HB2.o,Or.inl ⟨Hh.o,rfl⟩⟩
 ·have Hh:=hid hh;clear hh hE;go_wp2;go_ret
  exact⟨HB2.o,Or.inr ⟨Hh.o,rfl⟩⟩
theorem yQ[zc]{o f x t c K:Nat}{S:List UInt8}{P:List Gd.Pa}{F:Nat→Prop}(k a:Nat)(w:World)(h:zY x t S P c K w F)(hv:jU w o t x f)(hp:Gd.ptAt 2 k=some ⟨2,k,a,64⟩):
 Calls prog 17 #[.pointer (some ⟨o,0,none⟩),.int .i64 k] w fun e w'=>Below w.heap.size w w'∧((Gd.isSlot (Gd.part (Gd.view S P) a 64)∧e= .returned (.tuple #[zO (Gd.rawS (Gd.part (Gd.view S P) a 64)),.int .i64 0]))∨(¬Gd.isSlot (Gd.part (Gd.view S P) a 64)∧∃E:Int,E≠0∧e= .returned (.tuple #[zO ⟨0,0,0,0,0,0⟩,.int .i64 E]))):=by
 have hpi:=xf hp;dsimp only at hpi;have hl:(Gd.part (Gd.view S P) a 64).length=64:=Gd.part_length (by rw[h.view_len];omega);obtain⟨L,hL⟩:=nm (Gd.part (Gd.view S P) a 64);obtain⟨w0,hw0⟩:=nm (w.alloc (.cells #[.int .i64 0,.int .i64 0,.int .i64 0,.int .i64 0,.int .i64 0,.int .i64 0] 48));have hb0:Below w.heap.size w w0:=by rw[hw0];exact(Below.refl _ _).alloc (Nat.le_refl _) _
 obtain⟨rb,hrb⟩:=nm w.heap.size;have hr0:w0.heap[rb]? =some (.cells (zm ⟨0,0,0,0,0,0⟩) 48 (0,0)):=by rw[hw0,hrb];exact heap_alloc_new _ _
 have HPa:=hid (xd 2 k ⟨2,k,a,64⟩ w0 (h.below hb0) hp);dsimp only at HPa;rw[←hL]at HPa hl⊢;have Hl:=hid hl;have hvr:w0.heap[o]? =some (.cells #[.pointer (some ⟨t,0,none⟩),.pointer (some ⟨x,0,none⟩),.pointer (some ⟨f,0,none⟩)] 79 (0,0)):=(hb0.block o (za hv)).trans hv;obtain⟨c0,c1,c2⟩:=zl hvr;have hrow:w0.rangeAt o 0 [.pointer (some ⟨t,0,none⟩)]:=fun j v hj=>by
  match j,hj with
  |0,hj=>cases hj;exact c0
  |j+1,hj=>simp at hj
 have HR0:=hid hr0;have HB0:=hid hb0;have Hw0:=hid hw0.symm;have Hrb:=hid hrb.symm;clear h hl hv hvr hp hpi hL hw0 hb0 hr0 hrb;go_enter func17,ntmps17;go_upto_region 1 with fail
 rw[Hw0.o,Hrb.o];go_wp2_with(refine wpList_load_mid rfl 76 _ rfl o 0 rfl [.pointer (some ⟨t,0,none⟩)] _ hrow underlying76 rfl sizeStore ?_)
 refine HPa.o.mono ?_;rintro e w1 ⟨v1,rfl,ho1,hb1⟩;have HRh:=hid (Zn _ Hl.o v1 _ w1 ho1);have HB1:=HB0.t hb1;have HR1:=HR0.r hb1;clear ho1 hb1 HPa c0 c1 c2 hrow;go_wp2_with fail
 refine HRh.o.mono ?_;rintro e w2 ⟨hb2,hor⟩;have HB2:=HB1.t hb2;have HR2:=HR1.r hb2;clear hb2 HRh;rcases hor with⟨hh,rfl⟩|⟨hh,E,hE,rfl⟩
 ·obtain⟨s,hs⟩:=nm (Gd.rawS L);rw[←hs];have Hh:=hid (And.intro hh hs.symm);clear hh hs;unfold zO;obtain⟨w3,hw3⟩:=nm ((w2.alloc (.cells #[.int .i64 0,.int .i64 0,.int .i64 0,.int .i64 0,.int .i64 0,.int .i64 0] 48)));have hb3:Below w2.heap.size w2 w3:=by rw[hw3];exact(Below.refl _ _).alloc (Nat.le_refl _) _
  have hn3:w3.heap[w2.heap.size]? =some (.cells (zm ⟨0,0,0,0,0,0⟩) 48 (0,0)):=by rw[hw3];exact heap_alloc_new _ _
  obtain⟨b,hbe⟩:=nm w2.heap.size;rw[←hbe]at hn3;have HN3:=hid hn3;have HR3:=hid ((hb3.block rb (za HR2.o)).trans HR2.o);have HB3:=HB2.t hb3;have Hbe:=hid hbe.symm;have HW3:=hid hw3.symm;have HbB:Hid (rb<b):=hid (by rw[hbe];exact za HR2.o);clear hw3 hb3 hn3 hbe
  go_wp2_with(first|(refine wpList_store_mid rfl 48 _ _ rfl b 0 (zm s) (by rw[←Hbe.o];rfl) rfl (by rw[show w2.alloc (.cells #[.int .i64 0,.int .i64 0,.int .i64 0,.int .i64 0,.int .i64 0,.int .i64 0] 48)=w3 from HW3.o];exact zf HN3.o rfl) sizeSlot (jc _) ?_;rw[HW3.o];obtain⟨hbw,hbg⟩:=zh HN3.o (vs:=(zm s).toList) (B:=b) rfl (Nat.le_refl b);generalize (World.setCells _ _ _ _)=w4 at hbw hbg⊢;have HG4:=hid hbg;have HR4:=hid ((hbw.block rb HbB.o).trans HR3.o);have HB4:=hid (HB3.o.trans (hbw.mono (show w.heap.size≤b by have:=HbB.o;have:=Hrb.o;omega)));clear hbw hbg)|(refine wpList_load_row rfl 48 _ rfl b (by rw[←Hbe.o];rfl) 48 (zm s) (0,0) _ HG4.o underlying48 rfl sizeSlot ?_)|(refine wpList_store_mid rfl 48 _ _ rfl rb 0 (zm s) rfl rfl (zf HR4.o rfl) sizeSlot (jc _) ?_;obtain⟨hbw,hbg⟩:=zh HR4.o (vs:=(zm s).toList) (B:=rb) rfl (Nat.le_refl rb);generalize (World.setCells _ _ _ _)=wf at hbw hbg⊢))
  refine bodyPost_ret (zk rfl _ _ rb 48 (zm s) (0,0) _ rfl hbg underlying48 rfl sizeSlot) rfl ?_;refine⟨HB4.o.trans (by rw[Hrb.o];exact hbw),Or.inl ⟨Hh.o.1,?_⟩⟩;rw[Hh.o.2];rfl
 ·have Hh:=hid hh;have hE1:¬E=0:=hE;have hsb:(E !=0)=true:=by simp[hE1]
  clear hh hE hE1;unfold zO;obtain⟨w3,hw3⟩:=nm ((w2.alloc (.cells #[.int .i64 0,.int .i64 0,.int .i64 0,.int .i64 0,.int .i64 0,.int .i64 0] 48)));have hb3:Below w2.heap.size w2 w3:=by rw[hw3];exact(Below.refl _ _).alloc (Nat.le_refl _) _
  have hn3:w3.heap[w2.heap.size]? =some (.cells (zm ⟨0,0,0,0,0,0⟩) 48 (0,0)):=by rw[hw3];exact heap_alloc_new _ _
  obtain⟨b,hbe⟩:=nm w2.heap.size;rw[←hbe]at hn3;have HN3:=hid hn3;have HR3:=hid ((hb3.block rb (za HR2.o)).trans HR2.o);have HB3:=HB2.t hb3;have Hbe:=hid hbe.symm;have HW3:=hid hw3.symm;have HbB:Hid (rb<b):=hid (by rw[hbe];exact za HR2.o);clear hw3 hb3 hn3 hbe
  go_wp2_with(first|(refine wpList_store_mid rfl 48 _ _ rfl b 0 (zm ⟨0,0,0,0,0,0⟩) (by rw[←Hbe.o];rfl) rfl (by rw[show w2.alloc (.cells #[.int .i64 0,.int .i64 0,.int .i64 0,.int .i64 0,.int .i64 0,.int .i64 0] 48)=w3 from HW3.o];exact zf HN3.o rfl) sizeSlot (jc _) ?_;rw[HW3.o];obtain⟨hbw,hbg⟩:=zh HN3.o (vs:=(zm ⟨0,0,0,0,0,0⟩).toList) (B:=b) rfl (Nat.le_refl b);generalize (World.setCells _ _ _ _)=w4 at hbw hbg⊢;have HG4:=hid hbg;have HR4:=hid ((hbw.block rb HbB.o).trans HR3.o);have HB4:=hid (HB3.o.trans (hbw.mono (show w.heap.size≤b by have:=HbB.o;have:=Hrb.o;omega)));clear hbw hbg)|(refine wpList_store_mid rfl 48 _ _ rfl rb 0 (zm ⟨0,0,0,0,0,0⟩) rfl rfl (zf HR4.o rfl) sizeSlot (jc _) ?_;obtain⟨hbw,hbg⟩:=zh HR4.o (vs:=(zm ⟨0,0,0,0,0,0⟩).toList) (B:=rb) rfl (Nat.le_refl rb);generalize (World.setCells _ _ _ _)=wf at hbw hbg⊢))
  refine bodyPost_ret (zk rfl _ _ rb 48 (zm ⟨0,0,0,0,0,0⟩) (0,0) _ rfl hbg underlying48 rfl sizeSlot) rfl ?_;exact⟨HB4.o.trans (by rw[Hrb.o];exact hbw),Or.inr ⟨Hh.o,_,by decide,rfl⟩⟩
end
section
attribute [local go_sem] Oper.semAt_some
namespace Gd
def isIno(V:List UInt8)(i:Nat):Prop:=∃y:Ino,y.Shape∧mayI y=true∧part V (inoAt i) 64=inoB y
def isRoot(V:List UInt8):Prop:=∃y:Ino,y.Shape∧mayI y=true∧part V (inoAt 1) 64=inoB y∧y.k=2
structure SoundV(V:List UInt8):Prop where
 head:isHead (part V 0 64)
 slot:∀k,1≤k→k≤8→isSlot (part V (64*k) 64)
 ino:∀i,1≤i→i≤32→isIno V i
 root:isRoot V
theorem ptAt_slotV{k:Nat}(h1:1≤k)(h2:k≤8):ptAt 2 (k:Int)=some ⟨2,k,64*k,64⟩:=by
 have:∀k:Fin 8,ptAt 2 ((k.val+1:Nat):Int)=some ⟨2,k.val+1,64*(k.val+1),64⟩:=by decide+kernel
 have h:=this ⟨k-1,by omega⟩;simp only[show k-1+1=k by omega]at h;exact h
theorem inoB_k{y z:Ino}(hs:y.Shape)(hs':z.Shape)(hm:mayI y=true)(hm':mayI z=true)(h:inoB y=inoB z)(h2:z.k=2):y.k=2:=by
 have hz':=ino_bytes hs' hm' (by omega);by_cases hz:y.k=0
 ·exact absurd (by rw[←h];unfold inoB;rw[if_pos hz]) hz'.ne
 ·obtain⟨b,hb,hk⟩:=(ino_bytes hs hm hz).k;obtain⟨b',hb',hk'⟩:=hz'.k;rw[h,hb']at hb
  cases hb
  omega
end Gd
theorem QX[zc]{o f x t c K:Nat}{S:List UInt8}{P:List Gd.Pa}{F:Nat→Prop}(w:World)(h:zY x t S P c K w F)(hv:jU w o t x f):
 Calls prog 46 #[.pointer (some ⟨o,0,none⟩)] w fun e w'=>Below w.heap.size w w'∧((Gd.SoundV (Gd.view S P)∧e= .returned (.bool true))∨(¬Gd.SoundV (Gd.view S P)∧e= .returned (.bool false))):=by
 have HPa:=hid (xd 1 0 ⟨1,0,0,64⟩ w h rfl);dsimp only at HPa;have Hl:Hid ((Gd.part (Gd.view S P) 0 64).length=64):=hid (Gd.part_length (by rw[h.view_len];omega));have HV:Hid ((Gd.view S P).length=23168):=hid h.view_len;have H:=hid h;have Hv:=hid hv;have HSl:Hid (∀(k:Nat) (W:World),1≤k→k≤8→Below w.heap.size w W→Calls prog 17 #[.pointer (some ⟨o,0,none⟩),.int .i64 k] W fun e w'=>∃(s:Gd.Slot) (E:Int),e= .returned (.tuple #[zO s,.int .i64 E])∧(E=0↔Gd.isSlot (Gd.part (Gd.view S P) (64*k) 64))∧Below W.heap.size W w'):=hid fun k W h1 h2 hb=>by
  refine(yQ k (64*k) W (h.below hb) ((hb.block o (za hv)).trans hv) (Gd.ptAt_slotV h1 h2)).mono ?_
  rintro e w' ⟨hb',⟨hs,rfl⟩|⟨hs,E,hE,rfl⟩⟩
  ·exact⟨_,0,rfl,⟨fun _=>hs,fun _=>rfl⟩,hb'⟩
  ·exact⟨_,E,rfl,⟨fun e=>absurd e hE,fun e=>absurd e hs⟩,hb'⟩
 have HIn:Hid (∀(i:Nat) (W:World),1≤i→i≤32→Below w.heap.size w W→Calls prog 16 #[.pointer (some ⟨x,0,none⟩),.int .i64 i] W fun e w'=>∃(y:Gd.Ino) (E:Int),e= .returned (.tuple #[zQ y,.int .i64 E])∧y.Shape∧(E=0→Gd.mayI y=true∧Gd.part (Gd.view S P) (Gd.inoAt i) 64=Gd.inoB y)∧(¬E=0→¬Gd.isIno (Gd.view S P) i)∧Below W.heap.size W w'):=hid fun i W h1 h2 hb=>by
  by_cases hi:Gd.isIno (Gd.view S P) i
  ·obtain⟨y,hs,hm,hp⟩:=hi;refine(uf (i:Int) y W (h.below hb) (by omega) (by omega) hs hm hp).mono ?_
   rintro e w' ⟨rfl,hb'⟩;exact⟨y,0,rfl,hs,fun _=>⟨hm,hp⟩,fun e=>absurd rfl e,hb'⟩
  ·refine(Jk (i:Int) W (h.below hb) (by omega) (by omega) (Gd.part_length (by have:=h.view_len;unfold Gd.inoAt;omega)) (fun y a b c=>hi ⟨y,a,b,c⟩)).mono ?_
   rintro e w' ⟨⟨E,hE,rfl⟩,hb'⟩;exact⟨_,E,rfl,⟨rfl,rfl⟩,fun e=>absurd e hE,fun _=>hi,hb'⟩
 have hvr:w.heap[o]? =some (.cells #[.pointer (some ⟨t,0,none⟩),.pointer (some ⟨x,0,none⟩),.pointer (some ⟨f,0,none⟩)] 79 (0,0)):=hv;obtain⟨c0,c1,c2⟩:=zl hvr;have hrow:w.rangeAt o 0 [.pointer (some ⟨t,0,none⟩)]:=fun j v hj=>by
  match j,hj with
  |0,hj=>cases hj;exact c0
  |j+1,hj=>simp at hj
 have HX:Hid (∀W,Below w.heap.size w W→W.cell? ⟨o,1,none⟩=some (.pointer (some ⟨x,0,none⟩))):=hid fun W hb=>(hb.cell (p:=⟨o,1,none⟩) (za hvr)).trans c1;clear h hv hvr;go_enter func46,ntmps46;go_wp2_with(refine wpList_load_mid rfl 76 _ rfl o 0 rfl [.pointer (some ⟨t,0,none⟩)] _ hrow underlying76 rfl sizeStore ?_)
 refine HPa.o.mono ?_;rintro e w1 ⟨v1,rfl,ho1,hb1⟩;have HRh:=hid (yD _ Hl.o v1 _ w1 ho1);have HB1:=hid hb1;clear ho1 hb1 HPa c0 c1 c2 hrow;go_wp2_with fail
 refine HRh.o.mono ?_;rintro e w2 ⟨hb2,hor⟩;have HB2:=HB1.t hb2;clear hb2 HRh;rcases hor with⟨hh,rfl⟩|⟨hh,E,hE,rfl⟩
 rotate_left
 ·have Hh:=hid hh;have hE1:¬E=0:=hE;have hsb:(E !=0)=true:=by simp[hE1]
  clear hh hE hE1;go_wp2;go_ret
  exact⟨HB2.o,Or.inr ⟨fun h=>Hh.o h.head,rfl⟩⟩
 have Hh:=hid hh;clear hh;go_upto_region 6 with fail
 go_loopw[28] (fun z wr=>∃i:Nat,z= .int .i64 i∧i≤8∧Hid (∀k,1≤k→k≤i→Gd.isSlot (Gd.part (Gd.view S P) (64*k) 64))∧Hid (Below w.heap.size w wr)) (fun z _=>8-(intOf z).toNat)
 case atStart=>exact⟨0,rfl,by omega,hid fun k h1 h2=>by omega,HB2⟩
 case round=>
  obtain⟨i,rfl,hi,HSk,HBr⟩:=hrel;by_cases hlt:i<8
  ·have hlt':(i:Int)<8:=by omega
   have hi0:(0:Int)≤i:=by omega
   have HC:=hid (HSl.o (i+1) wr (by omega) (by omega) HBr.o);rw[show((i+1:Nat):Int)=(i:Int)+1 by omega]at HC;clear hlt;go_wp2_with fail
   refine HC.o.mono ?_;rintro e w2 ⟨s,E,rfl,hE,hb2⟩;have HE:=hid hE;have HB2:=HBr.t hb2;clear hE hb2 HC;unfold zO;obtain⟨w3,hw3⟩:=nm ((w2.alloc (.cells #[.int .i64 0,.int .i64 0,.int .i64 0,.int .i64 0,.int .i64 0,.int .i64 0] 48)));have hb3:Below w2.heap.size w2 w3:=by rw[hw3];exact(Below.refl _ _).alloc (Nat.le_refl _) _
   have hn3:w3.heap[w2.heap.size]? =some (.cells (zm ⟨0,0,0,0,0,0⟩) 48 (0,0)):=by rw[hw3];exact heap_alloc_new _ _
   obtain⟨b,hbe⟩:=nm w2.heap.size;rw[←hbe]at hn3;have HN3:=hid hn3;have HB3:=HB2.t hb3;have Hbe:=hid hbe.symm;have HW3:=hid hw3.symm;clear hw3 hb3 hn3 hbe;by_cases hE0:E=0
   ·have Hok:=hid (HE.o.1 hE0);subst hE0;go_wp2_with(refine wpList_store_mid rfl 48 _ _ rfl b 0 (zm s) (by rw[←Hbe.o];rfl) rfl (by rw[show w2.alloc (.cells #[.int .i64 0,.int .i64 0,.int .i64 0,.int .i64 0,.int .i64 0,.int .i64 0] 48)=w3 from HW3.o];exact zf HN3.o (by first|rfl|(rw[rfl];rfl))) (by first|exact sizeSlot|(rw[rfl];exact sizeIno)) (by first|exact jc _|exact zw _) ?_;rw[HW3.o];obtain⟨hbw,hbg⟩:=zh HN3.o (vs:=((zm s)).toList) (B:=b) (by first|rfl|(rw[Array.length_toList,rfl];rfl)) (Nat.le_refl b);generalize (World.setCells _ _ _ _)=w4 at hbw hbg⊢;have HG4:=hid hbg;have HB4:=hid (HB3.o.trans (hbw.mono (show w.heap.size≤b by have:=HB2.o.size;have:=Hbe.o;omega)));clear hbw hbg)
    go_roundw
    case rel=>
     refine⟨i+1,by go_num,by omega,hid fun k h1 h2=> ?_,HB4⟩;by_cases hk:k=i+1
     ·subst hk;exact Hok.o
     ·exact HSk.o k h1 (by omega)
    case measure=>simp[intOf];omega
   ·have hsb:(E !=0)=true:=by simp[hE0]
    have Hno:=hid fun h=>hE0 (HE.o.2 h);clear hE0;go_wp2_with(refine wpList_store_mid rfl 48 _ _ rfl b 0 (zm s) (by rw[←Hbe.o];rfl) rfl (by rw[show w2.alloc (.cells #[.int .i64 0,.int .i64 0,.int .i64 0,.int .i64 0,.int .i64 0,.int .i64 0] 48)=w3 from HW3.o];exact zf HN3.o (by first|rfl|(rw[rfl];rfl))) (by first|exact sizeSlot|(rw[rfl];exact sizeIno)) (by first|exact jc _|exact zw _) ?_;rw[HW3.o];obtain⟨hbw,hbg⟩:=zh HN3.o (vs:=((zm s)).toList) (B:=b) (by first|rfl|(rw[Array.length_toList,rfl];rfl)) (Nat.le_refl b);generalize (World.setCells _ _ _ _)=w4 at hbw hbg⊢;have HG4:=hid hbg;have HB4:=hid (HB3.o.trans (hbw.mono (show w.heap.size≤b by have:=HB2.o.size;have:=Hbe.o;omega)));clear hbw hbg)
    go_ret
    exact⟨HB4.o,Or.inr ⟨fun h=>Hno.o (h.slot (i+1) (by omega) (by omega)),rfl⟩⟩
  ·obtain rfl:i=8:=by omega
   clear hlt;go_upto_region 13 with fail
   clear hi;have HSk8:=hid HSk.o;obtain⟨w5,rfl⟩:=nm wr;have HB5:=HBr;clear HBr HSk;go_loopw[41] (fun z wr=>∃i:Nat,z= .int .i64 i∧i≤32∧Hid ((∀k,1≤k→k≤i→Gd.isIno (Gd.view S P) k)∧(1≤i→Gd.isRoot (Gd.view S P)))∧Hid (Below w.heap.size w wr)) (fun z _=>32-(intOf z).toNat)
   case atStart=>exact⟨0,rfl,by omega,hid ⟨fun k h1 h2=>by omega,fun h=>by omega⟩,HB5⟩
   case round=>
    obtain⟨i,rfl,hi,HIk,HBr⟩:=hrel;by_cases hlt:i<32
    ·have hlt':(i:Int)<32:=by omega
     have hi0:(0:Int)≤i:=by omega
     have HC:=hid (HIn.o (i+1) wr (by omega) (by omega) HBr.o);rw[show((i+1:Nat):Int)=(i:Int)+1 by omega]at HC;have x1:=HX.o wr HBr.o;clear hlt;go_wp2_with fail
     refine HC.o.mono ?_;rintro e w2 ⟨y,E,rfl,hs,hE,hEn,hb2⟩;have HE:=hid (And.intro hE hEn);have HSh:=hid hs;have HS:=hid (zy hs);have HB2:=HBr.t hb2;clear hE hEn hs hb2 HC x1;unfold zQ;obtain⟨w3,hw3⟩:=nm ((w2.alloc (.cells #[.int .i64 0,.int .i64 0,.int .i64 0,.int .i64 0,.int .i64 0,.int .i64 0,.int .i64 0,.int .i64 0,.int .i64 0,.int .i64 0,.int .i64 0,.int .i64 0,.int .i64 0,.int .i64 0,.int .i64 0] 40)));have hb3:Below w2.heap.size w2 w3:=by rw[hw3];exact(Below.refl _ _).alloc (Nat.le_refl _) _
     have hn3:w3.heap[w2.heap.size]? =some (.cells zP 40 (0,0)):=by rw[hw3];exact heap_alloc_new _ _
     obtain⟨b,hbe⟩:=nm w2.heap.size;rw[←hbe]at hn3;have HN3:=hid hn3;have HB3:=HB2.t hb3;have Hbe:=hid hbe.symm;have HW3:=hid hw3.symm;clear hw3 hb3 hn3 hbe
     go_upto_region 16 with(refine wpList_store_mid rfl 40 _ _ rfl b 0 (zj y) (by rw[←Hbe.o];rfl) rfl (by rw[show w2.alloc (.cells #[.int .i64 0,.int .i64 0,.int .i64 0,.int .i64 0,.int .i64 0,.int .i64 0,.int .i64 0,.int .i64 0,.int .i64 0,.int .i64 0,.int .i64 0,.int .i64 0,.int .i64 0,.int .i64 0,.int .i64 0] 40)=w3 from HW3.o];exact zf HN3.o (by first|rfl|(rw[HS.o];rfl))) (by first|exact sizeSlot|(rw[HS.o];exact sizeIno)) (by first|exact jc _|exact zw _) ?_;rw[HW3.o];obtain⟨hbw,hbg⟩:=zh HN3.o (vs:=((zj y)).toList) (B:=b) (by first|rfl|(rw[Array.length_toList,HS.o];rfl)) (Nat.le_refl b);generalize (World.setCells _ _ _ _)=w4 at hbw hbg⊢;have HG4:=hid hbg;have HB4:=hid (HB3.o.trans (hbw.mono (show w.heap.size≤b by have:=HB2.o.size;have:=Hbe.o;omega)));clear hbw hbg)
     have x4:w4.cell? ⟨w2.heap.size,0,none⟩=some (.int .i64 y.k):=by rw[Hbe.o];exact(cell_of_row w4 b 0 _ _ _ HG4.o).trans (jA rfl)
     by_cases hE0:E=0
     ·obtain⟨hm,hp⟩:=HE.o.1 hE0;have Hmp:=hid (And.intro hm hp);subst hE0;clear hm hp;by_cases hz:i=0
      ·subst hz;by_cases hk:y.k=2
       ·have Hk:=hid hk;have hkb:(y.k !=2)=false:=by simp[hk]
        clear hk;go_wp2;go_roundw
        case rel=>
         refine⟨_,_,_,_,_,⟨0+1,by go_num,by omega,hid ⟨fun k h1 h2=> ?_,fun _=>⟨y,HSh.o,Hmp.o.1,Hmp.o.2,Hk.o⟩⟩⟩,rfl,rfl,rfl,rfl,rfl⟩;obtain rfl:k=1:=by omega
         exact⟨y,HSh.o,Hmp.o.1,Hmp.o.2⟩
        case measure=>simp[intOf]
       ·have Hk:=hid hk;have hkb:(y.k !=2)=true:=by simp[hk]
        clear hk;go_wp2;go_ret
        refine⟨HB4.o,Or.inr ⟨fun h=> ?_,rfl⟩⟩;obtain⟨y',h1,h2,h3,h4⟩:=h.root;exact Hk.o (Gd.inoB_k HSh.o h1 Hmp.o.1 h2 (Hmp.o.2.symm.trans h3) h4)
      ·have hz1:¬(i:Int)+1=1:=by omega
       have hzb:((i:Int)+1==1)=false:=by simp[hz1]
       have Hz:=hid hz;clear hz;go_wp2;go_roundw
       case rel=>
        refine⟨_,_,_,_,_,⟨i+1,by go_num,by omega,hid ⟨fun k h1 h2=> ?_,fun _=>HIk.o.2 (by have:=Hz.o;omega)⟩⟩,rfl,rfl,rfl,rfl,rfl⟩;by_cases hk:k=i+1
        ·subst hk;exact⟨y,HSh.o,Hmp.o.1,Hmp.o.2⟩
        ·exact HIk.o.1 k h1 (by omega)
       case measure=>simp[intOf];omega
     ·have hsb:(E !=0)=true:=by simp[hE0]
      have Hno:=hid (HE.o.2 hE0);clear hE0;go_wp2;go_ret
      exact⟨HB4.o,Or.inr ⟨fun h=>Hno.o (h.ino (i+1) (by omega) (by omega)),rfl⟩⟩
    ·obtain rfl:i=32:=by omega
     clear hlt;go_wp2;go_ret
     exact⟨HBr.o,Or.inl ⟨⟨Hh.o,HSk8.o,HIk.o.1,HIk.o.2 (by omega)⟩,rfl⟩⟩
end
section
open Go.Shelf
attribute [local go_sem] Oper.semAt_some
theorem Xt(t x:Nat)(w:World):Calls prog 89 #[.pointer (some ⟨t,0,none⟩),.pointer (some ⟨x,0,none⟩)] w fun e w'=>e= .returned (.pointer (some ⟨w.heap.size,0,none⟩))∧w'=w.alloc (.cells #[.pointer (some ⟨t,0,none⟩),.pointer (some ⟨x,0,none⟩)] 182):=by
 go_enter func89,ntmps89;go_wp2;go_ret
 exact⟨rfl,rfl⟩
end
namespace Gd
theorem part_get?{S:List UInt8}{k n:Nat}(i:Nat):(part S k n)[i]? =if i<n then S[k+i]? else none:=by
 by_cases h:i<n
 ·rw[if_pos h,part_get h]
 ·rw[if_neg h];unfold part;exact List.getElem?_eq_none (by rw[List.length_take];omega)
theorem part_part{S:List UInt8}{k n a m:Nat}(h:a+m≤n):part (part S k n) a m=part S (k+a) m:=by
 apply List.ext_getElem?
 intro i;rw[part_get?,part_get?,part_get?];by_cases hi:i<m
 ·rw[if_pos hi,if_pos (show a+i<n by omega),if_pos hi,Nat.add_assoc]
 ·rw[if_neg hi,if_neg hi]
theorem part_splice_in{S b:List UInt8}{k n a:Nat}(hb:a+b.length≤n)(hn:k+n≤S.length):part (splice S (k+a) b) k n=splice (part S k n) a b:=by
 have hp:(part S k n).length=n:=part_length hn;apply List.ext_getElem?
 intro i;rw[part_get?,splice_get (by omega),splice_get (by omega),part_get?];by_cases hi:i<n
 ·rw[if_pos hi,if_pos hi];by_cases h1:a≤i∧i<a+b.length
  ·rw[if_pos (by omega),if_pos h1,show k+i-(k+a)=i-a by omega]
  ·rw[if_neg (by omega),if_neg h1]
 ·rw[if_neg hi,if_neg hi,if_neg (by omega)]
def Vol.setHead(M:Vol)(a:Nat)(b:List UInt8):Vol:={M with head:=splice M.head a b}
theorem Good.setHead{V:List UInt8}{M:Vol}(h:Good V M){a:Nat}{b:List UInt8}(hb:a+b.length≤576):Good (splice V a b) (M.setHead a b):=by
 have hV:=h.len;have hf:a+b.length≤V.length:=by omega
 refine⟨by rw[splice_length hf];exact hV,h.shape,h.may,fun j j1 j2=> ?_,h.mapl,?_,h.blkl,fun n n1 n2=> ?_,?_,?_⟩
 ·rw[part_splice_apart (by unfold inoAt;omega) hf (by unfold inoAt;omega)];exact h.ino j j1 j2
 ·rw[part_splice_apart (by omega) hf (by omega)];exact h.map
 ·rw[part_splice_apart (by unfold blkAt;omega) hf (by unfold blkAt;omega)];exact h.blk n n1 n2
 ·show part _ 0 576=splice M.head a b
  have:=part_splice_in (S:=V) (k:=0) hb (by omega)
  rw[Nat.zero_add]at this;rw[this,h.head]
 ·rw[part_splice_apart (by omega) hf (by omega)];exact h.logs
structure HeadIs(M:Vol)(n:Nat)(s:Nat→Slot):Prop where
 len:M.head.length=576
 few:n≤1152921504606846976
 head:part M.head 0 64=headB n
 may:∀k,1≤k→k≤8→(s k).May
 slot:∀k,1≤k→k≤8→part M.head (64*k) 64=slotB (s k)
theorem HeadIs.same{M N:Vol}{n:Nat}{s:Nat→Slot}(h:HeadIs M n s)(e:N.head=M.head):HeadIs N n s:=
 ⟨by rw[e];exact h.len,h.few,by rw[e];exact h.head,h.may,fun k h1 h2=>by rw[e];exact h.slot k h1 h2⟩
theorem HeadIs.commit{M:Vol}{n m:Nat}{s:Nat→Slot}(h:HeadIs M n s)(hm:m≤1152921504606846976):HeadIs (M.setHead 0 (headB m)) m s:=by
 have hl:=h.len;have hb:=headB_length m;have hf:0+(headB m).length≤M.head.length:=by omega
 refine⟨(splice_length hf).trans hl,hm,?_,h.may,fun k h1 h2=> ?_⟩
 ·have:=part_splice_same hf
  rw[hb]at this;exact this
 ·show part (splice M.head 0 (headB m)) _ _=_
  rw[part_splice_apart (by omega) hf (by omega)];exact h.slot k h1 h2
def updS(s:Nat→Slot)(k:Nat)(x:Slot)(j:Nat):Slot:=if j=k then x else s j
theorem HeadIs.set{M:Vol}{n k:Nat}{s:Nat→Slot}{x:Slot}(h:HeadIs M n s)(k1:1≤k)(k2:k≤8)(hx:x.May):HeadIs (M.setHead (64*k) (slotB x)) n (updS s k x):=by
 have hl:=h.len;have hb:=slotB_length x;have hf:64*k+(slotB x).length≤M.head.length:=by omega
 refine⟨(splice_length hf).trans hl,h.few,?_,fun j h1 h2=> ?_,fun j h1 h2=> ?_⟩
 ·show part (splice M.head (64*k) (slotB x)) _ _=_
  rw[part_splice_apart (by omega) hf (by omega)];exact h.head
 ·unfold updS;split
  ·exact hx
  ·exact h.may j h1 h2
 ·unfold updS;show part (splice M.head (64*k) (slotB x)) _ _=_
  by_cases e:j=k
  ·subst e;rw[if_pos rfl];have:=part_splice_same hf
   rw[hb]at this;exact this
  ·rw[if_neg e,part_splice_apart (by omega) hf (by omega)];exact h.slot j h1 h2
theorem HeadIs.fresh{Z:List UInt8}(hZ:Z.length=23168):HeadIs (freshV Z) 0 fun _=>slot0:=by
 have hfit:Fit Z.length fmtP:=fmtP_fit (by omega);have hl:(view Z fmtP).length=23168:=by rw[view_length hfit,hZ]
 have hlh:=headB_length 0;have hd:(freshV Z).head=part (view Z fmtP) 0 576:=by dsimp only[freshV]
 refine⟨by rw[hd];exact part_length (by rw[hl];omega),by omega,?_,fun _ _ _=>slot0_may,fun k h1 h2=> ?_⟩
 ·rw[hd];rw[part_part (by omega)];have:=view_at (p:=(0,headB 0)) (P:=[]) (Q:=fmtS 8++[(576,List.replicate 16 0)]++[(inoAt 1,inoB rootI)]++fmtN 31) (S:=Z) (by rw[List.nil_append];simpa [fmtP,List.append_assoc]using hfit) fun q hq=>by
   rw[hlh];simp only[List.mem_append,List.mem_singleton]at hq;rcases hq with((hq|rfl)|rfl)|hq
   ·obtain⟨c,hc,h|h⟩:=fmtS_mem hq<;>omega
   ·left;show 0+64≤576;omega
   ·left;show 0+64≤inoAt 1;unfold inoAt;omega
   ·obtain⟨i,hi,h1,h2⟩:=fmtN_mem hq;rw[h1];unfold inoAt;omega
  rw[hlh]at this;simpa [fmtP,List.append_assoc]using this
 ·rw[hd];rw[part_part (by omega)];have hS:∀n c,c<n→∃A B,fmtS n=A++[(64+64*c,slotB slot0)]++B∧∀q∈B,64+64*c+64≤q.1:=by
   intro n;induction n with
   |zero=>intro c hc;omega
   |succ n ih=>
    intro c hc;rw[fmtS_succ];by_cases e:c=n
    ·subst e;refine⟨fmtS c,[(6784+1024*c,List.replicate 8 0)],rfl,fun q hq=> ?_⟩;rw[List.mem_singleton.1 hq];show 64+64*c+64≤6784+1024*c
     omega
    ·obtain⟨A,B,h1,h2⟩:=ih c (by omega);refine⟨A,B++[(64+64*n,slotB slot0)]++[(6784+1024*n,List.replicate 8 0)],by rw[h1];simp[List.append_assoc],fun q hq=> ?_⟩;simp only[List.mem_append,List.mem_singleton]at hq;rcases hq with(hq|rfl)|rfl
     ·exact h2 q hq
     ·show 64+64*c+64≤64+64*n;omega
     ·show 64+64*c+64≤6784+1024*n;omega
  obtain⟨A,B,hAB,hB⟩:=hS 8 (k-1) (by omega);have hsl:=slotB_length slot0;have heq:fmtP=([(0,headB 0)]++A)++[(64+64*(k-1),slotB slot0)]++(B++[(576,List.replicate 16 0)]++[(inoAt 1,inoB rootI)]++fmtN 31):=by
   unfold fmtP;rw[hAB];simp only[List.append_assoc]
  have:=view_at (p:=(64+64*(k-1),slotB slot0)) (P:=[(0,headB 0)]++A) (Q:=B++[(576,List.replicate 16 0)]++[(inoAt 1,inoB rootI)]++fmtN 31) (S:=Z) (by rw[←heq];exact hfit) fun q hq=>by
   rw[hsl];simp only[List.mem_append,List.mem_singleton]at hq;rcases hq with((hq|rfl)|rfl)|hq
   ·exact Or.inl (hB q hq)
   ·left;show 64+64*(k-1)+64≤576;omega
   ·left;show 64+64*(k-1)+64≤inoAt 1;unfold inoAt;omega
   ·obtain⟨i,hi,h1,h2⟩:=fmtN_mem hq;rw[h1];unfold inoAt;omega
  rw[←heq,hsl,show 64+64*(k-1)=0+64*k by omega]at this;exact this
theorem HeadIs.sound{V:List UInt8}{M:Vol}{n:Nat}{s:Nat→Slot}(hh:HeadIs M n s)(h:Good V M)(hr:(M.ino 1).k=2):SoundV V:=by
 have e:∀a m,a+m≤576→part V a m=part M.head a m:=fun a m ham=>by rw[←h.head,part_part ham,Nat.zero_add]
 refine⟨?_,fun k h1 h2=> ?_,fun i h1 h2=>⟨M.ino i,h.shape i h1 h2,h.may i h1 h2,h.ino i h1 h2⟩,⟨M.ino 1,h.shape 1 (by omega) (by omega),h.may 1 (by omega) (by omega),h.ino 1 (by omega) (by omega),hr⟩⟩
 ·rw[e 0 64 (by omega),hh.head];exact isHead_headB hh.few
 ·rw[e (64*k) 64 (by omega),hh.slot k h1 h2];exact isSlot_slotB (hh.may k h1 h2)
theorem SoundV.good{V:List UInt8}(h:SoundV V)(hl:V.length=23168):∃M,Good V M∧(M.ino 1).k=2:=by
 classical
 have H:∀i,∃y:Ino,(1≤i∧i≤32)→(y.Shape∧mayI y=true∧part V (inoAt i) 64=inoB y):=fun i=>by
  by_cases e:1≤i∧i≤32
  ·obtain⟨y,hy⟩:=h.ino i e.1 e.2;exact⟨y,fun _=>hy⟩
  ·exact⟨noIno,fun h=>absurd h e⟩
 refine⟨⟨fun i=>Classical.choose (H i),part V 576 16,fun n=>part V (blkAt n) 64,part V 0 576,part V 6784 8192⟩,⟨hl,fun i h1 h2=> ?_,fun i h1 h2=> ?_,fun i h1 h2=> ?_,part_length (by omega),rfl,fun n n1 n2=>part_length (by unfold blkAt;omega),fun _ _ _=>rfl,rfl,rfl⟩,?_⟩
 ·exact(Classical.choose_spec (H i) ⟨h1,h2⟩).1
 ·exact(Classical.choose_spec (H i) ⟨h1,h2⟩).2.1
 ·exact(Classical.choose_spec (H i) ⟨h1,h2⟩).2.2
 ·show(Classical.choose (H 1)).k=2
  obtain⟨c1,c2,c3⟩:=Classical.choose_spec (H 1) ⟨by omega,by omega⟩;obtain⟨y,y1,y2,y3,y4⟩:=h.root;exact inoB_k c1 y1 c2 y2 (c3.symm.trans y3) y4
end Gd
section
open Go.Shelf
def Mst[zc](S:List UInt8)(K:Nat)(w a:World)(Ls:List (Nat×Obj)):Prop:=
 ∃sb lb ab n,zH a zc.no sb lb ab n S K∧(w.heap.size≤zc.no∧w.heap.size≤sb∧w.heap.size≤lb∧w.heap.size≤ab)∧Below w.heap.size w a∧∀p∈Ls,w.heap.size≤p.1∧p.1≠zc.no∧¬zL sb lb ab p.1∧a.heap[p.1]? =some p.2
theorem Qt{w:World}{m sb lb ab n K k:Nat}{S:List UInt8}(h:zH w m sb lb ab n S K)(hk:zL sb lb ab k):k<w.heap.size:=h.lts k (Or.inr hk)
section
variable {K:Nat} {S:List UInt8} {w a b:World} {Ls:List (Nat×Obj)}
theorem Mst.belowW[zc](h:Mst S K w a Ls):Below w.heap.size w a:=by
 obtain⟨sb,lb,ab,n,h1,h2,h3,h4⟩:=h;exact h3
theorem Mst.size[zc](h:Mst S K w a Ls):w.heap.size≤a.heap.size:=h.belowW.size
theorem Mst.get[zc](h:Mst S K w a Ls){k:Nat}{o:Obj}(hk:(k,o)∈Ls):a.heap[k]? =some o:=by
 obtain⟨sb,lb,ab,n,h1,h2,h3,h4⟩:=h;exact(h4 _ hk).2.2.2
theorem Mst.below[zc](h:Mst S K w a Ls)(hb:Below a.heap.size a b):Mst S K w b Ls:=by
 have hs:=h.size;obtain⟨sb,lb,ab,n,h1,h2,h3,h4⟩:=h;refine⟨sb,lb,ab,n,h1.keep fun k hk=>hb.block k (h1.lts k hk),h2,h3.trans (hb.mono hs),fun p hp=>⟨(h4 p hp).1,(h4 p hp).2.1,(h4 p hp).2.2.1,?_⟩⟩;exact(hb.block p.1 (za (h4 p hp).2.2.2)).trans (h4 p hp).2.2.2
theorem Mst.new[zc](h:Mst S K w a Ls)(hb:Below a.heap.size a b){k:Nat}{o:Obj}(hk:a.heap.size≤k)(ho:b.heap[k]? =some o):Mst S K w b ((k,o)::Ls):=by
 have hs:=h.size;obtain⟨sb,lb,ab,n,h1,h2,h3,h4⟩:=h.below hb;obtain⟨sb',lb',ab',n',h1',-⟩:=h;have hm:zc.no<a.heap.size:=za h1'.objE.choose_spec;refine⟨sb,lb,ab,n,h1,h2,h3,fun p hp=> ?_⟩;rcases List.mem_cons.1 hp with rfl|hp
 ·refine⟨Nat.le_trans hs hk,fun e=> ?_,fun e=> ?_,ho⟩
  ·dsimp only at e;omega
  ·obtain⟨c1,e1⟩:=h1'.objE;obtain⟨c2,e2⟩:=h1.objE;rw[hb.block _ hm,e1]at e2;have e3:=(Obj.cells.inj (Option.some.inj e2)).1;have l:=fun q hq=>Qt h1' (k:=q) hq;have s1:sb'=sb:=by injection e3 with e3;injection e3 with e3 e4;injection e3 with e3;injection e3 with e3;injection e3
   have s2:lb'=lb:=by injection e3 with e3;injection e3 with e3 e4;injection e4 with e4 e5;injection e4 with e4;injection e4 with e4;injection e4
   have s3:ab'=ab:=by injection e3 with e3;injection e3 with e3 e4;injection e4 with e4 e5;injection e5 with e5 e6;injection e5 with e5;injection e5
   subst s1;subst s2;subst s3;exact absurd (l _ e) (Nat.not_lt.2 hk)
 ·exact h4 p hp
theorem Mst.less[zc]{Ls':List (Nat×Obj)}(h:Mst S K w a Ls)(hL:∀p∈Ls',p∈Ls):Mst S K w a Ls':=by
 obtain⟨sb,lb,ab,n,h1,h2,h3,h4⟩:=h;exact⟨sb,lb,ab,n,h1,h2,h3,fun p hp=>h4 p (hL p hp)⟩
theorem Mst.alloc[zc](h:Mst S K w a Ls)(C:Array Value)(ty:TypeId):Mst S K w (a.alloc (.cells C ty)) ((a.heap.size,.cells C ty (0,0))::Ls):=
 h.new ((Below.refl _ _).alloc (Nat.le_refl _) _) (Nat.le_refl _) (heap_alloc_new _ _)
theorem Mst.open[zc](h:Mst S K w a Ls):∃sb lb ab n,zH a zc.no sb lb ab n S K∧(∀k,k<w.heap.size→¬zL sb lb ab k)∧(∀p∈Ls,¬zL sb lb ab p.1)∧∀(S2:List UInt8) (K2:Nat) (b:World),zH b zc.no sb lb ab n S2 K2→zi (zL sb lb ab) a b→Mst S2 K2 w b Ls:=by
 obtain⟨sb,lb,ab,n,h1,h2,h3,h4⟩:=h;have low:∀k,k<w.heap.size→¬zL sb lb ab k:=by
  rintro k hk (e|e|e)<;>omega
 refine⟨sb,lb,ab,n,h1,low,fun p hp=>(h4 p hp).2.2.1,fun S2 K2 b hM hO=>⟨sb,lb,ab,n,hM,h2,h3.trans (hO.below h3.size low),fun p hp=> ?_⟩⟩;obtain⟨q1,q2,q3,q4⟩:=h4 p hp;exact⟨q1,q2,q3,(hO.block p.1 (za q4) q3).trans q4⟩
theorem Mst.memF[zc](h:Mst S K w a Ls):xX zc.no S K a fun k=>w.heap.size≤k:=by
 obtain⟨sb,lb,ab,n,h1,h2,h3,h4⟩:=h;exact⟨sb,lb,ab,n,h1,h2⟩
theorem Mst.more[zc]{L:Nat}(h:Mst S K w a Ls)(hK:K≤L):Mst S L w a Ls:=by
 obtain⟨sb,lb,ab,n,h1,h2,h3,h4⟩:=h;exact⟨sb,lb,ab,n,h1.more hK,h2,h3,h4⟩
theorem Mst.turn[zc](h:Mst S K w a Ls){k:Nat}{o o2:Obj}(hk:(k,o)∈Ls)(hO:zi (fun q=>q=k) a b)(ho:b.heap[k]? =some o2)(Ls':List (Nat×Obj))(hL:∀p∈Ls',p=(k,o2)∨(p∈Ls∧p.1≠k)):Mst S K w b Ls':=by
 obtain⟨sb,lb,ab,n,h1,h2,h3,h4⟩:=h;obtain⟨e1,e2,e3,e4⟩:=h4 _ hk;dsimp only at e1 e2 e3 e4;refine⟨sb,lb,ab,n,h1.keep fun q hq=>hO.block q (h1.lts q hq) ?_,h2,h3.trans (hO.below h3.size fun q hq e=>by omega),fun p hp=> ?_⟩
 ·rintro rfl;rcases hq with e|e
  ·exact e2 e
  ·exact e3 e
 rcases hL p hp with rfl|⟨hp,hne⟩
 ·exact⟨e1,e2,e3,ho⟩
 ·obtain⟨q1,q2,q3,q4⟩:=h4 p hp;exact⟨q1,q2,q3,(hO.block _ (za q4) hne).trans q4⟩
theorem Mst.set[zc](h:Mst S K w a Ls){k j:Nat}{C:Array Value}{ty:TypeId}{v:Value}(hk:(k,Obj.cells C ty (0,0))∈Ls)(Ls':List (Nat×Obj))(hL:∀p∈Ls',p=(k,Obj.cells (C.setIfInBounds j v) ty (0,0))∨(p∈Ls∧p.1≠k)):
 Mst S K w (a.setCell ⟨k,j,none⟩ v) Ls':=
 h.turn hk (zq a _ _ rfl) (heap_setCell_same a k j C ty v (h.get hk)) Ls' hL
end
theorem Tl.mst[zc]{x t c K:Nat}{S:List UInt8}{M:Gd.Vol}{w a:World}{Ls:List (Nat×Obj)}(h:Tl x t S M c K Nof w a Ls):Mst S K w a Ls:=by
 have hB:=h.belowW;obtain⟨F',h1,h2⟩:=h;obtain⟨P,hm,-⟩:=h1.inv;obtain⟨m,g,pv,⟨sb,lb,ab,n,hM,f1,f2,f3,f4⟩,-,-,-,-,-,-,hn⟩:=hm.txn;subst hn;have low:∀k,F' k→w.heap.size≤k:=fun k hk=>Nat.not_lt.1 fun e=>h1.old k e hk;refine⟨sb,lb,ab,n,hM,⟨low _ f1.1,low _ f2.1,low _ f3.1,low _ f4.1⟩,hB,fun p hp=> ?_⟩;obtain⟨q1,q2,q3⟩:=h2 p hp;refine⟨q1,fun e=>q2 (e▸f1.1),?_,q3⟩;rintro(e|e|e)
 ·exact q2 (e▸f2.1)
 ·exact q2 (e▸f3.1)
 ·exact q2 (e▸f4.1)
def qP(t x f:Nat):Obj:= .cells #[.pointer (some ⟨t,0,none⟩),.pointer (some ⟨x,0,none⟩),.pointer (some ⟨f,0,none⟩)] 79 (0,0)
def j5(t x:Nat):Obj:= .cells #[.pointer (some ⟨t,0,none⟩),.pointer (some ⟨x,0,none⟩)] 182 (0,0)
def vX[zc]:Obj:= .cells #[.pointer (some ⟨zc.no,0,none⟩),.int .i64 2688,.int .i64 4096] 145 (0,0)
def Vp[zc](o x t f:Nat)(S:List UInt8)(P:List Gd.Pa)(c K:Nat)(w a:World)(Ls:List (Nat×Obj)):Prop:=
 ∃F',je (zY x t S P c K) Nof w F' a∧∀p∈(o,qP t x f)::(f,j5 t x)::Ls,w.heap.size≤p.1∧¬F' p.1∧a.heap[p.1]? =some p.2
section
variable {o x t f c K:Nat} {S:List UInt8} {P:List Gd.Pa} {M:Gd.Vol} {w a b:World} {Ls:List (Nat×Obj)}
theorem Vp.tl[zc](h:Vp o x t f S P c K w a Ls)(hG:Gd.Good (Gd.view S P) M):Tl x t S M c K Nof w a ((o,qP t x f)::(f,j5 t x)::Ls):=by
 obtain⟨F',h1,h2⟩:=h;exact⟨F',h1.mono fun hi=>⟨P,hi,hG⟩,h2⟩
theorem Vp.of[zc](h:Tl x t S M c K Nof w a ((o,qP t x f)::(f,j5 t x)::Ls)):∃P,Vp o x t f S P c K w a Ls∧Gd.Good (Gd.view S P) M:=by
 obtain⟨F',h1,h2⟩:=h;obtain⟨P,hi,hG⟩:=h1.inv;exact⟨P,⟨F',h1.mono fun _=>hi,h2⟩,hG⟩
theorem Vp.metaF[zc](h:Vp o x t f S P c K w a Ls):∃F',zY x t S P c K a F'∧(∀k,k<w.heap.size→¬F' k)∧(∀p∈(o,qP t x f)::(f,j5 t x)::Ls,¬F' p.1)∧∀(S2:List UInt8) (P2:List Gd.Pa) (d K2:Nat) (b:World) (F2:Nat→Prop),je (zY x t S2 P2 d K2) F' a F2 b→Vp o x t f S2 P2 d K2 w b Ls:=by
 obtain⟨F',h1,h2⟩:=h;refine⟨F',h1.inv,fun k hk e=>h1.old k hk e,fun p hp=>(h2 p hp).2.1,fun S2 P2 d K2 b F2 k2=>⟨F2,h1.trans k2,fun p hp=> ?_⟩⟩;obtain⟨q1,q2,q3⟩:=h2 p hp;obtain⟨o1,o2⟩:=k2.own (za q3) q2;exact⟨q1,o2,o1.trans q3⟩
theorem Vp.belowW[zc](h:Vp o x t f S P c K w a Ls):Below w.heap.size w a:=by
 obtain⟨F',h1,_⟩:=h;exact h1.only.below (Nat.le_refl _) fun _ _ e=>e
theorem Vp.size[zc](h:Vp o x t f S P c K w a Ls):w.heap.size≤a.heap.size:=h.belowW.size
theorem Vp.get[zc](h:Vp o x t f S P c K w a Ls){k:Nat}{o':Obj}(hk:(k,o')∈Ls):a.heap[k]? =some o':=by
 obtain⟨F',_,h2⟩:=h;exact(h2 _ (List.mem_cons_of_mem _ (List.mem_cons_of_mem _ hk))).2.2
theorem Vp.vol[zc](h:Vp o x t f S P c K w a Ls):jU a o t x f:=by
 obtain⟨F',_,h2⟩:=h;exact(h2 _ (List.mem_cons_self ..)).2.2
theorem Vp.below[zc](h:Vp o x t f S P c K w a Ls)(hb:Below a.heap.size a b):Vp o x t f S P c K w b Ls:=by
 obtain⟨F',h1,h2⟩:=h;refine⟨F',⟨h1.inv.below hb,h1.old,h1.only.trans (zg hb F') fun j hj e=>h1.old j hj e⟩,fun p hp=> ?_⟩;obtain⟨q1,q2,q3⟩:=h2 p hp;exact⟨q1,q2,(hb.block _ (za q3)).trans q3⟩
theorem Vp.new[zc](h:Vp o x t f S P c K w a Ls)(hb:Below a.heap.size a b){k:Nat}{o':Obj}(hk:a.heap.size≤k)(ho:b.heap[k]? =some o'):Vp o x t f S P c K w b ((k,o')::Ls):=by
 obtain⟨F',h1,h2⟩:=h;refine⟨F',⟨h1.inv.below hb,h1.old,h1.only.trans (zg hb F') fun j hj e=>h1.old j hj e⟩,fun p hp=> ?_⟩;have hn:w.heap.size≤k∧¬F' k∧b.heap[k]? =some o':=⟨Nat.le_trans h1.only.size hk,fun e=>by
  have:=h1.inv.tight _ e
  omega,ho⟩
 have hold:∀p∈(o,qP t x f)::(f,j5 t x)::Ls,w.heap.size≤p.1∧¬F' p.1∧b.heap[p.1]? =some p.2:=fun p hp=>by
  obtain⟨q1,q2,q3⟩:=h2 p hp;exact⟨q1,q2,(hb.block _ (za q3)).trans q3⟩
 rcases List.mem_cons.1 hp with rfl|hp
 ·exact hold _ (List.mem_cons_self ..)
 rcases List.mem_cons.1 hp with rfl|hp
 ·exact hold _ (List.mem_cons_of_mem _ (List.mem_cons_self ..))
 rcases List.mem_cons.1 hp with rfl|hp
 ·exact hn
 ·exact hold _ (List.mem_cons_of_mem _ (List.mem_cons_of_mem _ hp))
theorem Vp.less[zc]{Ls':List (Nat×Obj)}(h:Vp o x t f S P c K w a Ls)(hL:∀p∈Ls',p∈Ls):Vp o x t f S P c K w a Ls':=by
 obtain⟨F',h1,h2⟩:=h;refine⟨F',h1,fun p hp=>h2 p ?_⟩;rcases List.mem_cons.1 hp with rfl|hp
 ·exact List.mem_cons_self ..
 rcases List.mem_cons.1 hp with rfl|hp
 ·exact List.mem_cons_of_mem _ (List.mem_cons_self ..)
 ·exact List.mem_cons_of_mem _ (List.mem_cons_of_mem _ (hL p hp))
theorem Vp.alloc[zc](h:Vp o x t f S P c K w a Ls)(C:Array Value)(ty:TypeId):Vp o x t f S P c K w (a.alloc (.cells C ty)) ((a.heap.size,.cells C ty (0,0))::Ls):=
 h.new ((Below.refl _ _).alloc (Nat.le_refl _) _) (Nat.le_refl _) (heap_alloc_new _ _)
theorem Vp.next[zc]{S2:List UInt8}{P2:List Gd.Pa}{d K2:Nat}{F1 F2:Nat→Prop}(h1:je (zY x t S P c K) Nof w F1 a)(h2:∀p∈(o,qP t x f)::(f,j5 t x)::Ls,w.heap.size≤p.1∧¬F1 p.1∧a.heap[p.1]? =some p.2)(k2:je (zY x t S2 P2 d K2) F1 a F2 b):Vp o x t f S2 P2 d K2 w b Ls:=by
 refine⟨F2,h1.trans k2,fun p hp=> ?_⟩;obtain⟨q1,q2,q3⟩:=h2 p hp;obtain⟨o1,o2⟩:=k2.own (za q3) q2;exact⟨q1,o2,o1.trans q3⟩
theorem Vp.mst[zc](h:Vp o x t f S P c K w a Ls):Mst S K w a Ls:=by
 have hB:=h.belowW;obtain⟨F',h1,h2⟩:=h;have hm:=h1.inv;obtain⟨m,g,pv,⟨sb,lb,ab,n,hM,f1,f2,f3,f4⟩,-,-,-,-,-,-,hn⟩:=hm.txn;subst hn;have low:∀k,F' k→w.heap.size≤k:=fun k hk=>Nat.not_lt.1 fun e=>h1.old k e hk;refine⟨sb,lb,ab,n,hM,⟨low _ f1.1,low _ f2.1,low _ f3.1,low _ f4.1⟩,hB,fun p hp=> ?_⟩;obtain⟨q1,q2,q3⟩:=h2 p (List.mem_cons_of_mem _ (List.mem_cons_of_mem _ hp));refine⟨q1,fun e=>q2 (e▸f1.1),?_,q3⟩;rintro(e|e|e)
 ·exact q2 (e▸f2.1)
 ·exact q2 (e▸f3.1)
 ·exact q2 (e▸f4.1)
end
end
end Go.Proofs.YtccpdkjonepoiaaGreatDoor
