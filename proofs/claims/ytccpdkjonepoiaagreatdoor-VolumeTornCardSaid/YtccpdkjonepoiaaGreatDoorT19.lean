/- Walks: slots.Put of what may not be. -/
import Derived.Test.YtccpdkjonepoiaaGreatDoorT18
set_option linter.unusedVariables false
set_option linter.unusedSimpArgs false
set_option linter.unusedSectionVars false
set_option maxHeartbeats 8000000
set_option maxRecDepth 100000
namespace Go.Proofs.YtccpdkjonepoiaaGreatDoor
open Go.RowKit
open Lib(hid)
open Go.Proofs.Tryz
section
attribute [local go_sem] Oper.semAt_some
theorem ZL(n m:Nat)(hn:m<n)(w:World):Calls prog 112 #[.int .i64 n,.int .i64 m] w fun e w'=>e= .returned (.bool false)∧w'=w:=by
 have h1:¬(n:Int)≤m:=by omega
 have h2:(0:Int)≤n:=by omega
 go_enter func112,ntmps112;go_wp2;go_ret
 exact⟨rfl,rfl⟩
theorem ZY(n:Nat)(hn:1152921504606846976<n)(w:World):Calls prog 65 #[.int .i64 n] w fun e w'=>e= .returned (.tuple #[.slice none 0 0,.int .i64 1])∧w'=w:=by
 have HI:Hid (∀W,Calls prog 112 #[.int .i64 n,.int .i64 1152921504606846976] W fun e w'=>e= .returned (.bool false)∧w'=W):=hid (ZL n 1152921504606846976 hn);clear hn;go_enter func65,ntmps65;go_wp2_with(go_at_call 112;with_reducible refine(HI.o _).mono ?_;rintro e w2 ⟨rfl,rfl⟩)
 go_ret2
 exact⟨rfl,rfl⟩
theorem qC(n m:Nat)(w:World):Calls prog 112 #[.int .i64 n,.int .i64 m] w fun e w'=>e= .returned (.bool (decide (n≤m)))∧w'=w:=by
 by_cases h:n≤m
 ·rw[decide_eq_true h];exact qg n m h w
 ·rw[decide_eq_false h];exact ZL n m (by omega) w
theorem vH(a b:Bool):a=false∨(a=true∧b=false)∨(a=true∧b=true):=by cases a<;>cases b<;>simp
theorem ZX(s:Gd.Slot)(hs:¬s.May)(w:World):Calls prog 62 #[zO s] w fun e w'=>e= .returned (.tuple #[.slice none 0 0,.int .i64 1])∧Below w.heap.size w w':=by
 obtain⟨wb,hwb⟩:=nm (w.alloc (.cells (zm s) 48));have hbb:Below w.heap.size w wb:=by rw[hwb];exact(Below.refl _ _).alloc (Nat.le_refl _) _
 have hbc:wb.heap[w.heap.size]? =some (.cells (zm s) 48 (0,0)):=by rw[hwb];exact heap_alloc_new _ _
 obtain⟨b,hbe⟩:=nm w.heap.size;rw[←hbe]at hbc;obtain⟨e,h,r,ke,ki,w0⟩:=s;obtain⟨qe,hqe⟩:=nm (decide (e≤1073741824));obtain⟨qh,hqh⟩:=nm (decide (h≤1024));obtain⟨qr,hqr⟩:=nm (decide (r≤1099511627776));obtain⟨qke,hqke⟩:=nm (decide (ke≤255));obtain⟨qki,hqki⟩:=nm (decide (ki≤32));obtain⟨qw,hqw⟩:=nm (decide (w0≤1099511627776));have hno:(qe&&qh&&qr&&qw&&qke&&qki)=false:=by
  rw[Bool.eq_false_iff];intro hh;simp only[Bool.and_eq_true,hqe,hqh,hqr,hqw,hqke,hqki,decide_eq_true_eq]at hh;obtain⟨⟨⟨⟨⟨h1,h2⟩,h3⟩,h4⟩,h5⟩,h6⟩:=hh;exact hs ⟨h1,h2,h3,h5,h6,h4⟩
 have HIe:Hid (∀W,Calls prog 112 #[.int .i64 e,.int .i64 1073741824] W fun e w'=>e= .returned (.bool qe)∧w'=W):=hid (by rw[hqe];exact qC e 1073741824);have HIh:Hid (∀W,Calls prog 112 #[.int .i64 h,.int .i64 1024] W fun e w'=>e= .returned (.bool qh)∧w'=W):=hid (by rw[hqh];exact qC h 1024);have HIr:Hid (∀W,Calls prog 112 #[.int .i64 r,.int .i64 1099511627776] W fun e w'=>e= .returned (.bool qr)∧w'=W):=hid (by rw[hqr];exact qC r 1099511627776);have HIke:Hid (∀W,Calls prog 112 #[.int .i64 ke,.int .i64 255] W fun e w'=>e= .returned (.bool qke)∧w'=W):=hid (by rw[hqke];exact qC ke 255);have HIki:Hid (∀W,Calls prog 112 #[.int .i64 ki,.int .i64 32] W fun e w'=>e= .returned (.bool qki)∧w'=W):=hid (by rw[hqki];exact qC ki 32)
 have HIw:Hid (∀W,Calls prog 112 #[.int .i64 w0,.int .i64 1099511627776] W fun e w'=>e= .returned (.bool qw)∧w'=W):=hid (by rw[hqw];exact qC w0 1099511627776);have Hbe:=hid hbe.symm;have HBb:=hid hbb;have HWb:=hid hwb;have hcc:=j7 hbc;unfold zm at HWb;dsimp only at hcc HWb;obtain⟨c0,c1,c2,c3,c4,c5⟩:=hcc;unfold zO zm;clear hbe hbb hwb hbc hs hqe hqh hqr hqke hqki hqw;rcases vH qr qw with rfl|⟨rfl,rfl⟩|⟨rfl,rfl⟩<;>rcases vH qke qki with rfl|⟨rfl,rfl⟩|⟨rfl,rfl⟩<;>rcases vH qe qh with rfl|⟨rfl,rfl⟩|⟨rfl,rfl⟩
 all_goals first|(exact absurd hno (by decide))|skip
 all_goals
  clear hno;go_enter func62,ntmps62;go_upto_region 1 with fail
  rw[←HWb.o,Hbe.o];go_wp2_with(first|(go_at_call 112;with_reducible refine(HIe.o _).mono ?_;rintro e w2 ⟨rfl,rfl⟩)|(go_at_call 112;with_reducible refine(HIh.o _).mono ?_;rintro e w2 ⟨rfl,rfl⟩)|(go_at_call 112;with_reducible refine(HIr.o _).mono ?_;rintro e w2 ⟨rfl,rfl⟩)|(go_at_call 112;with_reducible refine(HIke.o _).mono ?_;rintro e w2 ⟨rfl,rfl⟩)|(go_at_call 112;with_reducible refine(HIki.o _).mono ?_;rintro e w2 ⟨rfl,rfl⟩)|(go_at_call 112;with_reducible refine(HIw.o _).mono ?_;rintro e w2 ⟨rfl,rfl⟩))
  (first|go_ret|go_ret2)
  exact⟨rfl,HBb.o⟩
end
section
attribute [local go_sem] Oper.semAt_some
theorem vW(b c:Nat)(L:List UInt8)(hlen:L.length=64)(hc:64≤c)(w:World)(hb:b<w.heap.size)(hcell:∀(j:Nat) (x:UInt8),L[j]? =some x→w.cell? ⟨b,j,none⟩=some (.int .u8 x.toNat)):
 Calls prog 106 #[.slice (some ⟨b,0,none⟩) 64 c] w fun e w'=>Below w.heap.size w w'∧((Gd.get L 60 4=Gd.crc (L.take 60)∧e= .returned (.tuple #[.slice (some ⟨b,0,none⟩) 64 c,.int .i64 0]))∨(Gd.get L 60 4≠Gd.crc (L.take 60)∧∃E:Int,E≠0∧e= .returned (.tuple #[.slice none 0 0,.int .i64 E]))):=by
 have hby64:=jh (c:=c) hb hcell 64 (by omega);rw[List.take_of_length_le (by omega)]at hby64;obtain⟨cc,hcc⟩:=nm (Gd.crc (L.take 60));have hcl:cc<4294967296:=by rw[hcc];exact Gd.crc_lt _
 obtain⟨g1,hg1⟩:=nm (Gd.get L 60 4);have HG1:Hid (Calls prog 103 #[.slice (some ⟨b,0,none⟩) 64 c,.int .i64 60,.int .i64 4] w fun e w'=>e= .returned (.tuple #[.int .i64 g1,.bool (Gd.getB L 60 4)])∧w'=w):=hid (by
  have:=jp (.slice (some ⟨b,0,none⟩) 64 c) L 60 4 (Or.inr (Or.inr (Or.inl rfl))) (zu (n:=60) (by omega)) w hby64 (by omega)
  rw[←hg1]at this;exact this)
 have HCr:=hid (qf (.slice (some ⟨b,0,none⟩) 60 c) (L.take 60) w (jh (c:=c) hb hcell 60 (by omega)) (by rw[List.length_take];omega));rw[←hcc]at HCr;rw[←hcc,←hg1];have hc2:(cc:Int)<4294967296:=by omega
 have hc64:(64:Int)≤c:=by omega
 have hc60:(60:Int)≤c:=by omega
 clear hcc hg1 hby64 hcell hb hlen;go_enter func106,ntmps106;go_wp2_with fail
 refine HG1.o.mono ?_;rintro e w2 ⟨rfl,rfl⟩;clear HG1;go_wp2_with fail
 refine HCr.o.mono ?_;rintro e w3 ⟨rfl,hb3⟩;have HB3:=hid hb3;clear hb3 HCr;by_cases hgc:¬g1=cc
 ·have hsb:(g1 !=(cc:Int))=true:=by simp[hgc]
  have Hgc:=hid hgc;clear hgc;go_wp2;go_ret2
  exact⟨HB3.o,Or.inr ⟨Hgc.o,_,by decide,rfl⟩⟩
 ·obtain rfl:g1=cc:=Classical.not_not.1 hgc
  clear hgc;go_wp2;go_ret2
  refine⟨HB3.o,?_⟩;first|exact Or.inl ⟨rfl,rfl⟩|rfl|exact⟨rfl,rfl⟩
theorem yD(L:List UInt8)(hlen:L.length=64)(v:Value)(B0:Nat)(w:World)(hv:zA w B0 v L):
 Calls prog 75 #[v] w fun e w'=>Below w.heap.size w w'∧((Gd.isHead L∧e= .returned (.tuple #[.int .i64 (Gd.get L 8 8),.int .i64 0]))∨(¬Gd.isHead L∧∃E:Int,E≠0∧e= .returned (.tuple #[.int .i64 0,.int .i64 E]))):=by
 obtain⟨b,c,rfl,hlc,-,hbl,hcell⟩:=hv.lies (by intro e;rw[e]at hlen;simp at hlen);rw[hlen]at hlc⊢;have HO:=hid (vW b c L hlen hlc w hbl hcell);have hby64:=jh (c:=c) hbl hcell 64 (by omega);rw[List.take_of_length_le (by omega)]at hby64;obtain⟨n,hn⟩:∃n:Nat,(n:Int)=Gd.get L 8 8:=⟨(Gd.get L 8 8).toNat,Int.toNat_of_nonneg (Gd.get_ge L 8 8)⟩;have hn2:(Gd.get L 8 8).toNat=n:=by rw[←hn];rfl
 have HG2:Hid (∀W,Below w.heap.size w W→Calls prog 103 #[.slice (some ⟨b,0,none⟩) 64 c,.int .i64 8,.int .i64 8] W fun e w'=>e= .returned (.tuple #[.int .i64 n,.bool (Gd.getB L 8 8)])∧w'=W):=hid fun W hW=>by
  have:=jp (.slice (some ⟨b,0,none⟩) 64 c) L 8 8 (Or.inr (Or.inr (Or.inr rfl))) (zu (n:=8) (by omega)) W (hby64.keep hW) (by omega)
  rw[←hn]at this;exact this
 have HBy:=hid hby64;have HS:Hid (Gd.isHead L→Gd.get L 60 4=Gd.crc (L.take 60)):=hid fun h=>by
  rw[h.2];exact Gd.headB_sum _
 have HH:Hid (Gd.isHead L↔(n≤1152921504606846976∧Gd.headB n=L)):=hid (by
  unfold Gd.isHead;rw[hn2,←hn];exact⟨fun h=>⟨by omega,h.2.symm⟩,fun h=>⟨by omega,h.2.symm⟩⟩)
 rw[←hn];clear hn hn2 hby64 hv hbl hcell hlen hlc;go_enter func75,ntmps75;go_wp2_with fail
 refine HO.o.mono ?_;rintro e w1 ⟨hb1,hor⟩;have HB1:=hid hb1;clear hb1 HO;rcases hor with⟨hsum,rfl⟩|⟨hsum,E,hE,rfl⟩
 ·clear hsum;go_wp2_with fail
  refine(HG2.o w1 HB1.o).mono ?_
  rintro e w2 ⟨rfl,rfl⟩;clear HG2;by_cases hle:n≤1152921504606846976
  ·have HPu:=hid (xD n hle w2);have Hle:=hid hle;clear hle;go_wp2_with fail
   refine HPu.o.mono ?_;rintro e w3 ⟨v3,rfl,ho3,hb3⟩;have HEq:=hid (jS v3 (.slice (some ⟨b,0,none⟩) 64 c) (Gd.headB n) L w3 ho3.at_ (HBy.o.keep (HB1.o.trans (hb3.mono HB1.o.size))));have HB3:=HB1.t hb3;clear ho3 hb3 HPu;by_cases he:Gd.headB n=L
   ·rw[decide_eq_true he]at HEq;have He:=hid he;clear he;go_wp2_with(go_at_call 102;with_reducible refine HEq.o.mono ?_;rintro e w4 ⟨rfl,rfl⟩)
    go_ret2
    exact⟨HB3.o,Or.inl ⟨HH.o.2 ⟨Hle.o,He.o⟩,rfl⟩⟩
   ·rw[decide_eq_false he]at HEq;have He:=hid he;clear he;go_wp2_with(go_at_call 102;with_reducible refine HEq.o.mono ?_;rintro e w4 ⟨rfl,rfl⟩)
    go_ret2
    exact⟨HB3.o,Or.inr ⟨fun h=>He.o (HH.o.1 h).2,_,by decide,rfl⟩⟩
  ·have HPu:=hid (ZY n (by omega) w2);have Hle:=hid hle;clear hle;go_wp2_with fail
   refine HPu.o.mono ?_;rintro e w3 ⟨rfl,rfl⟩;clear HPu;go_wp2;go_ret2
   exact⟨HB1.o,Or.inr ⟨fun h=>Hle.o (HH.o.1 h).1,_,by decide,rfl⟩⟩
 ·have Hs:=hid hsum;have hE1:¬E=0:=hE;have hsb:(E !=0)=true:=by simp[hE1]
  have HE:=hid hE;clear hE hsum hE1;go_wp2;go_ret2
  exact⟨HB1.o,Or.inr ⟨fun h=>Hs.o (HS.o h),E,HE.o,rfl⟩⟩
end
end Go.Proofs.YtccpdkjonepoiaaGreatDoor
