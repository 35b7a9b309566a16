/- Walks: a volume's slots, where they are refused. -/
import Derived.Test.YtccpdkjonepoiaaGreatDoorS29
set_option linter.unusedVariables false
set_option linter.unusedSimpArgs false
set_option linter.unusedSectionVars false
set_option maxHeartbeats 8000000
set_option maxRecDepth 100000
namespace Go.Proofs.YtccpdkjonepoiaaGreatDoor
open Go.RowKit
open Lib(hid)
open Go.Proofs.Tryz
section
open Go.Shelf
attribute [local go_sem] Oper.semAt_some
theorem X1(z:Int)(m:Nat)(hz:z<0)(w:World):Calls prog 112 #[.int .i64 z,.int .i64 m] w fun e w'=>e= .returned (.bool false)∧w'=w:=by
 have h2:¬(0:Int)≤z:=by omega
 clear hz;go_enter func112,ntmps112;go_wp2;go_ret
 exact⟨rfl,rfl⟩
theorem qV(z:Int)(m:Nat)(w:World):Calls prog 112 #[.int .i64 z,.int .i64 m] w fun e w'=>e= .returned (.bool (decide (0≤z∧z≤m)))∧w'=w:=by
 by_cases h0:0≤z
 ·obtain⟨n,rfl⟩:∃n:Nat,z=n:=⟨z.toNat,by omega⟩;rw[show decide (0≤(n:Int)∧(n:Int)≤m)=decide (n≤m) from decide_eq_decide.2 ⟨fun h=>by omega,fun h=>by omega⟩];exact qC n m w
 ·rw[decide_eq_false fun h=>h0 h.1];exact X1 z m (by omega) w
theorem ZW(e h r ke ki w0:Int)(hs:jE e h r ke ki w0=false)(w:World):Calls prog 62 #[.agg (jr e h r ke ki w0)] w fun e w'=>e= .returned (.tuple #[.slice none 0 0,.int .i64 1])∧Below w.heap.size w w':=by
 obtain⟨wb,hwb⟩:=nm (w.alloc (.cells (jr e h r ke ki w0) 48));have hbb:Below w.heap.size w wb:=by rw[hwb];exact(Below.refl _ _).alloc (Nat.le_refl _) _
 have hbc:wb.heap[w.heap.size]? =some (.cells (jr e h r ke ki w0) 48 (0,0)):=by rw[hwb];exact heap_alloc_new _ _
 obtain⟨b,hbe⟩:=nm w.heap.size;rw[←hbe]at hbc;obtain⟨qe,hqe⟩:=nm (decide (0≤e∧e≤1073741824));obtain⟨qh,hqh⟩:=nm (decide (0≤h∧h≤1024));obtain⟨qr,hqr⟩:=nm (decide (0≤r∧r≤1099511627776));obtain⟨qke,hqke⟩:=nm (decide (0≤ke∧ke≤255));obtain⟨qki,hqki⟩:=nm (decide (0≤ki∧ki≤32));obtain⟨qw,hqw⟩:=nm (decide (0≤w0∧w0≤1099511627776));have hno:(qe&&qh&&qr&&qw&&qke&&qki)=false:=by
  rw[Bool.eq_false_iff];intro hh;simp only[Bool.and_eq_true,hqe,hqh,hqr,hqw,hqke,hqki,decide_eq_true_eq]at hh;obtain⟨⟨⟨⟨⟨⟨h1,h1b⟩,⟨h2,h2b⟩⟩,⟨h3,h3b⟩⟩,⟨h4,h4b⟩⟩,⟨h5,h5b⟩⟩,⟨h6,h6b⟩⟩:=hh;have:jE e h r ke ki w0=true:=by
   unfold jE;simp only[Bool.and_eq_true,decide_eq_true_eq];exact⟨⟨⟨⟨⟨⟨⟨⟨⟨⟨⟨h1,h1b⟩,h2⟩,h2b⟩,h3⟩,h3b⟩,h4⟩,h4b⟩,h5⟩,h5b⟩,h6⟩,h6b⟩
  rw[hs]at this
  cases this
 have HIe:Hid (∀W,Calls prog 112 #[.int .i64 e,.int .i64 1073741824] W fun e w'=>e= .returned (.bool qe)∧w'=W):=hid (by rw[hqe];exact qV e 1073741824);have HIh:Hid (∀W,Calls prog 112 #[.int .i64 h,.int .i64 1024] W fun e w'=>e= .returned (.bool qh)∧w'=W):=hid (by rw[hqh];exact qV h 1024);have HIr:Hid (∀W,Calls prog 112 #[.int .i64 r,.int .i64 1099511627776] W fun e w'=>e= .returned (.bool qr)∧w'=W):=hid (by rw[hqr];exact qV r 1099511627776);have HIke:Hid (∀W,Calls prog 112 #[.int .i64 ke,.int .i64 255] W fun e w'=>e= .returned (.bool qke)∧w'=W):=hid (by rw[hqke];exact qV ke 255);have HIki:Hid (∀W,Calls prog 112 #[.int .i64 ki,.int .i64 32] W fun e w'=>e= .returned (.bool qki)∧w'=W):=hid (by rw[hqki];exact qV ki 32)
 have HIw:Hid (∀W,Calls prog 112 #[.int .i64 w0,.int .i64 1099511627776] W fun e w'=>e= .returned (.bool qw)∧w'=W):=hid (by rw[hqw];exact qV w0 1099511627776);have Hbe:=hid hbe.symm;have HBb:=hid hbb;have HWb:=hid hwb;unfold jr at hbc;have c0:=cell_of_row wb b 0 _ _ _ hbc;have c1:=cell_of_row wb b 1 _ _ _ hbc;have c2:=cell_of_row wb b 2 _ _ _ hbc;have c3:=cell_of_row wb b 3 _ _ _ hbc;have c4:=cell_of_row wb b 4 _ _ _ hbc;have c5:=cell_of_row wb b 5 _ _ _ hbc;unfold jr at HWb⊢;clear hbe hbb hwb hbc hs hqe hqh hqr hqke hqki hqw;rcases vH qr qw with rfl|⟨rfl,rfl⟩|⟨rfl,rfl⟩<;>rcases vH qke qki with rfl|⟨rfl,rfl⟩|⟨rfl,rfl⟩<;>rcases vH qe qh with rfl|⟨rfl,rfl⟩|⟨rfl,rfl⟩
 all_goals first|(exact absurd hno (by decide))|skip
 all_goals
  clear hno;go_enter func62,ntmps62;go_upto_region 1 with fail
  rw[←HWb.o,Hbe.o];go_wp2_with(first|(go_at_call 112;with_reducible refine(HIe.o _).mono ?_;rintro e w2 ⟨rfl,rfl⟩)|(go_at_call 112;with_reducible refine(HIh.o _).mono ?_;rintro e w2 ⟨rfl,rfl⟩)|(go_at_call 112;with_reducible refine(HIr.o _).mono ?_;rintro e w2 ⟨rfl,rfl⟩)|(go_at_call 112;with_reducible refine(HIke.o _).mono ?_;rintro e w2 ⟨rfl,rfl⟩)|(go_at_call 112;with_reducible refine(HIki.o _).mono ?_;rintro e w2 ⟨rfl,rfl⟩)|(go_at_call 112;with_reducible refine(HIw.o _).mono ?_;rintro e w2 ⟨rfl,rfl⟩))
  (first|go_ret|go_ret2)
  exact⟨rfl,HBb.o⟩
theorem Z2{k m:Int}(hk:k=2∨k=6)(h:¬(1≤m∧m≤8)):Gd.ptAt k m=none:=by
 rcases hk with rfl|rfl<;>simp[Gd.ptAt,Gd.partAt,h]
theorem QH{t:Nat}(k m:Int)(v:Value)(w:World)(hp:Gd.ptAt k m=none):
 Calls prog 63 #[.agg #[.pointer (some ⟨t,0,none⟩)],.int .i64 k,.int .i64 m,v] w fun e w'=>e= .returned (.int .i64 1)∧Below w.heap.size w w':=by
 obtain⟨w0,hw0⟩:=nm (w.alloc (.cells #[.pointer (some ⟨t,0,none⟩)] 76));have hb0:Below w.heap.size w w0:=by rw[hw0];exact(Below.refl _ _).alloc (Nat.le_refl _) _
 have HF:=hid (ju k m w0);rw[hp]at HF;have HB0:=hid hb0;have Hw0:=hid hw0.symm;clear hp hb0 hw0;go_enter func63,ntmps63;go_upto_region 1 with fail
 rw[Hw0.o];go_wp2_with fail
 refine HF.o.mono ?_;rintro e w1 ⟨rfl,hb1⟩;have HB1:=HB0.t hb1;unfold ptO;rw[show(none:Option Gd.Pt).isSome=false from rfl];clear hb1 HF;go_wp2_with fail
 go_ret
 exact⟨rfl,HB1.o.alloc HB1.o.size _⟩
theorem JE{t:Nat}(k m:Int)(w:World)(hp:Gd.ptAt k m=none):
 Calls prog 54 #[.agg #[.pointer (some ⟨t,0,none⟩)],.int .i64 k,.int .i64 m] w fun e w'=>e= .returned (.tuple #[.slice none 0 0,.int .i64 1])∧Below w.heap.size w w':=by
 obtain⟨w0,hw0⟩:=nm (w.alloc (.cells #[.pointer (some ⟨t,0,none⟩)] 76));have hb0:Below w.heap.size w w0:=by rw[hw0];exact(Below.refl _ _).alloc (Nat.le_refl _) _
 have HF:=hid (ju k m w0);rw[hp]at HF;have HB0:=hid hb0;have Hw0:=hid hw0.symm;clear hp hb0 hw0;go_enter func54,ntmps54;go_upto_region 1 with fail
 rw[Hw0.o];go_wp2_with fail
 refine HF.o.mono ?_;rintro e w1 ⟨rfl,hb1⟩;have HB1:=HB0.t hb1;unfold ptO;rw[show(none:Option Gd.Pt).isSome=false from rfl];clear hb1 HF;go_wp2_with fail
 go_ret2
 exact⟨rfl,HB1.o.alloc HB1.o.size _⟩
theorem ZC{o t x f:Nat}(m:Int)(w:World)(hv:jU w o t x f)(hm:¬(1≤m∧m≤8)):
 Calls prog 17 #[.pointer (some ⟨o,0,none⟩),.int .i64 m] w fun e w'=>e= .returned (.tuple #[zO ⟨0,0,0,0,0,0⟩,.int .i64 1])∧Below w.heap.size w w':=by
 obtain⟨w0,hw0⟩:=nm (w.alloc (.cells #[.int .i64 0,.int .i64 0,.int .i64 0,.int .i64 0,.int .i64 0,.int .i64 0] 48));have hb0:Below w.heap.size w w0:=by rw[hw0];exact(Below.refl _ _).alloc (Nat.le_refl _) _
 obtain⟨rb,hrb⟩:=nm w.heap.size;have hr0:w0.heap[rb]? =some (.cells (zm ⟨0,0,0,0,0,0⟩) 48 (0,0)):=by rw[hw0,hrb];exact heap_alloc_new _ _
 have HPa:=hid (JE (t:=t) 2 m w0 (Z2 (Or.inl rfl) hm));have hrow:=yu (show jU w0 o t x f from(hb0.block o (za hv)).trans hv);have HR0:=hid hr0;have HB0:=hid hb0;have Hw0:=hid hw0.symm;have Hrb:=hid hrb.symm;clear hv hm hw0 hb0 hr0 hrb;go_enter func17,ntmps17;go_upto_region 1 with fail
 rw[Hw0.o,Hrb.o];go_wp2_with(refine wpList_load_mid rfl 76 _ rfl o 0 rfl [.pointer (some ⟨t,0,none⟩)] _ hrow underlying76 rfl sizeStore ?_)
 refine HPa.o.mono ?_;rintro e w1 ⟨rfl,hb1⟩;have HB1:=HB0.t hb1;have HR1:=HR0.r hb1;clear hb1 HPa hrow;go_wp2_with(refine wpList_store_mid rfl 48 _ _ rfl rb 0 (zm ⟨0,0,0,0,0,0⟩) rfl rfl (zf HR1.o rfl) sizeSlot (jc _) ?_;obtain⟨hbw,hbg⟩:=zh HR1.o (vs:=(zm ⟨0,0,0,0,0,0⟩).toList) (B:=rb) rfl (Nat.le_refl rb);generalize (World.setCells _ _ _ _)=wf at hbw hbg⊢)
 refine bodyPost_ret (zk rfl _ _ rb 48 (zm ⟨0,0,0,0,0,0⟩) (0,0) _ rfl hbg underlying48 rfl sizeSlot) rfl ?_;exact⟨rfl,HB1.o.trans (by rw[Hrb.o];exact hbw)⟩
theorem yt{o t x f:Nat}(m:Int)(e h r ke ki w0:Int)(w:World)(hs:jE e h r ke ki w0=false):
 Calls prog 22 #[.pointer (some ⟨o,0,none⟩),.int .i64 m,.agg (jr e h r ke ki w0)] w fun e w'=>e= .returned (.int .i64 1)∧Below w.heap.size w w':=by
 obtain⟨hbb,hbc⟩:=zM w (jr e h r ke ki w0) 48;obtain⟨b,hbe⟩:=nm w.heap.size;obtain⟨wb,hwb⟩:=nm (w.alloc (.cells (jr e h r ke ki w0) 48));rw[←hwb,←hbe]at hbc;rw[←hwb]at hbb;have HPu:=hid (ZW e h r ke ki w0 hs wb);have Hbe:=hid hbe.symm;have HWb:=hid hwb.symm;have Hbc:=hid hbc;have HBb:=hid hbb;unfold jr at HWb;clear hbb hbe hwb hbc hs;go_enter func22,ntmps22;unfold jr;go_upto_region 1 with fail
 rw[HWb.o,Hbe.o];go_wp2_with(refine wpList_load_row rfl 48 _ rfl b rfl 48 (jr e h r ke ki w0) (0,0) _ Hbc.o underlying48 rfl sizeSlot ?_)
 refine HPu.o.mono ?_;rintro e w1 ⟨rfl,hb1⟩;have HB1:=HBb.t hb1;clear hb1 HPu;go_wp2_with fail
 go_ret
 exact⟨rfl,HB1.o⟩
theorem vi{o t x f:Nat}(m:Int)(s:Gd.Slot)(w:World)(hv:jU w o t x f)(hs:s.May)(hm:¬(1≤m∧m≤8)):
 Calls prog 22 #[.pointer (some ⟨o,0,none⟩),.int .i64 m,zO s] w fun e w'=>e= .returned (.int .i64 1)∧Below w.heap.size w w':=by
 obtain⟨hbb,hbc⟩:=zM w (zm s) 48;obtain⟨b,hbe⟩:=nm w.heap.size;obtain⟨wb,hwb⟩:=nm (w.alloc (.cells (zm s) 48));rw[←hwb,←hbe]at hbc;rw[←hwb]at hbb;have HPu:=hid (qN s hs wb);have hvb:jU wb o t x f:=(hbb.block o (za hv)).trans hv;have HV:=hid hvb;have Hbe:=hid hbe.symm;have HWb:=hid hwb.symm;have Hbc:=hid hbc;have HBb:=hid hbb;have HNo:=hid (fun(v:Value) (W:World)=>QH (t:=t) 2 m v W (Z2 (Or.inl rfl) hm));clear hbb hbe hwb hbc hs hv hvb hm;go_enter func22,ntmps22;unfold zO at*;go_upto_region 1 with fail
 rw[HWb.o,Hbe.o];go_wp2_with(refine wpList_load_row rfl 48 _ rfl b rfl 48 (zm s) (0,0) _ Hbc.o underlying48 rfl sizeSlot ?_)
 refine HPu.o.mono ?_;rintro e w1 ⟨v1,rfl,ho1,hb1⟩;have HB1:=HBb.t hb1;have hrow:=yu (show jU w1 o t x f from(hb1.block o (za HV.o)).trans HV.o);clear ho1 hb1 HPu;go_wp2_with(refine wpList_load_mid rfl 76 _ rfl o 0 rfl [.pointer (some ⟨t,0,none⟩)] _ hrow underlying76 rfl sizeStore ?_)
 refine(HNo.o v1 w1).mono ?_
 rintro e w2 ⟨rfl,hb2⟩;have HB2:=HB1.t hb2;clear hb2 hrow;go_wp2;go_ret
 exact⟨rfl,HB2.o⟩
end
section
open Go.Shelf
attribute [local go_sem] Oper.semAt_some
theorem V9{w:World}{B:Nat}{v:Value}{L:List UInt8}(h:zA w B v L)(h0:0<L.length):jD w v L:=by
 have hh:=h;rcases h.2 with⟨_,e⟩|⟨g,cap,cur,rfl,hB,hg,hn,hcap,hcs,hcur⟩
 ·omega
 ·refine⟨g,0,cap,rfl,hn,by unfold maxLen at hcap;omega,za hg,fun j x hj=> ?_⟩;have hjl:=(List.getElem?_eq_some_iff.1 hj).1;rw[Nat.zero_add];exact(hh.cellAt j (by rw[Nat.mul_one];exact hjl)).trans (jK hj)
theorem yz{w:World}{B B' e s n:Nat}{v:Value}{xs:List Value}(h:w.ownsRow B e s v n xs)(hB:B'≤B):w.ownsRow B' e s v n xs:=
 ⟨h.1,h.2.imp id fun⟨g,cap,cur,h1,h2,h3⟩=>⟨g,cap,cur,h1,Nat.le_trans hB h2,h3⟩⟩
theorem jx.base{B B':Nat}{w:World}{u v:Value}{l:List (Gd.Rec×Nat)}(h:jx B w u v l)(hB:B'≤B):jx B' w u v l:=⟨yz h.1 hB,yz h.2 hB⟩
theorem Yf{k:Nat}(h1:1≤k)(h2:k≤8):Gd.ptAt 6 (k:Int)=some ⟨6,k,6784+1024*(k-1),1024⟩:=by
 have:∀k:Fin 8,Gd.ptAt 6 ((k.val+1:Nat):Int)=some ⟨6,k.val+1,6784+1024*k.val,1024⟩:=by decide+kernel
 have h:=this ⟨k-1,by omega⟩;simp only[show k-1+1=k by omega]at h;exact h
section
variable {o x t f K n:Nat} {V:Gd.Vl} {w a b:World} {Ls:List (Nat×Obj)}
theorem Vs.scan[zc](h:Vs o x t f V K w a Ls)(hok:V.Ok)(c:Nat)(c1:1≤c)(c2:c≤8):
 Calls prog 77 #[.pointer (some ⟨o,0,none⟩),.int .i64 c] a fun e b=>∃u v,e= .returned (.tuple #[u,v])∧jx a.heap.size b u v (V.pend c)∧Below a.heap.size a b:=by
 obtain⟨S,M,hV,hF,hlg⟩:=h;have hlen:=hok.log c c1 c2;have hmay:=hok.may c c1 c2;have hpt:Gd.part (Gd.view S []) (6784+1024*(c-1)) 1024=V.lg c:=by
  rw[←hlg c c1 c2,←hV.2.1.logs,Gd.part_part (by omega)]
 have HSl:=hid (hV.1.slot c c1 c2 (hV.2.2.may c c1 c2) ((hV.at_ (by omega)).trans (hV.2.2.slot c c1 c2)));have HPa:Hid (∀W,Below a.heap.size a W→Calls prog 54 #[.agg #[.pointer (some ⟨t,0,none⟩)],.int .i64 6,.int .i64 c] W (qS W (V.lg c))):=hid fun W hW=>by
  obtain⟨F',hm,-⟩:=(hV.1.below hW).metaF;have:=xd 6 c _ W hm (Yf c1 c2)
  dsimp only at this;rw[hpt]at this;exact this
 have HVo:=hid hV.1.vol;unfold Gd.Vl.pend;obtain⟨L,hL⟩:=nm (V.lg c);obtain⟨⟨e0,h0,r0,ke0,ki0,w0⟩,hsk⟩:∃y,y=V.s c:=⟨_,rfl⟩;rw[←hL]at HPa hlen⊢;rw[←hsk]at HSl hmay⊢;have HMy:=hid (And.intro hlen (And.intro hmay.e hmay.h));unfold zO zm at HSl;dsimp only at HSl HMy⊢;clear hV hF hlg hlen hmay hpt hL hsk hok c1 c2;go_enter func77,ntmps77;go_wp2_with fail
 refine HSl.o.mono ?_;rintro e w1 ⟨rfl,hb1⟩;obtain⟨w2,hw2⟩:=nm (w1.alloc (.cells #[.int .i64 e0,.int .i64 h0,.int .i64 r0,.int .i64 ke0,.int .i64 ki0,.int .i64 w0] 48));obtain⟨g,hg⟩:=nm w1.heap.size;have hb2:Below a.heap.size a w2:=by rw[hw2];exact hb1.alloc hb1.size _
 have hg2:w2.heap[g]? =some (.cells #[.int .i64 e0,.int .i64 h0,.int .i64 r0,.int .i64 ke0,.int .i64 ki0,.int .i64 w0] 48 (0,0)):=by rw[hw2,hg];exact heap_alloc_new _ _
 have HB2:=hid hb2;have HG2:=hid hg2;have HW2:=hid hw2.symm;have Hg:=hid hg.symm;have HPb:=hid (HPa.o w2 hb2);have hrow:=yu (show jU w2 o t x f from(hb2.block o (za HVo.o)).trans HVo.o);clear hb1 hb2 hg2 hw2 hg HSl HPa;go_upto_region 2 with fail
 rw[HW2.o,Hg.o];go_wp2_with(refine wpList_load_mid rfl 76 _ rfl o 0 rfl [.pointer (some ⟨t,0,none⟩)] _ hrow underlying76 rfl sizeStore ?_)
 refine HPb.o.mono ?_;rintro e w3 ⟨v3,rfl,ho3,hb3⟩;have HB3:=HB2.t hb3;have hg3:=(hb3.block g (za HG2.o)).trans HG2.o;have d0:=cell_of_row w3 g 0 _ _ _ hg3;have d1:=cell_of_row w3 g 1 _ _ _ hg3;have HSc:=hid (XA v3 L e0 h0 w3 (V9 ho3 (by have:=HMy.o.1;omega)) HMy.o.1 (zu (by have:=HMy.o.2.1;omega)) (zu (by have:=HMy.o.2.2;omega)));clear ho3 hb3 hg3 hrow HPb;go_wp2_with fail
 refine HSc.o.mono ?_;rintro e w4 ⟨u,v,rfl,hs4,hb4⟩;have HS4:=hid (hs4.base HB3.o.size);have HB4:=HB3.t hb4;clear hs4 hb4 d0 d1 HSc;go_wp2;go_ret2
 exact⟨u,v,rfl,HS4.o,HB4.o⟩
theorem UV{o t x f:Nat}(m:Int)(w:World)(hv:jU w o t x f)(hm:¬(1≤m∧m≤8)):
 Calls prog 77 #[.pointer (some ⟨o,0,none⟩),.int .i64 m] w fun e w'=>e= .returned (.tuple #[.slice none 0 0,.slice none 0 0])∧Below w.heap.size w w':=by
 have HSl:=hid (ZC m w hv hm);unfold zO zm at HSl;dsimp only at HSl;clear hv hm;go_enter func77,ntmps77;go_wp2_with fail
 refine HSl.o.mono ?_;rintro e w1 ⟨rfl,hb1⟩;have HB1:=hid hb1;clear hb1 HSl;go_wp2;go_ret2
 exact⟨rfl,HB1.o.alloc HB1.o.size _⟩
theorem ZD{o:Nat}{c:Int}{Q:Value→World→Prop}(w:World)(h:Calls prog 77 #[.pointer (some ⟨o,0,none⟩),.int .i64 c] w fun e w'=>∃u v,e= .returned (.tuple #[u,v])∧Q u w'):
 Calls prog 35 #[.pointer (some ⟨o,0,none⟩),.int .i64 c] w fun e w'=>∃u,e= .returned u∧Q u w':=by
 have H:=hid h;clear h;go_enter func35,ntmps35;go_wp2_with fail
 refine H.o.mono ?_;rintro e w1 ⟨u,v,rfl,hq⟩;go_wp2;go_ret
 exact⟨u,rfl,hq⟩
theorem Vs.pending[zc](h:Vs o x t f V K w a Ls)(hok:V.Ok)(c:Nat)(c1:1≤c)(c2:c≤8):
 Calls prog 35 #[.pointer (some ⟨o,0,none⟩),.int .i64 c] a fun e b=>∃u,e= .returned u∧b.ownsRow a.heap.size 57 5 u ((V.pend c).map (·.1)).length (jd ((V.pend c).map (·.1)))∧Below a.heap.size a b:=by
 refine ZD (Q:=fun u b=>b.ownsRow a.heap.size 57 5 u ((V.pend c).map (·.1)).length (jd ((V.pend c).map (·.1)))∧Below a.heap.size a b) a ((h.scan hok c c1 c2).mono ?_);rintro e b ⟨u,v,he,hs,hb⟩;refine⟨u,v,he,?_,hb⟩;rw[List.length_map];exact hs.1
theorem UQ{o t x f:Nat}(m:Int)(w:World)(hv:jU w o t x f)(hm:¬(1≤m∧m≤8)):
 Calls prog 35 #[.pointer (some ⟨o,0,none⟩),.int .i64 m] w fun e w'=>∃u,e= .returned u∧u= .slice none 0 0∧Below w.heap.size w w':=by
 refine ZD (Q:=fun u w'=>u= .slice none 0 0∧Below w.heap.size w w') w ((UV m w hv hm).mono ?_);rintro e b ⟨he,hb⟩;exact⟨_,_,he,rfl,hb⟩
end
end
end Go.Proofs.YtccpdkjonepoiaaGreatDoor
