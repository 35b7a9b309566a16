/- Walks: metadata: Mkdir, Rmdir, remove, Unlink, Close, find, both: each way. -/
import Derived.Test.YtjlpkbhgphjpeaaGreatDoorV25
set_option linter.unusedVariables false
set_option linter.unusedSimpArgs false
set_option linter.unusedSectionVars false
set_option maxHeartbeats 8000000
set_option maxRecDepth 100000
namespace Go.Proofs.YtjlpkbhgphjpeaaGreatDoor
open Go.RowKit
open Lib(hid)
open Go.Proofs.Tryz
section
open Go.Shelf
attribute [local go_sem] Oper.semAt_some
theorem zR{p:ByteArray}(h:¬p.data.toList=[47]):(p.toList==[47])=false:=by rw[beq_eq_false_iff_ne,Lib.toList_data];exact h
theorem Xy:zv Gd.noIno= .agg #[.int .i64 0,.int .i64 0,.int .i64 0,.int .i64 0,.int .i64 0,.int .i64 0,.int .i64 0,.int .i64 0,.int .i64 0,.int .i64 0,.int .i64 0,.int .i64 0,.int .i64 0,.int .i64 0,.int .i64 0]:=rfl
theorem Jb{x:Nat}(s:ByteArray)(wi spare:Int)(w:World)(hW:Ret w 25 #[.pointer (some ⟨x,0,none⟩),.string s] (.tuple #[.int .i64 wi,.int .i64 0])):
 Calls prog 39 #[.pointer (some ⟨x,0,none⟩),.string s,.int .i64 spare] w fun e w'=>e= .returned (.int .i64 11)∧Below w.heap.size w w':=by
 have HW0:=hid (hW w (Below.refl _ _));clear hW;go_enter func39,ntmps39;go_wp2_with(go_at_call 25;refine HW0.o.mono ?_;rintro e w2 ⟨rfl,hb2⟩;have HB2:=hid hb2;clear hb2)
 go_ret
 exact⟨rfl,HB2.o⟩
theorem uk{x:Nat}(s n:ByteArray)(wi d E e2 spare:Int)(hE:E≠0)(he2:e2≠0)(w:World)(hW:Ret w 25 #[.pointer (some ⟨x,0,none⟩),.string s] (.tuple #[.int .i64 wi,.int .i64 E]))(hP:Ret w 89 #[.pointer (some ⟨x,0,none⟩),.string s] (.tuple #[.int .i64 d,.string n,.int .i64 e2])):
 Calls prog 39 #[.pointer (some ⟨x,0,none⟩),.string s,.int .i64 spare] w fun e w'=>e= .returned (.int .i64 e2)∧Below w.heap.size w w':=by
 have HW0:=hid (hW w (Below.refl _ _));have HP:=hid hP;have hEb:(E==0)=false:=by simp[hE]
 have he2b:(e2==0)=false:=by simp[he2]
 clear hW hP;go_enter func39,ntmps39;go_wp2_with(first|(go_at_call 25;refine HW0.o.mono ?_;rintro e w2 ⟨rfl,hb2⟩;have HB2:=hid hb2;clear hb2;have HP2:=hid (HP.o w2 HB2.o))|(go_at_call 89;refine HP2.o.mono ?_;rintro e w3 ⟨rfl,hb3⟩;have HB3:=HB2.t hb3;clear hb3))
 go_ret
 exact⟨rfl,HB3.o⟩
theorem XJ{x:Nat}(s n:ByteArray)(wi d E spare:Int)(hE:E≠0)(w:World)(R:Int→World→Prop)(hW:Ret w 25 #[.pointer (some ⟨x,0,none⟩),.string s] (.tuple #[.int .i64 wi,.int .i64 E]))(hP:Ret w 89 #[.pointer (some ⟨x,0,none⟩),.string s] (.tuple #[.int .i64 d,.string n,.int .i64 0]))(hF:Ret w 90 #[.pointer (some ⟨x,0,none⟩),.int .i64 d,.string n] (.tuple #[.int .i64 0,.int .i64 0]))(hM:∀W,Below w.heap.size w W→Calls prog 91 #[.pointer (some ⟨x,0,none⟩),.int .i64 d,.string n,zv Gd.rootI,.int .i64 spare] W fun e w'=>∃v r:Int,e= .returned (.tuple #[.int .i64 v,.int .i64 r])∧R r w'):
 Calls prog 39 #[.pointer (some ⟨x,0,none⟩),.string s,.int .i64 spare] w fun e w'=>∃r:Int,e= .returned (.int .i64 r)∧R r w':=by
 have HW0:=hid (hW w (Below.refl _ _));have HP:=hid hP;have HF:=hid hF;have HM:=hid hM;rw[uz]at HM;have hEb:(E==0)=false:=by simp[hE]
 clear hW hP hF hM;go_enter func39,ntmps39;go_wp2_with(first|(go_at_call 25;refine HW0.o.mono ?_;rintro e w2 ⟨rfl,hb2⟩;have HB2:=hid hb2;clear hb2;have HP2:=hid (HP.o w2 HB2.o))|(go_at_call 89;refine HP2.o.mono ?_;rintro e w3 ⟨rfl,hb3⟩;have HB3:=HB2.t hb3;clear hb3;have HF3:=hid (HF.o w3 HB3.o))|(go_at_call 90;refine HF3.o.mono ?_;rintro e w4 ⟨rfl,hb4⟩;have HB4:=HB3.t hb4;clear hb4;have HMc:=hid (HM.o w4 HB4.o))|(go_at_call 91;refine HMc.o.mono ?_;rintro e w6 ⟨v,r,rfl,hr6⟩))
 go_ret
 exact⟨r,rfl,hr6⟩
theorem JN{xv:Value}(w:World):
 Calls prog 52 #[xv,.string ⟨#[47]⟩] w fun e w'=>e= .returned (.int .i64 15)∧w'=w:=by
 go_enter func52,ntmps52;go_wp2;go_ret
 exact⟨rfl,rfl⟩
theorem Xd{x:Nat}(s:ByteArray)(wi E:Int)(hs:¬s.data.toList=[47])(hE:E≠0)(w:World)(hW:Ret w 25 #[.pointer (some ⟨x,0,none⟩),.string s] (.tuple #[.int .i64 wi,.int .i64 E])):
 Calls prog 52 #[.pointer (some ⟨x,0,none⟩),.string s] w fun e w'=>e= .returned (.int .i64 E)∧Below w.heap.size w w':=by
 have HW0:=hid (hW w (Below.refl _ _));have hEb:(E==0)=false:=by simp[hE]
 have h47:=zR hs;clear hW hs;go_enter func52,ntmps52;go_wp2_with(go_at_call 25;refine HW0.o.mono ?_;rintro e w2 ⟨rfl,hb2⟩;have HB2:=hid hb2;clear hb2)
 go_ret
 exact⟨rfl,HB2.o⟩
theorem Xb{x:Nat}(s:ByteArray)(i E:Int)(hs:¬s.data.toList=[47])(hE:E≠0)(w:World)(hW:Ret w 25 #[.pointer (some ⟨x,0,none⟩),.string s] (.tuple #[.int .i64 i,.int .i64 0]))(hT:Ret w 28 #[.pointer (some ⟨x,0,none⟩),.int .i64 i] (.tuple #[zW Gd.noTab,.int .i64 E])):
 Calls prog 52 #[.pointer (some ⟨x,0,none⟩),.string s] w fun e w'=>e= .returned (.int .i64 E)∧Below w.heap.size w w':=by
 have HW0:=hid (hW w (Below.refl _ _));have HT:=hid hT;have hEb:(E==0)=false:=by simp[hE]
 have h47:=zR hs;unfold zW at HT;clear hW hT hs;go_enter func52,ntmps52;go_wp2_with(first|(go_at_call 25;refine HW0.o.mono ?_;rintro e w2 ⟨rfl,hb2⟩;have HB2:=hid hb2;clear hb2;have HT2:=hid (HT.o w2 HB2.o))|(go_at_call 28;refine HT2.o.mono ?_;rintro e w3 ⟨rfl,hb3⟩;have HB3:=HB2.t hb3;clear hb3)|(rw[←qh];refine wpList_store_mid rfl 77 _ _ rfl w3.heap.size 0 (zk Gd.noTab) rfl rfl (zd (heap_alloc_new _ _) zn) (by rw[zn];exact sizeTab) (zQ _) ?_;obtain⟨hbw,hbg⟩:=zi w3 (zk Gd.noTab) 77 (zk Gd.noTab).toList (by rw[Array.length_toList]);generalize (World.setCells _ _ _ _)=w4 at hbw hbg⊢;have HN4:Hid (w4.heap[w3.heap.size]? =some (.cells (zk Gd.noTab) 77 (0,0))):=hid hbg;have HB4:=HB3.t hbw;clear hbw hbg))
 go_ret
 exact⟨rfl,HB4.o⟩
theorem Za{x:Nat}(s:ByteArray)(i:Int)(T:Gd.Tab)(hs:¬s.data.toList=[47])(hOk:Gd.TabOk T)(hn:0<(Gd.namesT T).length)(w:World)(hW:Ret w 25 #[.pointer (some ⟨x,0,none⟩),.string s] (.tuple #[.int .i64 i,.int .i64 0]))(hT:Ret w 28 #[.pointer (some ⟨x,0,none⟩),.int .i64 i] (.tuple #[zW T,.int .i64 0])):
 Calls prog 52 #[.pointer (some ⟨x,0,none⟩),.string s] w fun e w'=>e= .returned (.int .i64 14)∧Below w.heap.size w w':=by
 have HW0:=hid (hW w (Below.refl _ _));have HT:=hid hT;have HNm:=hid (qM T hOk);have HS:=hid (zF hOk.len);have h47:=zR hs;have hn0:(0:Int)<(Gd.namesT T).length:=by omega
 unfold qm at HNm;unfold zW at HT HNm;clear hW hT hs hOk hn;go_enter func52,ntmps52
 go_wp2_with(first|(go_at_call 25;refine HW0.o.mono ?_;rintro e w2 ⟨rfl,hb2⟩;have HB2:=hid hb2;clear hb2;have HT2:=hid (HT.o w2 HB2.o))|(go_at_call 28;refine HT2.o.mono ?_;rintro e w3 ⟨rfl,hb3⟩;have HB3:=HB2.t hb3;clear hb3)|(rw[←qh];refine wpList_store_mid rfl 77 _ _ rfl w3.heap.size 0 (zk T) rfl rfl (zd (heap_alloc_new _ _) (by rw[zn,HS.o])) (by rw[HS.o];exact sizeTab) (zQ _) ?_;obtain⟨hbw,hbg⟩:=zi w3 (zk Gd.noTab) 77 (zk T).toList (by rw[zn,Array.length_toList,HS.o]);generalize (World.setCells _ _ _ _)=w4 at hbw hbg⊢;have HN4:Hid (w4.heap[w3.heap.size]? =some (.cells (zk T) 77 (0,0))):=hid hbg;have HB4:=HB3.t hbw;clear hbw hbg)|(refine wpList_load_row rfl 77 _ rfl w3.heap.size rfl 77 (zk T) (0,0) _ HN4.o underlying77 rfl (by rw[HS.o];exact sizeTab) ?_)|(go_at_call 96;refine(HNm.o w4).mono ?_;rintro e w5 ⟨A,c,rfl,-,hb5⟩;have HB5:=HB4.t hb5;clear hb5))
 go_ret
 exact⟨rfl,HB5.o⟩
theorem Xc{x:Nat}(s:ByteArray)(i r:Int)(T:Gd.Tab)(hs:¬s.data.toList=[47])(hOk:Gd.TabOk T)(hn:(Gd.namesT T).length=0)(w:World)(R:World→Prop)(hW:Ret w 25 #[.pointer (some ⟨x,0,none⟩),.string s] (.tuple #[.int .i64 i,.int .i64 0]))(hT:Ret w 28 #[.pointer (some ⟨x,0,none⟩),.int .i64 i] (.tuple #[zW T,.int .i64 0]))(hR:∀W,Below w.heap.size w W→Calls prog 93 #[.pointer (some ⟨x,0,none⟩),.string s,.int .i64 i,.func (.func 102) #[.pointer (some ⟨x,0,none⟩)] #[]] W fun e w'=>e= .returned (.int .i64 r)∧R w'):
 Calls prog 52 #[.pointer (some ⟨x,0,none⟩),.string s] w fun e w'=>e= .returned (.int .i64 r)∧R w':=by
 have HW0:=hid (hW w (Below.refl _ _));have HT:=hid hT;have HNm:=hid (qM T hOk);have HR:=hid hR;have HS:=hid (zF hOk.len);have h47:=zR hs;unfold qm at HNm;rw[hn]at HNm;unfold zW at HT HNm;clear hW hT hs hOk hn hR;go_enter func52,ntmps52
 go_wp2_with(first|(go_at_call 25;refine HW0.o.mono ?_;rintro e w2 ⟨rfl,hb2⟩;have HB2:=hid hb2;clear hb2;have HT2:=hid (HT.o w2 HB2.o))|(go_at_call 28;refine HT2.o.mono ?_;rintro e w3 ⟨rfl,hb3⟩;have HB3:=HB2.t hb3;clear hb3)|(rw[←qh];refine wpList_store_mid rfl 77 _ _ rfl w3.heap.size 0 (zk T) rfl rfl (zd (heap_alloc_new _ _) (by rw[zn,HS.o])) (by rw[HS.o];exact sizeTab) (zQ _) ?_;obtain⟨hbw,hbg⟩:=zi w3 (zk Gd.noTab) 77 (zk T).toList (by rw[zn,Array.length_toList,HS.o]);generalize (World.setCells _ _ _ _)=w4 at hbw hbg⊢;have HN4:Hid (w4.heap[w3.heap.size]? =some (.cells (zk T) 77 (0,0))):=hid hbg;have HB4:=HB3.t hbw;clear hbw hbg)|(refine wpList_load_row rfl 77 _ rfl w3.heap.size rfl 77 (zk T) (0,0) _ HN4.o underlying77 rfl (by rw[HS.o];exact sizeTab) ?_)|(go_at_call 96;refine(HNm.o w4).mono ?_;rintro e w5 ⟨A,c,rfl,-,hb5⟩;have HB5:=HB4.t hb5;clear hb5))
 have HRc:=hid (HR.o w5 HB5.o);refine HRc.o.mono ?_;rintro e w6 ⟨rfl,hr6⟩;go_wp2;go_ret
 exact⟨rfl,hr6⟩
theorem Zc{x:Nat}(s n:ByteArray)(i d r:Int)(w:World)(Q R:World→Prop)(hP:Ret w 89 #[.pointer (some ⟨x,0,none⟩),.string s] (.tuple #[.int .i64 d,.string n,.int .i64 0]))(hT:∀W,Below w.heap.size w W→Calls prog 107 #[.pointer (some ⟨x,0,none⟩),.int .i64 d,.string n] W fun e w'=>e= .returned (.int .i64 0)∧Q w')(hL:∀W,Q W→Calls prog 102 #[.pointer (some ⟨x,0,none⟩),.int .i64 i] W fun e w'=>e= .returned (.int .i64 r)∧R w'):
 Calls prog 93 #[.pointer (some ⟨x,0,none⟩),.string s,.int .i64 i,.func (.func 102) #[.pointer (some ⟨x,0,none⟩)] #[]] w fun e w'=>e= .returned (.int .i64 r)∧R w':=by
 have HP0:=hid (hP w (Below.refl _ _));have HT:=hid hT;have HL:=hid hL;clear hP hT hL;go_enter func93,ntmps93;go_wp2_with(first|(go_at_call 89;refine HP0.o.mono ?_;rintro e w1 ⟨rfl,hb1⟩;have HTc:=hid (HT.o w1 hb1);clear hb1)|(go_at_call 107;refine HTc.o.mono ?_;rintro e w2 ⟨rfl,hq2⟩;have HLc:=hid (HL.o w2 hq2);clear hq2)|(go_at_call 102;refine HLc.o.mono ?_;rintro e w3 ⟨rfl,hr3⟩))
 go_ret
 exact⟨rfl,hr3⟩
theorem X5{x:Nat}(i r:Int)(w:World)(R:World→Prop)(hS:Calls prog 74 #[.pointer (some ⟨x,0,none⟩),.int .i64 i,zv Gd.noIno] w fun e w'=>e= .returned (.int .i64 r)∧R w'):
 Calls prog 102 #[.pointer (some ⟨x,0,none⟩),.int .i64 i] w fun e w'=>e= .returned (.int .i64 r)∧R w':=by
 have HS:=hid hS;clear hS;rw[Xy]at HS;go_enter func102,ntmps102;go_wp2_with(go_at_call 74;refine HS.o.mono ?_;rintro e w2 ⟨rfl,hr2⟩)
 go_ret
 exact⟨rfl,hr2⟩
theorem JF{x:Nat}(s:ByteArray)(wi E:Int)(hE:E≠0)(w:World)(hW:Ret w 25 #[.pointer (some ⟨x,0,none⟩),.string s] (.tuple #[.int .i64 wi,.int .i64 E])):
 Calls prog 41 #[.pointer (some ⟨x,0,none⟩),.string s] w fun e w'=>e= .returned (.int .i64 E)∧Below w.heap.size w w':=by
 have HW0:=hid (hW w (Below.refl _ _));have hEb:(E==0)=false:=by simp[hE]
 clear hW;go_enter func41,ntmps41;go_wp2_with(go_at_call 25;refine HW0.o.mono ?_;rintro e w2 ⟨rfl,hb2⟩;have HB2:=hid hb2;clear hb2)
 go_ret
 exact⟨rfl,HB2.o⟩
theorem JG{x:Nat}(s:ByteArray)(i:Int)(y:Gd.Ino)(hy:y.Shape)(hk:y.k=2)(w:World)(hW:Ret w 25 #[.pointer (some ⟨x,0,none⟩),.string s] (.tuple #[.int .i64 i,.int .i64 0]))(hI:Ret w 17 #[.pointer (some ⟨x,0,none⟩),.int .i64 i] (.tuple #[zv y,.int .i64 0])):
 Calls prog 41 #[.pointer (some ⟨x,0,none⟩),.string s] w fun e w'=>e= .returned (.int .i64 13)∧Below w.heap.size w w':=by
 have HW0:=hid (hW w (Below.refl _ _));have HI:=hid hI;have HS:=hid (zm hy);have HSh:=hid hy;have HK:=hid hk;clear hW hI hy hk;unfold zv at*;go_enter func41,ntmps41
 go_wp2_with(first|(go_at_call 25;refine HW0.o.mono ?_;rintro e w2 ⟨rfl,hb2⟩;have HB2:=hid hb2;clear hb2;have HI2:=hid (HI.o w2 HB2.o))|(go_at_call 17;refine HI2.o.mono ?_;rintro e w3 ⟨rfl,hb3⟩;have HB3:=HB2.t hb3;clear hb3)|(rw[←zA];refine wpList_store_mid rfl 48 _ _ rfl w3.heap.size 0 (zf y) rfl rfl (zd (heap_alloc_new _ _) (by rw[zc,HS.o])) (by rw[HS.o];exact sizeIno) (zr _) ?_;obtain⟨hbw,hbg⟩:=zi w3 zU 48 (zf y).toList (by rw[zc,Array.length_toList,HS.o]);generalize (World.setCells _ _ _ _)=w4 at hbw hbg⊢;have HB4:=HB3.t hbw;have HN4:Hid (w4.heap[w3.heap.size]? =some (.cells (zf y) 48 (0,0))):=hid hbg;clear hbw hbg;have n0:=(show zp w4 w3.heap.size y from⟨HN4.o,HSh.o⟩).c0;rw[HK.o]at n0))
 go_ret
 exact⟨rfl,HB4.o⟩
theorem Ya[zg]{x t c K:Nat}{S:List UInt8}{M:Gd.Vol}{F:Nat→Prop}(cl:Int)(w:World)(h:zy x t S M c K w F):
 Calls prog 42 #[.pointer (some ⟨x,0,none⟩),.int .i64 cl,.int .i64 0] w fun e w'=>e= .returned (.int .i64 16)∧Below w.heap.size w w':=by
 have HI:=hid (XX 0 w h (by omega));have HS:=hid (zm qd);clear h;unfold zv at*;go_enter func42,ntmps42;go_wp2_with(first|(go_at_call 17;refine HI.o.mono ?_;rintro e w2 ⟨rfl,hb2⟩;have HB2:=hid hb2;clear hb2)|(rw[←zA];refine wpList_store_mid rfl 48 _ _ rfl w2.heap.size 0 (zf Gd.noIno) rfl rfl (zd (heap_alloc_new _ _) (by rw[zc,HS.o])) (by rw[HS.o];exact sizeIno) (zr _) ?_;obtain⟨hbw,hbg⟩:=zi w2 zU 48 (zf Gd.noIno).toList (by rw[zc,Array.length_toList,HS.o]);generalize (World.setCells _ _ _ _)=w3 at hbw hbg⊢;have HB3:=HB2.t hbw;have HN3:Hid (w3.heap[w2.heap.size]? =some (.cells (zf Gd.noIno) 48 (0,0))):=hid hbg;clear hbw hbg))
 go_ret
 exact⟨rfl,HB3.o⟩
theorem find_some[zg]{x t c K d:Nat}{S:List UInt8}{M:Gd.Vol}{T:Nat→Gd.Tab}{F:Nat→Prop}(s:List UInt8)(j:Fin 16)(w:World)(h:zy x t S M c K w F)(hT:Gd.Tree M T)(d1:1≤d)(d2:d≤32)(hk:(M.ino d).k=2)(hs:s.length≤1000)(hne:s≠[])(hf:Gd.findT (T d) s (Gd.hN s)=some j):
 Calls prog 90 #[.pointer (some ⟨x,0,none⟩),.int .i64 d,.string ⟨s.toArray⟩] w fun e w'=>e= .returned (.tuple #[.int .i64 (Gd.entAt (T d) j.val).i,.int .i64 0])∧Below w.heap.size w w':=by
 have hD:=hT.dir d d1 d2 hk;have hfe:=Gd.find_ent hT d1 d2 hk hf;have HTb:=hid (jw w h hD);have HTs:=hid (zF hD.ok.len);have HFi:=hid fun W=>xH (T d) hD.ok.len ⟨s.toArray⟩ (by rw[Lib.size_eq];show s.length≤_;omega) hne (Gd.hN s) rfl W;rw[show(⟨s.toArray⟩:ByteArray).data.toList=s from rfl,hf]at HFi;obtain⟨q,hq⟩:=nm ((Gd.entAt (T d) j.val).i);rw[←hq]at hfe⊢;have HNd:=hid fun W (hW:Below w.heap.size w W)=>Zh q W (h.below hW) hfe.1 hfe.2.1 hfe.2.2.1;have HSq:Hid ((zf (M.ino q)).size=15):=hid (by
  obtain⟨P,h3,h4⟩:=h;exact jO h4 hfe.1 hfe.2.1)
 obtain⟨y,hy⟩:=nm (M.ino q);rw[←hy]at HNd HSq;obtain⟨D,hDe⟩:=nm (T d);rw[←hDe]at HTb HTs HFi hfe hq;have Hfe:=hid hfe.2.2.2;have Hq:=hid hq.symm;have hj16:=j.isLt;obtain⟨k,hkj⟩:=nm j.val;have hnk:vG (some j)=(k:Int):=by rw[hkj];rfl
 rw[←hkj]at Hfe hj16 Hq;rw[hnk]at HFi;have hk16:(k:Int)<16:=by omega
 have hk0:(0:Int)≤k:=by omega
 obtain⟨sb,hsb⟩:∃sb:ByteArray,sb=⟨s.toArray⟩:=⟨_,rfl⟩;rw[←hsb]at HFi⊢;clear h hT d1 d2 hk hs hne hf hD hfe hq hy hDe hj16 hkj hnk hsb;unfold zW zv at*;go_enter func90,ntmps90
 go_wp2_with(first|(go_at_call 28;refine HTb.o.mono ?_;rintro e w2 ⟨rfl,hb2⟩;have HB2:=hid hb2;clear hb2)|(rw[←qh];refine wpList_store_mid rfl 77 _ _ rfl w2.heap.size 0 (zk D) rfl rfl (zd (heap_alloc_new _ _) (by rw[zn,HTs.o])) (by rw[HTs.o];exact sizeTab) (zQ _) ?_;obtain⟨hbw,hbg⟩:=zi w2 (zk Gd.noTab) 77 (zk D).toList (by rw[zn,Array.length_toList,HTs.o]);generalize (World.setCells _ _ _ _)=w3 at hbw hbg⊢;have HN3:Hid (w3.heap[w2.heap.size]? =some (.cells (zk D) 77 (0,0))):=hid hbg;have HB3:=HB2.t hbw;clear hbw hbg;have HQ3:=hid (jH HN3.o Hfe.o);rw[Hq.o]at HQ3)|(refine wpList_load_row rfl 77 _ rfl w2.heap.size rfl 77 (zk D) (0,0) _ HN3.o underlying77 rfl (by rw[HTs.o];exact sizeTab) ?_)|(go_at_call 29;refine(HFi.o w3).mono ?_;rintro e w4 ⟨rfl,hb4⟩;have HB4:=HB3.t hb4;have HN4:=HN3.r hb4;have HQ4:=hid (jH HN4.o Hfe.o);rw[Hq.o]at HQ4;obtain⟨-,n1⟩:=HQ4.o;have HNd4:=hid (HNd.o w4 HB4.o);clear hb4 HQ3)|(go_at_call 122;refine HNd4.o.mono ?_;rintro e w5 ⟨rfl,hb5⟩;have HB5:=HB4.t hb5;have HN5:=HN4.r hb5;clear hb5 n1;have HQ5:=hid (jH HN5.o Hfe.o);rw[Hq.o]at HQ5;obtain⟨-,n1⟩:=HQ5.o))
 go_ret2
 exact⟨rfl,HB5.o⟩
theorem Jt(s u:ByteArray)(w:World)(hs:s.size≤100000)(hu:u.size≤100000)(hM:Mx w):
 Calls prog 103 #[.string s,.string u] w fun e w'=>e= .returned (.bool (decide (Np.pathL s.data.toList≠none)&&decide (Np.pathL u.data.toList≠none)))∧Below w.heap.size w w':=by
 obtain⟨m,hm⟩:=hM;have hml:=uH hm;have HM2:Hid (∀W,Below w.heap.size w W→W.cell? ⟨0,0,none⟩=some (.int .i64 m)):=hid fun W hW=>(hW.cell (p:=⟨0,0,none⟩) hml).trans hm
 cases h1:Np.pathL s.data.toList with
 |none=>
  have HP:=hid (xI s m w hs hm h1)
  cases h2:Np.pathL u.data.toList with
  |none=>
   have HQ:=hid fun W hW=>xI u m W hu (HM2.o W hW) h2;clear hs hu hm hml h1 h2;go_enter func103,ntmps103;go_wp2_with fail
   refine HP.o.mono ?_;rintro e w2 ⟨rfl,hb2⟩;have HQ2:=hid (HQ.o w2 hb2);have HB2:=hid hb2;clear hb2;go_wp2_with fail
   refine HQ2.o.mono ?_;rintro e w3 ⟨rfl,hb3⟩;have HB3:=HB2.t hb3;clear hb3;go_wp2;go_ret
   exact⟨rfl,HB3.o⟩
  |some L2=>
   have HQ:=hid fun W hW=>qt u L2 m W hu (HM2.o W hW) h2;clear hs hu hm hml h1 h2;go_enter func103,ntmps103;go_wp2_with fail
   refine HP.o.mono ?_;rintro e w2 ⟨rfl,hb2⟩;have HQ2:=hid (HQ.o w2 hb2);have HB2:=hid hb2;clear hb2;go_wp2_with fail
   refine HQ2.o.mono ?_;rintro e w3 ⟨A,cc,rfl,-,-,hb3⟩;have HB3:=HB2.t hb3;clear hb3;go_wp2;go_ret
   exact⟨rfl,HB3.o⟩
 |some L=>
  have HP:=hid (qt s L m w hs hm h1)
  cases h2:Np.pathL u.data.toList with
  |none=>
   have HQ:=hid fun W hW=>xI u m W hu (HM2.o W hW) h2;clear hs hu hm hml h1 h2;go_enter func103,ntmps103;go_wp2_with fail
   refine HP.o.mono ?_;rintro e w2 ⟨A,cc,rfl,-,-,hb2⟩;have HQ2:=hid (HQ.o w2 hb2);have HB2:=hid hb2;clear hb2;go_wp2_with fail
   refine HQ2.o.mono ?_;rintro e w3 ⟨rfl,hb3⟩;have HB3:=HB2.t hb3;clear hb3;go_wp2;go_ret
   exact⟨rfl,HB3.o⟩
  |some L2=>
   have HQ:=hid fun W hW=>qt u L2 m W hu (HM2.o W hW) h2;clear hs hu hm hml h1 h2;go_enter func103,ntmps103;go_wp2_with fail
   refine HP.o.mono ?_;rintro e w2 ⟨A,cc,rfl,-,-,hb2⟩;have HQ2:=hid (HQ.o w2 hb2);have HB2:=hid hb2;clear hb2;go_wp2_with fail
   refine HQ2.o.mono ?_;rintro e w3 ⟨A3,cc3,rfl,-,-,hb3⟩;have HB3:=HB2.t hb3;clear hb3;go_wp2;go_ret
   exact⟨rfl,HB3.o⟩
end
section
open Go.Shelf
attribute [local go_sem] Oper.semAt_some
theorem J6{x:Nat}(s u:ByteArray)(spare:Int)(w:World)(hB:Ret w 103 #[.string s,.string u] (.bool false)):
 Calls prog 53 #[.pointer (some ⟨x,0,none⟩),.string s,.string u,.int .i64 spare] w fun e w'=>e= .returned (.int .i64 15)∧Below w.heap.size w w':=by
 have HB0:=hid (hB w (Below.refl _ _));clear hB;go_enter func53,ntmps53;go_wp2_with(go_at_call 103;refine HB0.o.mono ?_;rintro e w2 ⟨rfl,hb2⟩;have HB2:=hid hb2;clear hb2)
 go_ret
 exact⟨rfl,HB2.o⟩
theorem Y8{x:Nat}(s u:ByteArray)(spare:Int)(wi E:Int)(hE:E≠0)(w:World)(hB:Ret w 103 #[.string s,.string u] (.bool true))(hW:Ret w 25 #[.pointer (some ⟨x,0,none⟩),.string s] (.tuple #[.int .i64 wi,.int .i64 E])):
 Calls prog 53 #[.pointer (some ⟨x,0,none⟩),.string s,.string u,.int .i64 spare] w fun e w'=>e= .returned (.int .i64 E)∧Below w.heap.size w w':=by
 have HB0:=hid (hB w (Below.refl _ _));have HW:=hid hW;have hEb:(E==0)=false:=by simp[hE]
 clear hB hW;go_enter func53,ntmps53;go_wp2_with(first|(go_at_call 103;refine HB0.o.mono ?_;rintro e w2 ⟨rfl,hb2⟩;have HB2:=hid hb2;clear hb2;have HWc:=hid (HW.o w2 HB2.o))|(go_at_call 25;refine HWc.o.mono ?_;rintro e w3 ⟨rfl,hb3⟩;have HB3:=HB2.t hb3;clear hb3))
 go_ret
 exact⟨rfl,HB3.o⟩
theorem Y9{x:Nat}(s u:ByteArray)(spare:Int)(i:Int)(y:Gd.Ino)(hy:y.Shape)(hk:y.k=2)(w:World)(hB:Ret w 103 #[.string s,.string u] (.bool true))(hW:Ret w 25 #[.pointer (some ⟨x,0,none⟩),.string s] (.tuple #[.int .i64 i,.int .i64 0]))(hI:Ret w 17 #[.pointer (some ⟨x,0,none⟩),.int .i64 i] (.tuple #[zv y,.int .i64 0])):
 Calls prog 53 #[.pointer (some ⟨x,0,none⟩),.string s,.string u,.int .i64 spare] w fun e w'=>e= .returned (.int .i64 13)∧Below w.heap.size w w':=by
 have HB0:=hid (hB w (Below.refl _ _));have HW:=hid hW;have HI:=hid hI;have HS:=hid (zm hy);have HSh:=hid hy;have HK:=hid hk;clear hB hW hI hy hk;unfold zv at*;go_enter func53,ntmps53
 go_wp2_with(first|(go_at_call 103;refine HB0.o.mono ?_;rintro e w2 ⟨rfl,hb2⟩;have HB2:=hid hb2;clear hb2;have HWc:=hid (HW.o w2 HB2.o))|(go_at_call 25;refine HWc.o.mono ?_;rintro e w3 ⟨rfl,hb3⟩;have HB3:=HB2.t hb3;clear hb3;have HIc:=hid (HI.o w3 HB3.o))|(go_at_call 17;refine HIc.o.mono ?_;rintro e w4 ⟨rfl,hb4⟩;have HB4:=HB3.t hb4;clear hb4)|(rw[←zA];refine wpList_store_mid rfl 48 _ _ rfl w4.heap.size 0 (zf y) rfl rfl (zd (heap_alloc_new _ _) (by rw[zc,HS.o])) (by rw[HS.o];exact sizeIno) (zr _) ?_;obtain⟨hbw,hbg⟩:=zi w4 zU 48 (zf y).toList (by rw[zc,Array.length_toList,HS.o]);generalize (World.setCells _ _ _ _)=w5 at hbw hbg⊢;have HB5:=HB4.t hbw;have HN5:Hid (w5.heap[w4.heap.size]? =some (.cells (zf y) 48 (0,0))):=hid hbg;clear hbw hbg;obtain⟨ib,hib⟩:=nm w4.heap.size;have Hib:Hid (w.heap.size≤ib):=hid (by rw[hib];exact HB4.o.size);rw[←hib]at HN5⊢;clear hib;have n0:=(show zp w5 ib y from⟨HN5.o,HSh.o⟩).c0;rw[HK.o]at n0))
 go_ret
 exact⟨rfl,HB5.o⟩
theorem XU{x:Nat}(s:ByteArray)(spare:Int)(i:Int)(y:Gd.Ino)(hy:y.Shape)(hk:y.k≠2)(w:World)(hB:Ret w 103 #[.string s,.string ⟨#[47]⟩] (.bool true))(hW:Ret w 25 #[.pointer (some ⟨x,0,none⟩),.string s] (.tuple #[.int .i64 i,.int .i64 0]))(hI:Ret w 17 #[.pointer (some ⟨x,0,none⟩),.int .i64 i] (.tuple #[zv y,.int .i64 0])):
 Calls prog 53 #[.pointer (some ⟨x,0,none⟩),.string s,.string ⟨#[47]⟩,.int .i64 spare] w fun e w'=>e= .returned (.int .i64 11)∧Below w.heap.size w w':=by
 have HB0:=hid (hB w (Below.refl _ _));have HW:=hid hW;have HI:=hid hI;have HS:=hid (zm hy);have HSh:=hid hy;obtain⟨ky,hky⟩:=nm y.k;have hkb:(ky==2)=false:=by rw[hky];simp[hk]
 have HK:=hid hky.symm;clear hB hW hI hy hk hky;unfold zv at*;go_enter func53,ntmps53
 go_wp2_with(first|(go_at_call 103;refine HB0.o.mono ?_;rintro e w2 ⟨rfl,hb2⟩;have HB2:=hid hb2;clear hb2;have HWc:=hid (HW.o w2 HB2.o))|(go_at_call 25;refine HWc.o.mono ?_;rintro e w3 ⟨rfl,hb3⟩;have HB3:=HB2.t hb3;clear hb3;have HIc:=hid (HI.o w3 HB3.o))|(go_at_call 17;refine HIc.o.mono ?_;rintro e w4 ⟨rfl,hb4⟩;have HB4:=HB3.t hb4;clear hb4)|(rw[←zA];refine wpList_store_mid rfl 48 _ _ rfl w4.heap.size 0 (zf y) rfl rfl (zd (heap_alloc_new _ _) (by rw[zc,HS.o])) (by rw[HS.o];exact sizeIno) (zr _) ?_;obtain⟨hbw,hbg⟩:=zi w4 zU 48 (zf y).toList (by rw[zc,Array.length_toList,HS.o]);generalize (World.setCells _ _ _ _)=w5 at hbw hbg⊢;have HB5:=HB4.t hbw;have HN5:Hid (w5.heap[w4.heap.size]? =some (.cells (zf y) 48 (0,0))):=hid hbg;clear hbw hbg;obtain⟨ib,hib⟩:=nm w4.heap.size;have Hib:Hid (w.heap.size≤ib):=hid (by rw[hib];exact HB4.o.size);rw[←hib]at HN5⊢;clear hib;have n0:=(show zp w5 ib y from⟨HN5.o,HSh.o⟩).c0;rw[HK.o]at n0))
 go_ret
 exact⟨rfl,HB5.o⟩
theorem Zj{x:Nat}(s u:ByteArray)(spare:Int)(i:Int)(y:Gd.Ino)(hy:y.Shape)(hk:y.k≠2)(hu:¬u.data.toList=[47])(n:ByteArray)(d e2:Int)(he2:e2≠0)(w:World)(hB:Ret w 103 #[.string s,.string u] (.bool true))(hW:Ret w 25 #[.pointer (some ⟨x,0,none⟩),.string s] (.tuple #[.int .i64 i,.int .i64 0]))(hI:Ret w 17 #[.pointer (some ⟨x,0,none⟩),.int .i64 i] (.tuple #[zv y,.int .i64 0]))(hP:Ret w 89 #[.pointer (some ⟨x,0,none⟩),.string u] (.tuple #[.int .i64 d,.string n,.int .i64 e2])):
 Calls prog 53 #[.pointer (some ⟨x,0,none⟩),.string s,.string u,.int .i64 spare] w fun e w'=>e= .returned (.int .i64 e2)∧Below w.heap.size w w':=by
 have HB0:=hid (hB w (Below.refl _ _));have HW:=hid hW;have HI:=hid hI;have HP:=hid hP;have HS:=hid (zm hy);have HSh:=hid hy;obtain⟨ky,hky⟩:=nm y.k;have hkb:(ky==2)=false:=by rw[hky];simp[hk]
 have HK:=hid hky.symm;have h47:=zR hu;have he2b:(e2==0)=false:=by simp[he2]
 clear hB hW hI hP hy hk hky hu;unfold zv at*;go_enter func53,ntmps53
 go_wp2_with(first|(go_at_call 103;refine HB0.o.mono ?_;rintro e w2 ⟨rfl,hb2⟩;have HB2:=hid hb2;clear hb2;have HWc:=hid (HW.o w2 HB2.o))|(go_at_call 25;refine HWc.o.mono ?_;rintro e w3 ⟨rfl,hb3⟩;have HB3:=HB2.t hb3;clear hb3;have HIc:=hid (HI.o w3 HB3.o))|(go_at_call 17;refine HIc.o.mono ?_;rintro e w4 ⟨rfl,hb4⟩;have HB4:=HB3.t hb4;clear hb4)|(rw[←zA];refine wpList_store_mid rfl 48 _ _ rfl w4.heap.size 0 (zf y) rfl rfl (zd (heap_alloc_new _ _) (by rw[zc,HS.o])) (by rw[HS.o];exact sizeIno) (zr _) ?_;obtain⟨hbw,hbg⟩:=zi w4 zU 48 (zf y).toList (by rw[zc,Array.length_toList,HS.o]);generalize (World.setCells _ _ _ _)=w5 at hbw hbg⊢;have HB5:=HB4.t hbw;have HN5:Hid (w5.heap[w4.heap.size]? =some (.cells (zf y) 48 (0,0))):=hid hbg;clear hbw hbg;obtain⟨ib,hib⟩:=nm w4.heap.size;have Hib:Hid (w.heap.size≤ib):=hid (by rw[hib];exact HB4.o.size);rw[←hib]at HN5⊢;clear hib;have n0:=(show zp w5 ib y from⟨HN5.o,HSh.o⟩).c0;rw[HK.o]at n0;have HPc:=hid (HP.o w5 HB5.o))|(go_at_call 89;refine HPc.o.mono ?_;rintro e w6 ⟨rfl,hb6⟩;have HB6:=HB5.t hb6;clear hb6))
 go_ret
 exact⟨rfl,HB6.o⟩
theorem J7{x:Nat}(s u:ByteArray)(spare:Int)(i:Int)(y:Gd.Ino)(hy:y.Shape)(hk:y.k≠2)(hu:¬u.data.toList=[47])(n:ByteArray)(d v:Int)(hv:v≠0)(w:World)(hB:Ret w 103 #[.string s,.string u] (.bool true))(hW:Ret w 25 #[.pointer (some ⟨x,0,none⟩),.string s] (.tuple #[.int .i64 i,.int .i64 0]))(hI:Ret w 17 #[.pointer (some ⟨x,0,none⟩),.int .i64 i] (.tuple #[zv y,.int .i64 0]))(hP:Ret w 89 #[.pointer (some ⟨x,0,none⟩),.string u] (.tuple #[.int .i64 d,.string n,.int .i64 0]))(hF:Ret w 90 #[.pointer (some ⟨x,0,none⟩),.int .i64 d,.string n] (.tuple #[.int .i64 v,.int .i64 0])):
 Calls prog 53 #[.pointer (some ⟨x,0,none⟩),.string s,.string u,.int .i64 spare] w fun e w'=>e= .returned (.int .i64 11)∧Below w.heap.size w w':=by
 have HB0:=hid (hB w (Below.refl _ _));have HW:=hid hW;have HI:=hid hI;have HP:=hid hP;have HF:=hid hF;have HS:=hid (zm hy);have HSh:=hid hy;obtain⟨ky,hky⟩:=nm y.k;have hkb:(ky==2)=false:=by rw[hky];simp[hk]
 have HK:=hid hky.symm;have h47:=zR hu;have hvb:(v==0)=false:=by simp[hv]
 clear hB hW hI hP hF hy hk hky hu;unfold zv at*;go_enter func53,ntmps53
 go_wp2_with(first|(go_at_call 103;refine HB0.o.mono ?_;rintro e w2 ⟨rfl,hb2⟩;have HB2:=hid hb2;clear hb2;have HWc:=hid (HW.o w2 HB2.o))|(go_at_call 25;refine HWc.o.mono ?_;rintro e w3 ⟨rfl,hb3⟩;have HB3:=HB2.t hb3;clear hb3;have HIc:=hid (HI.o w3 HB3.o))|(go_at_call 17;refine HIc.o.mono ?_;rintro e w4 ⟨rfl,hb4⟩;have HB4:=HB3.t hb4;clear hb4)|(rw[←zA];refine wpList_store_mid rfl 48 _ _ rfl w4.heap.size 0 (zf y) rfl rfl (zd (heap_alloc_new _ _) (by rw[zc,HS.o])) (by rw[HS.o];exact sizeIno) (zr _) ?_;obtain⟨hbw,hbg⟩:=zi w4 zU 48 (zf y).toList (by rw[zc,Array.length_toList,HS.o]);generalize (World.setCells _ _ _ _)=w5 at hbw hbg⊢;have HB5:=HB4.t hbw;have HN5:Hid (w5.heap[w4.heap.size]? =some (.cells (zf y) 48 (0,0))):=hid hbg;clear hbw hbg;obtain⟨ib,hib⟩:=nm w4.heap.size;have Hib:Hid (w.heap.size≤ib):=hid (by rw[hib];exact HB4.o.size);rw[←hib]at HN5⊢;clear hib;have n0:=(show zp w5 ib y from⟨HN5.o,HSh.o⟩).c0;rw[HK.o]at n0;have HPc:=hid (HP.o w5 HB5.o))|(go_at_call 89;refine HPc.o.mono ?_;rintro e w6 ⟨rfl,hb6⟩;have HB6:=HB5.t hb6;clear hb6;have HFc:=hid (HF.o w6 HB6.o))|(go_at_call 90;refine HFc.o.mono ?_;rintro e w7 ⟨rfl,hb7⟩;have HB7:=HB6.t hb7;clear hb7))
 go_ret
 exact⟨rfl,HB7.o⟩
theorem XV{x:Nat}(s u:ByteArray)(spare:Int)(i:Int)(y:Gd.Ino)(hy:y.Shape)(hk:y.k≠2)(hu:¬u.data.toList=[47])(hl:20≤y.l)(n:ByteArray)(d:Int)(w:World)(hB:Ret w 103 #[.string s,.string u] (.bool true))(hW:Ret w 25 #[.pointer (some ⟨x,0,none⟩),.string s] (.tuple #[.int .i64 i,.int .i64 0]))(hI:Ret w 17 #[.pointer (some ⟨x,0,none⟩),.int .i64 i] (.tuple #[zv y,.int .i64 0]))(hP:Ret w 89 #[.pointer (some ⟨x,0,none⟩),.string u] (.tuple #[.int .i64 d,.string n,.int .i64 0]))(hF:Ret w 90 #[.pointer (some ⟨x,0,none⟩),.int .i64 d,.string n] (.tuple #[.int .i64 0,.int .i64 0])):
 Calls prog 53 #[.pointer (some ⟨x,0,none⟩),.string s,.string u,.int .i64 spare] w fun e w'=>e= .returned (.int .i64 20)∧Below w.heap.size w w':=by
 have HB0:=hid (hB w (Below.refl _ _));have HW:=hid hW;have HI:=hid hI;have HP:=hid hP;have HF:=hid hF;have HS:=hid (zm hy);have HSh:=hid hy;obtain⟨ky,hky⟩:=nm y.k;have hkb:(ky==2)=false:=by rw[hky];simp[hk]
 have HK:=hid hky.symm;obtain⟨l,hlq⟩:=nm y.l;have Hlq:=hid hlq.symm;rw[←hlq]at hl;have h47:=zR hu;clear hB hW hI hP hF hy hk hky hu hlq;unfold zv at*;go_enter func53,ntmps53
 go_wp2_with(first|(go_at_call 103;refine HB0.o.mono ?_;rintro e w2 ⟨rfl,hb2⟩;have HB2:=hid hb2;clear hb2;have HWc:=hid (HW.o w2 HB2.o))|(go_at_call 25;refine HWc.o.mono ?_;rintro e w3 ⟨rfl,hb3⟩;have HB3:=HB2.t hb3;clear hb3;have HIc:=hid (HI.o w3 HB3.o))|(go_at_call 17;refine HIc.o.mono ?_;rintro e w4 ⟨rfl,hb4⟩;have HB4:=HB3.t hb4;clear hb4)|(rw[←zA];refine wpList_store_mid rfl 48 _ _ rfl w4.heap.size 0 (zf y) rfl rfl (zd (heap_alloc_new _ _) (by rw[zc,HS.o])) (by rw[HS.o];exact sizeIno) (zr _) ?_;obtain⟨hbw,hbg⟩:=zi w4 zU 48 (zf y).toList (by rw[zc,Array.length_toList,HS.o]);generalize (World.setCells _ _ _ _)=w5 at hbw hbg⊢;have HB5:=HB4.t hbw;have HN5:Hid (w5.heap[w4.heap.size]? =some (.cells (zf y) 48 (0,0))):=hid hbg;clear hbw hbg;obtain⟨ib,hib⟩:=nm w4.heap.size;have Hib:Hid (w.heap.size≤ib):=hid (by rw[hib];exact HB4.o.size);rw[←hib]at HN5⊢;clear hib;have n0:=(show zp w5 ib y from⟨HN5.o,HSh.o⟩).c0;rw[HK.o]at n0;have HPc:=hid (HP.o w5 HB5.o))|(go_at_call 89;refine HPc.o.mono ?_;rintro e w6 ⟨rfl,hb6⟩;have HB6:=HB5.t hb6;have HN6:=HN5.r hb6;clear hb6;have HFc:=hid (HF.o w6 HB6.o))|(go_at_call 90;refine HFc.o.mono ?_;rintro e w7 ⟨rfl,hb7⟩;have HB7:=HB6.t hb7;have HN7:=HN6.r hb7;clear hb7;have n1:=(show zp w7 ib y from⟨HN7.o,HSh.o⟩).c1;rw[Hlq.o]at n1))
 go_ret
 exact⟨rfl,HB7.o⟩
theorem Y7{x:Nat}(s u:ByteArray)(spare:Int)(i:Int)(y:Gd.Ino)(hy:y.Shape)(hk:y.k≠2)(hu:¬u.data.toList=[47])(hl:0≤y.l∧y.l<20)(n:ByteArray)(d:Int)(w:World)(Q:World→Prop)(R:Int→World→Prop)(hB:Ret w 103 #[.string s,.string u] (.bool true))(hW:Ret w 25 #[.pointer (some ⟨x,0,none⟩),.string s] (.tuple #[.int .i64 i,.int .i64 0]))(hI:Ret w 17 #[.pointer (some ⟨x,0,none⟩),.int .i64 i] (.tuple #[zv y,.int .i64 0]))(hP:Ret w 89 #[.pointer (some ⟨x,0,none⟩),.string u] (.tuple #[.int .i64 d,.string n,.int .i64 0]))(hF:Ret w 90 #[.pointer (some ⟨x,0,none⟩),.int .i64 d,.string n] (.tuple #[.int .i64 0,.int .i64 0]))(hS:∀W,Below w.heap.size w W→Calls prog 74 #[.pointer (some ⟨x,0,none⟩),.int .i64 i,zv (y.setL (y.l+1))] W fun e w'=>e= .returned (.int .i64 0)∧Q w')(hU:∀W,Q W→Calls prog 104 #[.pointer (some ⟨x,0,none⟩),.int .i64 d,.string n,.int .i64 i,.int .i64 spare] W fun e w'=>∃r:Int,e= .returned (.int .i64 r)∧R r w'):
 Calls prog 53 #[.pointer (some ⟨x,0,none⟩),.string s,.string u,.int .i64 spare] w fun e w'=>∃r:Int,e= .returned (.int .i64 r)∧R r w':=by
 have HB0:=hid (hB w (Below.refl _ _));have HW:=hid hW;have HI:=hid hI;have HP:=hid hP;have HF:=hid hF;have HS:=hid hS;have HU:=hid hU;have HZ:=hid (zm hy);have HSh:=hid hy;obtain⟨ky,hky⟩:=nm y.k;have hkb:(ky==2)=false:=by rw[hky];simp[hk]
 have HK:=hid hky.symm;have HZ2:=hid (zm (x:=y.setL (y.l+1)) ⟨hy.1,hy.2⟩);have HSt:=hid (jz (uM y (y.l+1)));obtain⟨l,hlq⟩:=nm y.l;have Hlq:=hid hlq.symm;obtain⟨l1,hl1⟩:=nm (y.l+1);have hwr:IntKind.i64.wrap (l+1)=l1:=by rw[hl1,hlq,IntKind.wrap_i64];omega
 rw[←hl1]at HSt HZ2 HS;have hl2:l<20:=by omega
 have h47:=zR hu;clear hB hW hI hP hF hS hU hy hk hky hu hlq hl hl1;unfold zv at*;go_enter func53,ntmps53
 go_upto_region 23 with(first|(go_at_call 103;refine HB0.o.mono ?_;rintro e w2 ⟨rfl,hb2⟩;have HB2:=hid hb2;clear hb2;have HWc:=hid (HW.o w2 HB2.o))|(go_at_call 25;refine HWc.o.mono ?_;rintro e w3 ⟨rfl,hb3⟩;have HB3:=HB2.t hb3;clear hb3;have HIc:=hid (HI.o w3 HB3.o))|(go_at_call 17;refine HIc.o.mono ?_;rintro e w4 ⟨rfl,hb4⟩;have HB4:=HB3.t hb4;clear hb4)|(rw[←zA];refine wpList_store_mid rfl 48 _ _ rfl w4.heap.size 0 (zf y) rfl rfl (zd (heap_alloc_new _ _) (by rw[zc,HZ.o])) (by rw[HZ.o];exact sizeIno) (zr _) ?_;obtain⟨hbw,hbg⟩:=zi w4 zU 48 (zf y).toList (by rw[zc,Array.length_toList,HZ.o]);generalize (World.setCells _ _ _ _)=w5 at hbw hbg⊢;have HB5:=HB4.t hbw;have HN5:Hid (w5.heap[w4.heap.size]? =some (.cells (zf y) 48 (0,0))):=hid hbg;clear hbw hbg;obtain⟨ib,hib⟩:=nm w4.heap.size;have Hib:Hid (w.heap.size≤ib):=hid (by rw[hib];exact HB4.o.size);rw[←hib]at HN5⊢;clear hib;have n0:=(show zp w5 ib y from⟨HN5.o,HSh.o⟩).c0;rw[HK.o]at n0;have HPc:=hid (HP.o w5 HB5.o))|(go_at_call 89;refine HPc.o.mono ?_;rintro e w6 ⟨rfl,hb6⟩;have HB6:=HB5.t hb6;have HN6:=HN5.r hb6;clear hb6;have HFc:=hid (HF.o w6 HB6.o))|(go_at_call 90;refine HFc.o.mono ?_;rintro e w7 ⟨rfl,hb7⟩;have HB7:=HB6.t hb7;have HN7:=HN6.r hb7;clear hb7;have n1:=(show zp w7 ib y from⟨HN7.o,HSh.o⟩).c1;rw[Hlq.o]at n1))
 have f1:=(show zp w7 ib y from⟨HN7.o,HSh.o⟩).f 1;obtain⟨w8,hw8⟩:=nm (w7.setCell ⟨ib,1,none⟩ (.int .i64 l1));have HN8:Hid (w8.heap[ib]? =some (.cells (zf (y.setL l1)) 48 (0,0))):=hid (by rw[hw8,←HSt.o];exact Go.heap_setCell_same w7 ib 1 _ _ _ HN7.o);have HB8:Hid (Below w.heap.size w w8):=hid (by rw[hw8];exact HB7.o.setCell Hib.o _);have HW8:=hid hw8.symm;have HSc:=hid (HS.o w8 HB8.o);clear hw8;go_upto_region 24 with fail
 rw[HW8.o];clear hwr;go_wp2_with(first|(refine wpList_load_row rfl 48 _ rfl ib rfl 48 (zf (y.setL l1)) (0,0) _ HN8.o underlying48 rfl (by rw[HZ2.o];exact sizeIno) ?_)|(go_at_call 74;refine HSc.o.mono ?_;rintro e w9 ⟨rfl,hq9⟩;have HUc:=hid (HU.o w9 hq9);clear hq9)|(go_at_call 104;refine HUc.o.mono ?_;rintro e w10 ⟨r,rfl,hr10⟩))
 go_ret
 exact⟨r,rfl,hr10⟩
end
end Go.Proofs.YtjlpkbhgphjpeaaGreatDoor
