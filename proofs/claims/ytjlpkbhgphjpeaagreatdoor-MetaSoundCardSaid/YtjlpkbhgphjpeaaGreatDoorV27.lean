/- Walks: metadata: over, Rename, each way. -/
import Derived.Test.YtjlpkbhgphjpeaaGreatDoorV26
set_option linter.unusedVariables false
set_option linter.unusedSimpArgs false
set_option linter.unusedSectionVars false
set_option maxHeartbeats 8000000
set_option maxRecDepth 100000
namespace Go.Proofs.YtjlpkbhgphjpeaaGreatDoor
open Go.RowKit
open Lib(hid)
open Go.Proofs.Tryz
open Go.Shelf
attribute [local go_sem] Oper.semAt_some
theorem Z4{x:Nat}(z y:Gd.Ino)(hz:z.Shape)(hy:y.Shape)(v:Int)(hkz0:z.k=2)(hky0:y.k≠2)(w:World)(hNd:Ret w 122 #[.pointer (some ⟨x,0,none⟩),.int .i64 v] (.tuple #[zv y,.int .i64 0])):
 Calls prog 106 #[.pointer (some ⟨x,0,none⟩),zv z,.int .i64 v] w fun e w'=>e= .returned (.tuple #[.nilFunc,.int .i64 12])∧Below w.heap.size w w':=by
 obtain⟨hb1,hr1⟩:=zI w (zf z) 48;obtain⟨zb,hzb⟩:=nm w.heap.size;obtain⟨w1,hw1⟩:=nm (w.alloc (.cells (zf z) 48));rw[←hw1,←hzb]at hr1;rw[←hw1]at hb1;have HZ1:=hid hr1;have HB1:=hid hb1;have HW1:=hid hw1.symm;have Hzb:=hid hzb.symm;have HShz:=hid hz;have HNd1:=hid (hNd w1 hb1);have HS:=hid (zm hy);have HSh:=hid hy;have hkz:=hkz0;have hky:=hky0;have HKz:=hid hkz;obtain⟨ky,gky⟩:=nm y.k;have hkyb:(ky==2)=false:=by rw[gky];simp[hky]
 have HKy:=hid gky.symm;clear hkz hky gky;clear hNd hz hy hkz0 hky0 hb1 hr1 hw1 hzb;unfold zv at*;go_enter func106,ntmps106;go_upto_region 1 with fail
 rw[HW1.o,Hzb.o];go_wp2_with(first|(go_at_call 122;refine HNd1.o.mono ?_;rintro e w2 ⟨rfl,hb2⟩;have HB2:=HB1.t hb2;have HZ2:=HZ1.r hb2;clear hb2)|(rw[←zA];refine wpList_store_mid rfl 48 _ _ rfl w2.heap.size 0 (zf y) rfl rfl (zd (heap_alloc_new _ _) (by rw[zc,HS.o])) (by rw[HS.o];exact sizeIno) (zr _) ?_;obtain⟨hbw,hbg⟩:=zi w2 zU 48 (zf y).toList (by rw[zc,Array.length_toList,HS.o]);generalize (World.setCells _ _ _ _)=w3 at hbw hbg⊢;have HB3:=HB2.t hbw;have HN3:Hid (w3.heap[w2.heap.size]? =some (.cells (zf y) 48 (0,0))):=hid hbg;have HZ3:=HZ2.r hbw;clear hbw hbg;obtain⟨ib,hib⟩:=nm w2.heap.size;rw[←hib]at HN3⊢;clear hib;have n0:=(show zp w3 ib y from⟨HN3.o,HSh.o⟩).c0;rw[HKy.o]at n0;have z0:=(show zp w3 zb z from⟨HZ3.o,HShz.o⟩).c0;rw[HKz.o]at z0))
 go_ret2
 exact⟨rfl,HB3.o⟩
theorem JX{x:Nat}(z y:Gd.Ino)(hz:z.Shape)(hy:y.Shape)(v:Int)(hkz0:z.k≠2)(hky0:y.k=2)(w:World)(hNd:Ret w 122 #[.pointer (some ⟨x,0,none⟩),.int .i64 v] (.tuple #[zv y,.int .i64 0])):
 Calls prog 106 #[.pointer (some ⟨x,0,none⟩),zv z,.int .i64 v] w fun e w'=>e= .returned (.tuple #[.nilFunc,.int .i64 13])∧Below w.heap.size w w':=by
 obtain⟨hb1,hr1⟩:=zI w (zf z) 48;obtain⟨zb,hzb⟩:=nm w.heap.size;obtain⟨w1,hw1⟩:=nm (w.alloc (.cells (zf z) 48));rw[←hw1,←hzb]at hr1;rw[←hw1]at hb1;have HZ1:=hid hr1;have HB1:=hid hb1;have HW1:=hid hw1.symm;have Hzb:=hid hzb.symm;have HShz:=hid hz;have HNd1:=hid (hNd w1 hb1);have HS:=hid (zm hy);have HSh:=hid hy;have hkz:=hkz0;have hky:=hky0;obtain⟨kz,gkz⟩:=nm z.k;have hkzb:(kz==2)=false:=by rw[gkz];simp[hkz]
 have hkzn:(kz !=2)=true:=by rw[gkz];simp[hkz]
 have HKz:=hid gkz.symm;have HKy:=hid hky;clear hkz hky gkz;clear hNd hz hy hkz0 hky0 hb1 hr1 hw1 hzb;unfold zv at*;go_enter func106,ntmps106;go_upto_region 1 with fail
 rw[HW1.o,Hzb.o];go_wp2_with(first|(go_at_call 122;refine HNd1.o.mono ?_;rintro e w2 ⟨rfl,hb2⟩;have HB2:=HB1.t hb2;have HZ2:=HZ1.r hb2;clear hb2)|(rw[←zA];refine wpList_store_mid rfl 48 _ _ rfl w2.heap.size 0 (zf y) rfl rfl (zd (heap_alloc_new _ _) (by rw[zc,HS.o])) (by rw[HS.o];exact sizeIno) (zr _) ?_;obtain⟨hbw,hbg⟩:=zi w2 zU 48 (zf y).toList (by rw[zc,Array.length_toList,HS.o]);generalize (World.setCells _ _ _ _)=w3 at hbw hbg⊢;have HB3:=HB2.t hbw;have HN3:Hid (w3.heap[w2.heap.size]? =some (.cells (zf y) 48 (0,0))):=hid hbg;have HZ3:=HZ2.r hbw;clear hbw hbg;obtain⟨ib,hib⟩:=nm w2.heap.size;rw[←hib]at HN3⊢;clear hib;have n0:=(show zp w3 ib y from⟨HN3.o,HSh.o⟩).c0;rw[HKy.o]at n0;have z0:=(show zp w3 zb z from⟨HZ3.o,HShz.o⟩).c0;rw[HKz.o]at z0))
 go_ret2
 exact⟨rfl,HB3.o⟩
theorem Xt{x:Nat}(z y:Gd.Ino)(hz:z.Shape)(hy:y.Shape)(v:Int)(hkz0:z.k≠2)(hky0:y.k≠2)(w:World)(hNd:Ret w 122 #[.pointer (some ⟨x,0,none⟩),.int .i64 v] (.tuple #[zv y,.int .i64 0])):
 Calls prog 106 #[.pointer (some ⟨x,0,none⟩),zv z,.int .i64 v] w fun e w'=>e= .returned (.tuple #[.func (.func 94) #[.pointer (some ⟨x,0,none⟩)] #[],.int .i64 0])∧Below w.heap.size w w':=by
 obtain⟨hb1,hr1⟩:=zI w (zf z) 48;obtain⟨zb,hzb⟩:=nm w.heap.size;obtain⟨w1,hw1⟩:=nm (w.alloc (.cells (zf z) 48));rw[←hw1,←hzb]at hr1;rw[←hw1]at hb1;have HZ1:=hid hr1;have HB1:=hid hb1;have HW1:=hid hw1.symm;have Hzb:=hid hzb.symm;have HShz:=hid hz;have HNd1:=hid (hNd w1 hb1);have HS:=hid (zm hy);have HSh:=hid hy;have hkz:=hkz0;have hky:=hky0;obtain⟨kz,gkz⟩:=nm z.k;have hkzb:(kz==2)=false:=by rw[gkz];simp[hkz]
 have HKz:=hid gkz.symm;obtain⟨ky,gky⟩:=nm y.k;have hkyb:(ky==2)=false:=by rw[gky];simp[hky]
 have HKy:=hid gky.symm;clear hkz hky gkz gky;clear hNd hz hy hkz0 hky0 hb1 hr1 hw1 hzb;unfold zv at*;go_enter func106,ntmps106;go_upto_region 1 with fail
 rw[HW1.o,Hzb.o];go_wp2_with(first|(go_at_call 122;refine HNd1.o.mono ?_;rintro e w2 ⟨rfl,hb2⟩;have HB2:=HB1.t hb2;have HZ2:=HZ1.r hb2;clear hb2)|(rw[←zA];refine wpList_store_mid rfl 48 _ _ rfl w2.heap.size 0 (zf y) rfl rfl (zd (heap_alloc_new _ _) (by rw[zc,HS.o])) (by rw[HS.o];exact sizeIno) (zr _) ?_;obtain⟨hbw,hbg⟩:=zi w2 zU 48 (zf y).toList (by rw[zc,Array.length_toList,HS.o]);generalize (World.setCells _ _ _ _)=w3 at hbw hbg⊢;have HB3:=HB2.t hbw;have HN3:Hid (w3.heap[w2.heap.size]? =some (.cells (zf y) 48 (0,0))):=hid hbg;have HZ3:=HZ2.r hbw;clear hbw hbg;obtain⟨ib,hib⟩:=nm w2.heap.size;rw[←hib]at HN3⊢;clear hib;have n0:=(show zp w3 ib y from⟨HN3.o,HSh.o⟩).c0;rw[HKy.o]at n0;have z0:=(show zp w3 zb z from⟨HZ3.o,HShz.o⟩).c0;rw[HKz.o]at z0))
 go_ret2
 exact⟨rfl,HB3.o⟩
theorem Z5{x:Nat}(z y:Gd.Ino)(hz:z.Shape)(hy:y.Shape)(v:Int)(T:Gd.Tab)(hOk:Gd.TabOk T)(hn:0<(Gd.namesT T).length)(hkz0:z.k=2)(hky0:y.k=2)(w:World)(hNd:Ret w 122 #[.pointer (some ⟨x,0,none⟩),.int .i64 v] (.tuple #[zv y,.int .i64 0]))(hTb:Ret w 64 #[.pointer (some ⟨x,0,none⟩),zv y] (.tuple #[zW T,.int .i64 0])):
 Calls prog 106 #[.pointer (some ⟨x,0,none⟩),zv z,.int .i64 v] w fun e w'=>e= .returned (.tuple #[.nilFunc,.int .i64 14])∧Below w.heap.size w w':=by
 obtain⟨hb1,hr1⟩:=zI w (zf z) 48;obtain⟨zb,hzb⟩:=nm w.heap.size;obtain⟨w1,hw1⟩:=nm (w.alloc (.cells (zf z) 48));rw[←hw1,←hzb]at hr1;rw[←hw1]at hb1;have HZ1:=hid hr1;have HB1:=hid hb1;have HW1:=hid hw1.symm;have Hzb:=hid hzb.symm;have HShz:=hid hz;have HNd1:=hid (hNd w1 hb1);have HS:=hid (zm hy);have HSh:=hid hy;have HTb:=hid hTb;have HTS:=hid (zF hOk.len);have HNm:=hid (qM T hOk);unfold qm at HNm;have hn0:(0:Int)<(Gd.namesT T).length:=by omega
 have hkz:=hkz0;have hky:=hky0;have HKz:=hid hkz;have HKy:=hid hky;clear hNd hTb hz hy hkz0 hky0 hkz hky hb1 hr1 hw1 hzb hOk hn;unfold zv zW at*;go_enter func106,ntmps106;go_upto_region 1 with fail
 rw[HW1.o,Hzb.o]
 go_wp2_with(first|(go_at_call 122;refine HNd1.o.mono ?_;rintro e w2 ⟨rfl,hb2⟩;have HB2:=HB1.t hb2;have HZ2:=HZ1.r hb2;clear hb2)|(rw[←zA];refine wpList_store_mid rfl 48 _ _ rfl w2.heap.size 0 (zf y) rfl rfl (zd (heap_alloc_new _ _) (by rw[zc,HS.o])) (by rw[HS.o];exact sizeIno) (zr _) ?_;obtain⟨hbw,hbg⟩:=zi w2 zU 48 (zf y).toList (by rw[zc,Array.length_toList,HS.o]);generalize (World.setCells _ _ _ _)=w3 at hbw hbg⊢;have HB3:=HB2.t hbw;have HN3:Hid (w3.heap[w2.heap.size]? =some (.cells (zf y) 48 (0,0))):=hid hbg;have HZ3:=HZ2.r hbw;clear hbw hbg;obtain⟨ib,hib⟩:=nm w2.heap.size;rw[←hib]at HN3⊢;clear hib;have n0:=(show zp w3 ib y from⟨HN3.o,HSh.o⟩).c0;rw[HKy.o]at n0;have z0:=(show zp w3 zb z from⟨HZ3.o,HShz.o⟩).c0;rw[HKz.o]at z0;have HTb3:=hid (HTb.o w3 HB3.o))|(refine wpList_load_row rfl 48 _ rfl ib rfl 48 (zf y) (0,0) _ HN3.o underlying48 rfl (by rw[HS.o];exact sizeIno) ?_)|(go_at_call 64;refine HTb3.o.mono ?_;rintro e w4 ⟨rfl,hb4⟩;have HB4:=HB3.t hb4;clear hb4)|(rw[←qh];refine wpList_store_mid rfl 77 _ _ rfl w4.heap.size 0 (zk T) rfl rfl (zd (heap_alloc_new _ _) (by rw[zn,HTS.o])) (by rw[HTS.o];exact sizeTab) (zQ _) ?_;obtain⟨hbw,hbg⟩:=zi w4 (zk Gd.noTab) 77 (zk T).toList (by rw[zn,Array.length_toList,HTS.o]);generalize (World.setCells _ _ _ _)=w5 at hbw hbg⊢;have HN5:Hid (w5.heap[w4.heap.size]? =some (.cells (zk T) 77 (0,0))):=hid hbg;have HB5:=HB4.t hbw;clear hbw hbg)|(refine wpList_load_row rfl 77 _ rfl w4.heap.size rfl 77 (zk T) (0,0) _ HN5.o underlying77 rfl (by rw[HTS.o];exact sizeTab) ?_)|(go_at_call 96;refine(HNm.o w5).mono ?_;rintro e w6 ⟨A,c,rfl,-,hb6⟩;have HB6:=HB5.t hb6;clear hb6))
 go_ret2
 exact⟨rfl,HB6.o⟩
theorem JY{x:Nat}(z y:Gd.Ino)(hz:z.Shape)(hy:y.Shape)(v:Int)(T:Gd.Tab)(hOk:Gd.TabOk T)(hn:(Gd.namesT T).length=0)(hkz0:z.k=2)(hky0:y.k=2)(w:World)(hNd:Ret w 122 #[.pointer (some ⟨x,0,none⟩),.int .i64 v] (.tuple #[zv y,.int .i64 0]))(hTb:Ret w 64 #[.pointer (some ⟨x,0,none⟩),zv y] (.tuple #[zW T,.int .i64 0])):
 Calls prog 106 #[.pointer (some ⟨x,0,none⟩),zv z,.int .i64 v] w fun e w'=>e= .returned (.tuple #[.func (.func 102) #[.pointer (some ⟨x,0,none⟩)] #[],.int .i64 0])∧Below w.heap.size w w':=by
 obtain⟨hb1,hr1⟩:=zI w (zf z) 48;obtain⟨zb,hzb⟩:=nm w.heap.size;obtain⟨w1,hw1⟩:=nm (w.alloc (.cells (zf z) 48));rw[←hw1,←hzb]at hr1;rw[←hw1]at hb1;have HZ1:=hid hr1;have HB1:=hid hb1;have HW1:=hid hw1.symm;have Hzb:=hid hzb.symm;have HShz:=hid hz;have HNd1:=hid (hNd w1 hb1);have HS:=hid (zm hy);have HSh:=hid hy;have HTb:=hid hTb;have HTS:=hid (zF hOk.len);have HNm:=hid (qM T hOk);unfold qm at HNm;rw[hn]at HNm;have hkz:=hkz0;have hky:=hky0;have HKz:=hid hkz;have HKy:=hid hky;clear hNd hTb hz hy hkz0 hky0 hkz hky hb1 hr1 hw1 hzb hOk hn;unfold zv zW at*;go_enter func106,ntmps106;go_upto_region 1 with fail
 rw[HW1.o,Hzb.o]
 go_wp2_with(first|(go_at_call 122;refine HNd1.o.mono ?_;rintro e w2 ⟨rfl,hb2⟩;have HB2:=HB1.t hb2;have HZ2:=HZ1.r hb2;clear hb2)|(rw[←zA];refine wpList_store_mid rfl 48 _ _ rfl w2.heap.size 0 (zf y) rfl rfl (zd (heap_alloc_new _ _) (by rw[zc,HS.o])) (by rw[HS.o];exact sizeIno) (zr _) ?_;obtain⟨hbw,hbg⟩:=zi w2 zU 48 (zf y).toList (by rw[zc,Array.length_toList,HS.o]);generalize (World.setCells _ _ _ _)=w3 at hbw hbg⊢;have HB3:=HB2.t hbw;have HN3:Hid (w3.heap[w2.heap.size]? =some (.cells (zf y) 48 (0,0))):=hid hbg;have HZ3:=HZ2.r hbw;clear hbw hbg;obtain⟨ib,hib⟩:=nm w2.heap.size;rw[←hib]at HN3⊢;clear hib;have n0:=(show zp w3 ib y from⟨HN3.o,HSh.o⟩).c0;rw[HKy.o]at n0;have z0:=(show zp w3 zb z from⟨HZ3.o,HShz.o⟩).c0;rw[HKz.o]at z0;have HTb3:=hid (HTb.o w3 HB3.o))|(refine wpList_load_row rfl 48 _ rfl ib rfl 48 (zf y) (0,0) _ HN3.o underlying48 rfl (by rw[HS.o];exact sizeIno) ?_)|(go_at_call 64;refine HTb3.o.mono ?_;rintro e w4 ⟨rfl,hb4⟩;have HB4:=HB3.t hb4;clear hb4)|(rw[←qh];refine wpList_store_mid rfl 77 _ _ rfl w4.heap.size 0 (zk T) rfl rfl (zd (heap_alloc_new _ _) (by rw[zn,HTS.o])) (by rw[HTS.o];exact sizeTab) (zQ _) ?_;obtain⟨hbw,hbg⟩:=zi w4 (zk Gd.noTab) 77 (zk T).toList (by rw[zn,Array.length_toList,HTS.o]);generalize (World.setCells _ _ _ _)=w5 at hbw hbg⊢;have HN5:Hid (w5.heap[w4.heap.size]? =some (.cells (zk T) 77 (0,0))):=hid hbg;have HB5:=HB4.t hbw;clear hbw hbg)|(refine wpList_load_row rfl 77 _ rfl w4.heap.size rfl 77 (zk T) (0,0) _ HN5.o underlying77 rfl (by rw[HTS.o];exact sizeTab) ?_)|(go_at_call 96;refine(HNm.o w5).mono ?_;rintro e w6 ⟨A,c,rfl,-,hb6⟩;have HB6:=HB5.t hb6;clear hb6))
 go_ret2
 exact⟨rfl,HB6.o⟩
theorem ug{x:Nat}(s u:ByteArray)(spare:Int)(w:World)(hB:Ret w 103 #[.string s,.string u] (.bool false)):
 Calls prog 54 #[.pointer (some ⟨x,0,none⟩),.string s,.string u,.int .i64 spare] w fun e w'=>e= .returned (.int .i64 15)∧Below w.heap.size w w':=by
 have HB0:=hid (hB w (Below.refl _ _));clear hB;go_enter func54,ntmps54;go_wp2_with(go_at_call 103;refine HB0.o.mono ?_;rintro e w2 ⟨rfl,hb2⟩;have HB2:=hid hb2;clear hb2)
 go_ret
 exact⟨rfl,HB2.o⟩
theorem uf{x:Nat}(u:ByteArray)(spare:Int)(w:World)(hB:Ret w 103 #[.string ⟨#[47]⟩,.string u] (.bool true)):
 Calls prog 54 #[.pointer (some ⟨x,0,none⟩),.string ⟨#[47]⟩,.string u,.int .i64 spare] w fun e w'=>e= .returned (.int .i64 15)∧Below w.heap.size w w':=by
 have HB0:=hid (hB w (Below.refl _ _));clear hB;go_enter func54,ntmps54;go_wp2_with(go_at_call 103;refine HB0.o.mono ?_;rintro e w2 ⟨rfl,hb2⟩;have HB2:=hid hb2;clear hb2)
 go_ret
 exact⟨rfl,HB2.o⟩
theorem ue{x:Nat}(s:ByteArray)(spare:Int)(hs:¬s.data.toList=[47])(w:World)(hB:Ret w 103 #[.string s,.string ⟨#[47]⟩] (.bool true)):
 Calls prog 54 #[.pointer (some ⟨x,0,none⟩),.string s,.string ⟨#[47]⟩,.int .i64 spare] w fun e w'=>e= .returned (.int .i64 15)∧Below w.heap.size w w':=by
 have HB0:=hid (hB w (Below.refl _ _));have h47:=zR hs;clear hB hs;go_enter func54,ntmps54;go_wp2_with(go_at_call 103;refine HB0.o.mono ?_;rintro e w2 ⟨rfl,hb2⟩;have HB2:=hid hb2;clear hb2)
 go_ret
 exact⟨rfl,HB2.o⟩
theorem JQ{x:Nat}(s u:ByteArray)(spare:Int)(hs:¬s.data.toList=[47])(hu:¬u.data.toList=[47])(wi E:Int)(hE:E≠0)(w:World)(hB:Ret w 103 #[.string s,.string u] (.bool true))(hW:Ret w 25 #[.pointer (some ⟨x,0,none⟩),.string s] (.tuple #[.int .i64 wi,.int .i64 E])):
 Calls prog 54 #[.pointer (some ⟨x,0,none⟩),.string s,.string u,.int .i64 spare] w fun e w'=>e= .returned (.int .i64 E)∧Below w.heap.size w w':=by
 have HB0:=hid (hB w (Below.refl _ _));have HW:=hid hW;have h47:=zR hs;have h47u:=zR hu;clear hs hu;have hEb:(E==0)=false:=by simp[hE]
 clear hB hW;go_enter func54,ntmps54;go_wp2_with(first|(go_at_call 103;refine HB0.o.mono ?_;rintro e w2 ⟨rfl,hb2⟩;have HB2:=hid hb2;clear hb2;have HWc:=hid (HW.o w2 HB2.o))|(go_at_call 25;refine HWc.o.mono ?_;rintro e w3 ⟨rfl,hb3⟩;have HB3:=HB2.t hb3;clear hb3))
 go_ret
 exact⟨rfl,HB3.o⟩
theorem uh{x:Nat}(s u:ByteArray)(spare:Int)(hs:¬s.data.toList=[47])(hu:¬u.data.toList=[47])(i:Int)(y:Gd.Ino)(hy:y.Shape)(hk:y.k=2)(hsu:¬s.data.toList=u.data.toList)(w:World)(hB:Ret w 103 #[.string s,.string u] (.bool true))(hW:Ret w 25 #[.pointer (some ⟨x,0,none⟩),.string s] (.tuple #[.int .i64 i,.int .i64 0]))(hI:Ret w 17 #[.pointer (some ⟨x,0,none⟩),.int .i64 i] (.tuple #[zv y,.int .i64 0]))(hN:Ret w 105 #[.string u,.string s] (.bool true)):
 Calls prog 54 #[.pointer (some ⟨x,0,none⟩),.string s,.string u,.int .i64 spare] w fun e w'=>e= .returned (.int .i64 15)∧Below w.heap.size w w':=by
 have HB0:=hid (hB w (Below.refl _ _));have HW:=hid hW;have HI:=hid hI;have HN:=hid hN;have HS:=hid (zm hy);have HSh:=hid hy;have h47:=zR hs;have h47u:=zR hu;clear hs hu;have HK:=hid hk;have hsb:(s.toList==u.toList)=false:=by rw[beq_eq_false_iff_ne,Lib.toList_data,Lib.toList_data];exact hsu
 clear hB hW hI hN hy hk hsu;unfold zv at*;go_enter func54,ntmps54
 go_wp2_with(first|(go_at_call 103;refine HB0.o.mono ?_;rintro e w2 ⟨rfl,hb2⟩;have HB2:=hid hb2;clear hb2;have HWc:=hid (HW.o w2 HB2.o))|(go_at_call 25;refine HWc.o.mono ?_;rintro e w3 ⟨rfl,hb3⟩;have HB3:=HB2.t hb3;clear hb3;have HIc:=hid (HI.o w3 HB3.o))|(go_at_call 17;refine HIc.o.mono ?_;rintro e w4 ⟨rfl,hb4⟩;have HB4:=HB3.t hb4;clear hb4)|(rw[←zA];refine wpList_store_mid rfl 48 _ _ rfl w4.heap.size 0 (zf y) rfl rfl (zd (heap_alloc_new _ _) (by rw[zc,HS.o])) (by rw[HS.o];exact sizeIno) (zr _) ?_;obtain⟨hbw,hbg⟩:=zi w4 zU 48 (zf y).toList (by rw[zc,Array.length_toList,HS.o]);generalize (World.setCells _ _ _ _)=w5 at hbw hbg⊢;have HB5:=HB4.t hbw;have HN5:Hid (w5.heap[w4.heap.size]? =some (.cells (zf y) 48 (0,0))):=hid hbg;clear hbw hbg;obtain⟨ib,hib⟩:=nm w4.heap.size;have Hib:Hid (w.heap.size≤ib):=hid (by rw[hib];exact HB4.o.size);rw[←hib]at HN5⊢;clear hib;have n0:=(show zp w5 ib y from⟨HN5.o,HSh.o⟩).c0;rw[HK.o]at n0;have HNc:=hid (HN.o w5 HB5.o))|(go_at_call 105;refine HNc.o.mono ?_;rintro e w6 ⟨rfl,hb6⟩;have HB6:=HB5.t hb6;have HN6:=HN5.r hb6;clear hb6))
 go_ret
 exact⟨rfl,HB6.o⟩
theorem vv{x:Nat}(s u:ByteArray)(spare:Int)(hs:¬s.data.toList=[47])(hu:¬u.data.toList=[47])(b:Bool)(i:Int)(y:Gd.Ino)(hy:y.Shape)(hIn:y.k=2∧¬s.data.toList=u.data.toList→b=false)(n:ByteArray)(d e2:Int)(he2:e2≠0)(w:World)(hB:Ret w 103 #[.string s,.string u] (.bool true))(hW:Ret w 25 #[.pointer (some ⟨x,0,none⟩),.string s] (.tuple #[.int .i64 i,.int .i64 0]))(hI:Ret w 17 #[.pointer (some ⟨x,0,none⟩),.int .i64 i] (.tuple #[zv y,.int .i64 0]))(hN:Ret w 105 #[.string u,.string s] (.bool b))(hP:Ret w 89 #[.pointer (some ⟨x,0,none⟩),.string u] (.tuple #[.int .i64 d,.string n,.int .i64 e2])):
 Calls prog 54 #[.pointer (some ⟨x,0,none⟩),.string s,.string u,.int .i64 spare] w fun e w'=>e= .returned (.int .i64 e2)∧Below w.heap.size w w':=by
 have HB0:=hid (hB w (Below.refl _ _));have HW:=hid hW;have HI:=hid hI;have HN:=hid hN;have HIn:=hid hIn;have HS:=hid (zm hy);have HSh:=hid hy;have h47:=zR hs;have h47u:=zR hu;clear hs hu;have HP:=hid hP;have he2b:(e2==0)=false:=by simp[he2]
 clear hB hW hI hN hIn hP hy;unfold zv at*;go_enter func54,ntmps54
 go_upto_region 9 with(first|(go_at_call 103;refine HB0.o.mono ?_;rintro e w2 ⟨rfl,hb2⟩;have HB2:=hid hb2;clear hb2;have HWc:=hid (HW.o w2 HB2.o))|(go_at_call 25;refine HWc.o.mono ?_;rintro e w3 ⟨rfl,hb3⟩;have HB3:=HB2.t hb3;clear hb3;have HIc:=hid (HI.o w3 HB3.o))|(go_at_call 17;refine HIc.o.mono ?_;rintro e w4 ⟨rfl,hb4⟩;have HB4:=HB3.t hb4;clear hb4)|(rw[←zA];refine wpList_store_mid rfl 48 _ _ rfl w4.heap.size 0 (zf y) rfl rfl (zd (heap_alloc_new _ _) (by rw[zc,HS.o])) (by rw[HS.o];exact sizeIno) (zr _) ?_;obtain⟨hbw,hbg⟩:=zi w4 zU 48 (zf y).toList (by rw[zc,Array.length_toList,HS.o]);generalize (World.setCells _ _ _ _)=w5 at hbw hbg⊢;have HB5:=HB4.t hbw;have HN5:Hid (w5.heap[w4.heap.size]? =some (.cells (zf y) 48 (0,0))):=hid hbg;clear hbw hbg;obtain⟨ib,hib⟩:=nm w4.heap.size;have Hib:Hid (w.heap.size≤ib):=hid (by rw[hib];exact HB4.o.size);rw[←hib]at HN5⊢;clear hib;have n0:=(show zp w5 ib y from⟨HN5.o,HSh.o⟩).c0))
 have HNc:=hid (HN.o w5 HB5.o);go_cut[52] from 53 to 65 (fun z wx=>z= .bool false∧Hid (Below w.heap.size w wx)∧Hid (wx.heap[ib]? =some (.cells (zf y) 48 (0,0))))
 case first=>
  by_cases hk:y.k=2
  ·rw[hk]at n0;by_cases hsu:s.data.toList=u.data.toList
   ·have hsb:(s.toList==u.toList)=true:=by rw[beq_iff_eq,Lib.toList_data,Lib.toList_data];exact hsu
    clear hsu hk;go_wp2_with fail
    go_meet
    exact⟨rfl,HB5,HN5⟩
   ·have hsb:(s.toList==u.toList)=false:=by rw[beq_eq_false_iff_ne,Lib.toList_data,Lib.toList_data];exact hsu
    rw[HIn.o ⟨hk,hsu⟩]at HNc;clear hsu hk;go_wp2_with(go_at_call 105;refine HNc.o.mono ?_;rintro e w6 ⟨rfl,hb6⟩;have HB6:=HB5.t hb6;have HN6:=HN5.r hb6;clear hb6)
    go_meet
    exact⟨rfl,HB6,HN6⟩
  ·obtain⟨ky,hky⟩:=nm y.k;have hkb:(ky==2)=false:=by rw[hky];simp[hk]
   rw[←hky]at n0;clear hk hky;go_wp2_with fail
   go_meet
   exact⟨rfl,HB5,HN5⟩
 case rest=>
 obtain⟨rfl,HB6,HN6⟩:=hcut;obtain⟨w6,hw6⟩:=nm wc;rw[←hw6]at HB6 HN6⊢;clear hw6 HNc n0 HN5 HB5;have HPc:=hid (HP.o w6 HB6.o);go_wp2_with(go_at_call 89;refine HPc.o.mono ?_;rintro e w7 ⟨rfl,hb7⟩;have HB7:=HB6.t hb7;have HN7:=HN6.r hb7;clear hb7)
 go_ret
 exact⟨rfl,HB7.o⟩
theorem ZS{x:Nat}(s u:ByteArray)(spare:Int)(hs:¬s.data.toList=[47])(hu:¬u.data.toList=[47])(b:Bool)(i:Int)(y:Gd.Ino)(hy:y.Shape)(hIn:y.k=2∧¬s.data.toList=u.data.toList→b=false)(n:ByteArray)(d:Int)(w:World)(hB:Ret w 103 #[.string s,.string u] (.bool true))(hW:Ret w 25 #[.pointer (some ⟨x,0,none⟩),.string s] (.tuple #[.int .i64 i,.int .i64 0]))(hI:Ret w 17 #[.pointer (some ⟨x,0,none⟩),.int .i64 i] (.tuple #[zv y,.int .i64 0]))(hN:Ret w 105 #[.string u,.string s] (.bool b))(hP:Ret w 89 #[.pointer (some ⟨x,0,none⟩),.string u] (.tuple #[.int .i64 d,.string n,.int .i64 0]))(hF:Ret w 90 #[.pointer (some ⟨x,0,none⟩),.int .i64 d,.string n] (.tuple #[.int .i64 i,.int .i64 0])):
 Calls prog 54 #[.pointer (some ⟨x,0,none⟩),.string s,.string u,.int .i64 spare] w fun e w'=>e= .returned (.int .i64 0)∧Below w.heap.size w w':=by
 have HB0:=hid (hB w (Below.refl _ _));have HW:=hid hW;have HI:=hid hI;have HN:=hid hN;have HIn:=hid hIn;have HS:=hid (zm hy);have HSh:=hid hy;have h47:=zR hs;have h47u:=zR hu;clear hs hu;have HP:=hid hP;have HF:=hid hF;have hii:(i==i)=true:=by simp
 clear hB hW hI hN hIn hP hF hy;unfold zv at*;go_enter func54,ntmps54
 go_upto_region 9 with(first|(go_at_call 103;refine HB0.o.mono ?_;rintro e w2 ⟨rfl,hb2⟩;have HB2:=hid hb2;clear hb2;have HWc:=hid (HW.o w2 HB2.o))|(go_at_call 25;refine HWc.o.mono ?_;rintro e w3 ⟨rfl,hb3⟩;have HB3:=HB2.t hb3;clear hb3;have HIc:=hid (HI.o w3 HB3.o))|(go_at_call 17;refine HIc.o.mono ?_;rintro e w4 ⟨rfl,hb4⟩;have HB4:=HB3.t hb4;clear hb4)|(rw[←zA];refine wpList_store_mid rfl 48 _ _ rfl w4.heap.size 0 (zf y) rfl rfl (zd (heap_alloc_new _ _) (by rw[zc,HS.o])) (by rw[HS.o];exact sizeIno) (zr _) ?_;obtain⟨hbw,hbg⟩:=zi w4 zU 48 (zf y).toList (by rw[zc,Array.length_toList,HS.o]);generalize (World.setCells _ _ _ _)=w5 at hbw hbg⊢;have HB5:=HB4.t hbw;have HN5:Hid (w5.heap[w4.heap.size]? =some (.cells (zf y) 48 (0,0))):=hid hbg;clear hbw hbg;obtain⟨ib,hib⟩:=nm w4.heap.size;have Hib:Hid (w.heap.size≤ib):=hid (by rw[hib];exact HB4.o.size);rw[←hib]at HN5⊢;clear hib;have n0:=(show zp w5 ib y from⟨HN5.o,HSh.o⟩).c0))
 have HNc:=hid (HN.o w5 HB5.o);go_cut[52] from 53 to 65 (fun z wx=>z= .bool false∧Hid (Below w.heap.size w wx)∧Hid (wx.heap[ib]? =some (.cells (zf y) 48 (0,0))))
 case first=>
  by_cases hk:y.k=2
  ·rw[hk]at n0;by_cases hsu:s.data.toList=u.data.toList
   ·have hsb:(s.toList==u.toList)=true:=by rw[beq_iff_eq,Lib.toList_data,Lib.toList_data];exact hsu
    clear hsu hk;go_wp2_with fail
    go_meet
    exact⟨rfl,HB5,HN5⟩
   ·have hsb:(s.toList==u.toList)=false:=by rw[beq_eq_false_iff_ne,Lib.toList_data,Lib.toList_data];exact hsu
    rw[HIn.o ⟨hk,hsu⟩]at HNc;clear hsu hk;go_wp2_with(go_at_call 105;refine HNc.o.mono ?_;rintro e w6 ⟨rfl,hb6⟩;have HB6:=HB5.t hb6;have HN6:=HN5.r hb6;clear hb6)
    go_meet
    exact⟨rfl,HB6,HN6⟩
  ·obtain⟨ky,hky⟩:=nm y.k;have hkb:(ky==2)=false:=by rw[hky];simp[hk]
   rw[←hky]at n0;clear hk hky;go_wp2_with fail
   go_meet
   exact⟨rfl,HB5,HN5⟩
 case rest=>
 obtain⟨rfl,HB6,HN6⟩:=hcut;obtain⟨w6,hw6⟩:=nm wc;rw[←hw6]at HB6 HN6⊢;clear hw6 HNc n0 HN5 HB5;have HPc:=hid (HP.o w6 HB6.o);go_wp2_with(first|(go_at_call 89;refine HPc.o.mono ?_;rintro e w7 ⟨rfl,hb7⟩;have HB7:=HB6.t hb7;have HN7:=HN6.r hb7;clear hb7;have HFc:=hid (HF.o w7 HB7.o))|(go_at_call 90;refine HFc.o.mono ?_;rintro e w8 ⟨rfl,hb8⟩;have HB8:=HB7.t hb8;have HN8:=HN7.r hb8;clear hb8))
 go_ret
 exact⟨rfl,HB8.o⟩
theorem xt{x:Nat}(s u:ByteArray)(spare:Int)(hs:¬s.data.toList=[47])(hu:¬u.data.toList=[47])(b:Bool)(i:Int)(y:Gd.Ino)(hy:y.Shape)(hIn:y.k=2∧¬s.data.toList=u.data.toList→b=false)(n:ByteArray)(d v E:Int)(hv:¬v=i)(hz:¬v=0)(hE:E≠0)(fv:Value)(w:World)(hB:Ret w 103 #[.string s,.string u] (.bool true))(hW:Ret w 25 #[.pointer (some ⟨x,0,none⟩),.string s] (.tuple #[.int .i64 i,.int .i64 0]))(hI:Ret w 17 #[.pointer (some ⟨x,0,none⟩),.int .i64 i] (.tuple #[zv y,.int .i64 0]))(hN:Ret w 105 #[.string u,.string s] (.bool b))(hP:Ret w 89 #[.pointer (some ⟨x,0,none⟩),.string u] (.tuple #[.int .i64 d,.string n,.int .i64 0]))(hF:Ret w 90 #[.pointer (some ⟨x,0,none⟩),.int .i64 d,.string n] (.tuple #[.int .i64 v,.int .i64 0]))(hO:Ret w 106 #[.pointer (some ⟨x,0,none⟩),zv y,.int .i64 v] (.tuple #[.nilFunc,.int .i64 E])):
 Calls prog 54 #[.pointer (some ⟨x,0,none⟩),.string s,.string u,.int .i64 spare] w fun e w'=>e= .returned (.int .i64 E)∧Below w.heap.size w w':=by
 have HB0:=hid (hB w (Below.refl _ _));have HW:=hid hW;have HI:=hid hI;have HN:=hid hN;have HIn:=hid hIn;have HS:=hid (zm hy);have HSh:=hid hy;have h47:=zR hs;have h47u:=zR hu;clear hs hu;have HP:=hid hP;have HF:=hid hF;have HO:=hid hO;have hvi:(v==i)=false:=by simp[hv]
 have hv0:(v==0)=false:=by simp[hz]
 have hEb:(E==0)=false:=by simp[hE]
 clear hB hW hI hN hIn hP hF hO hy;unfold zv at*;go_enter func54,ntmps54
 go_upto_region 9 with(first|(go_at_call 103;refine HB0.o.mono ?_;rintro e w2 ⟨rfl,hb2⟩;have HB2:=hid hb2;clear hb2;have HWc:=hid (HW.o w2 HB2.o))|(go_at_call 25;refine HWc.o.mono ?_;rintro e w3 ⟨rfl,hb3⟩;have HB3:=HB2.t hb3;clear hb3;have HIc:=hid (HI.o w3 HB3.o))|(go_at_call 17;refine HIc.o.mono ?_;rintro e w4 ⟨rfl,hb4⟩;have HB4:=HB3.t hb4;clear hb4)|(rw[←zA];refine wpList_store_mid rfl 48 _ _ rfl w4.heap.size 0 (zf y) rfl rfl (zd (heap_alloc_new _ _) (by rw[zc,HS.o])) (by rw[HS.o];exact sizeIno) (zr _) ?_;obtain⟨hbw,hbg⟩:=zi w4 zU 48 (zf y).toList (by rw[zc,Array.length_toList,HS.o]);generalize (World.setCells _ _ _ _)=w5 at hbw hbg⊢;have HB5:=HB4.t hbw;have HN5:Hid (w5.heap[w4.heap.size]? =some (.cells (zf y) 48 (0,0))):=hid hbg;clear hbw hbg;obtain⟨ib,hib⟩:=nm w4.heap.size;have Hib:Hid (w.heap.size≤ib):=hid (by rw[hib];exact HB4.o.size);rw[←hib]at HN5⊢;clear hib;have n0:=(show zp w5 ib y from⟨HN5.o,HSh.o⟩).c0))
 have HNc:=hid (HN.o w5 HB5.o);go_cut[52] from 53 to 65 (fun z wx=>z= .bool false∧Hid (Below w.heap.size w wx)∧Hid (wx.heap[ib]? =some (.cells (zf y) 48 (0,0))))
 case first=>
  by_cases hk:y.k=2
  ·rw[hk]at n0;by_cases hsu:s.data.toList=u.data.toList
   ·have hsb:(s.toList==u.toList)=true:=by rw[beq_iff_eq,Lib.toList_data,Lib.toList_data];exact hsu
    clear hsu hk;go_wp2_with fail
    go_meet
    exact⟨rfl,HB5,HN5⟩
   ·have hsb:(s.toList==u.toList)=false:=by rw[beq_eq_false_iff_ne,Lib.toList_data,Lib.toList_data];exact hsu
    rw[HIn.o ⟨hk,hsu⟩]at HNc;clear hsu hk;go_wp2_with(go_at_call 105;refine HNc.o.mono ?_;rintro e w6 ⟨rfl,hb6⟩;have HB6:=HB5.t hb6;have HN6:=HN5.r hb6;clear hb6)
    go_meet
    exact⟨rfl,HB6,HN6⟩
  ·obtain⟨ky,hky⟩:=nm y.k;have hkb:(ky==2)=false:=by rw[hky];simp[hk]
   rw[←hky]at n0;clear hk hky;go_wp2_with fail
   go_meet
   exact⟨rfl,HB5,HN5⟩
 case rest=>
 obtain⟨rfl,HB6,HN6⟩:=hcut;obtain⟨w6,hw6⟩:=nm wc;rw[←hw6]at HB6 HN6⊢;clear hw6 HNc n0 HN5 HB5;have HPc:=hid (HP.o w6 HB6.o);go_wp2_with(first|(go_at_call 89;refine HPc.o.mono ?_;rintro e w7 ⟨rfl,hb7⟩;have HB7:=HB6.t hb7;have HN7:=HN6.r hb7;clear hb7;have HFc:=hid (HF.o w7 HB7.o))|(go_at_call 90;refine HFc.o.mono ?_;rintro e w8 ⟨rfl,hb8⟩;have HB8:=HB7.t hb8;have HN8:=HN7.r hb8;clear hb8;have HOc:=hid (HO.o w8 HB8.o))|(refine wpList_load_row rfl 48 _ rfl ib rfl 48 (zf y) (0,0) _ HN8.o underlying48 rfl (by rw[HS.o];exact sizeIno) ?_)|(go_at_call 106;refine HOc.o.mono ?_;rintro e w9 ⟨rfl,hb9⟩;have HB9:=HB8.t hb9;clear hb9))
 go_ret
 exact⟨rfl,HB9.o⟩
theorem ZU{x:Nat}(s u:ByteArray)(spare:Int)(hs:¬s.data.toList=[47])(hu:¬u.data.toList=[47])(b:Bool)(i:Int)(y:Gd.Ino)(hy:y.Shape)(hIn:y.k=2∧¬s.data.toList=u.data.toList→b=false)(n n2:ByteArray)(d d2:Int)(hi:¬i=0)(w:World)(Q Q2 Q3:World→Prop)(R:Int→World→Prop)(hB:Ret w 103 #[.string s,.string u] (.bool true))(hW:Ret w 25 #[.pointer (some ⟨x,0,none⟩),.string s] (.tuple #[.int .i64 i,.int .i64 0]))(hI:Ret w 17 #[.pointer (some ⟨x,0,none⟩),.int .i64 i] (.tuple #[zv y,.int .i64 0]))(hN:Ret w 105 #[.string u,.string s] (.bool b))(hP:Ret w 89 #[.pointer (some ⟨x,0,none⟩),.string u] (.tuple #[.int .i64 d,.string n,.int .i64 0]))(hF:Ret w 90 #[.pointer (some ⟨x,0,none⟩),.int .i64 d,.string n] (.tuple #[.int .i64 0,.int .i64 0]))(hQ:∀W,Below w.heap.size w W→Q W)(hP2:∀W,Q W→Calls prog 89 #[.pointer (some ⟨x,0,none⟩),.string s] W fun e w'=>e= .returned (.tuple #[.int .i64 d2,.string n2,.int .i64 0])∧Q2 w')(hT:∀W,Q2 W→Calls prog 107 #[.pointer (some ⟨x,0,none⟩),.int .i64 d2,.string n2] W fun e w'=>e= .returned (.int .i64 0)∧Q3 w')(hU:∀W,Q3 W→Calls prog 104 #[.pointer (some ⟨x,0,none⟩),.int .i64 d,.string n,.int .i64 i,.int .i64 spare] W fun e w'=>∃r:Int,e= .returned (.int .i64 r)∧R r w'):
 Calls prog 54 #[.pointer (some ⟨x,0,none⟩),.string s,.string u,.int .i64 spare] w fun e w'=>∃r:Int,e= .returned (.int .i64 r)∧R r w':=by
 have HB0:=hid (hB w (Below.refl _ _));have HW:=hid hW;have HI:=hid hI;have HN:=hid hN;have HIn:=hid hIn;have HS:=hid (zm hy);have HSh:=hid hy;have h47:=zR hs;have h47u:=zR hu;clear hs hu;have HP:=hid hP;have HF:=hid hF;have HQ:=hid hQ;have HP2:=hid hP2;have HT:=hid hT;have HU:=hid hU;have hvi:((0:Int)==i)=false:=by simp;omega
 have hvi2:¬(0:Int)=i:=fun e=>hi e.symm;clear hB hW hI hN hIn hP hF hQ hP2 hT hU hy;unfold zv at*;go_enter func54,ntmps54
 go_upto_region 9 with(first|(go_at_call 103;refine HB0.o.mono ?_;rintro e w2 ⟨rfl,hb2⟩;have HB2:=hid hb2;clear hb2;have HWc:=hid (HW.o w2 HB2.o))|(go_at_call 25;refine HWc.o.mono ?_;rintro e w3 ⟨rfl,hb3⟩;have HB3:=HB2.t hb3;clear hb3;have HIc:=hid (HI.o w3 HB3.o))|(go_at_call 17;refine HIc.o.mono ?_;rintro e w4 ⟨rfl,hb4⟩;have HB4:=HB3.t hb4;clear hb4)|(rw[←zA];refine wpList_store_mid rfl 48 _ _ rfl w4.heap.size 0 (zf y) rfl rfl (zd (heap_alloc_new _ _) (by rw[zc,HS.o])) (by rw[HS.o];exact sizeIno) (zr _) ?_;obtain⟨hbw,hbg⟩:=zi w4 zU 48 (zf y).toList (by rw[zc,Array.length_toList,HS.o]);generalize (World.setCells _ _ _ _)=w5 at hbw hbg⊢;have HB5:=HB4.t hbw;have HN5:Hid (w5.heap[w4.heap.size]? =some (.cells (zf y) 48 (0,0))):=hid hbg;clear hbw hbg;obtain⟨ib,hib⟩:=nm w4.heap.size;have Hib:Hid (w.heap.size≤ib):=hid (by rw[hib];exact HB4.o.size);rw[←hib]at HN5⊢;clear hib;have n0:=(show zp w5 ib y from⟨HN5.o,HSh.o⟩).c0))
 have HNc:=hid (HN.o w5 HB5.o);go_cut[52] from 53 to 65 (fun z wx=>z= .bool false∧Hid (Below w.heap.size w wx)∧Hid (wx.heap[ib]? =some (.cells (zf y) 48 (0,0))))
 case first=>
  by_cases hk:y.k=2
  ·rw[hk]at n0;by_cases hsu:s.data.toList=u.data.toList
   ·have hsb:(s.toList==u.toList)=true:=by rw[beq_iff_eq,Lib.toList_data,Lib.toList_data];exact hsu
    clear hsu hk;go_wp2_with fail
    go_meet
    exact⟨rfl,HB5,HN5⟩
   ·have hsb:(s.toList==u.toList)=false:=by rw[beq_eq_false_iff_ne,Lib.toList_data,Lib.toList_data];exact hsu
    rw[HIn.o ⟨hk,hsu⟩]at HNc;clear hsu hk;go_wp2_with(go_at_call 105;refine HNc.o.mono ?_;rintro e w6 ⟨rfl,hb6⟩;have HB6:=HB5.t hb6;have HN6:=HN5.r hb6;clear hb6)
    go_meet
    exact⟨rfl,HB6,HN6⟩
  ·obtain⟨ky,hky⟩:=nm y.k;have hkb:(ky==2)=false:=by rw[hky];simp[hk]
   rw[←hky]at n0;clear hk hky;go_wp2_with fail
   go_meet
   exact⟨rfl,HB5,HN5⟩
 case rest=>
 obtain⟨rfl,HB6,HN6⟩:=hcut;obtain⟨w6,hw6⟩:=nm wc;rw[←hw6]at HB6 HN6⊢;clear hw6 HNc n0 HN5 HB5;have HPc:=hid (HP.o w6 HB6.o);go_upto_region 26 with(first|(go_at_call 89;refine HPc.o.mono ?_;rintro e w7 ⟨rfl,hb7⟩;have HB7:=HB6.t hb7;have HN7:=HN6.r hb7;clear hb7;have HFc:=hid (HF.o w7 HB7.o))|(go_at_call 90;refine HFc.o.mono ?_;rintro e w8 ⟨rfl,hb8⟩;have HB8:=HB7.t hb8;have HN8:=HN7.r hb8;clear hb8;have HP2c:=hid (HP2.o w8 (HQ.o w8 HB8.o))))
 go_wp2_with(first|(go_at_call 89;refine HP2c.o.mono ?_;rintro e w11 ⟨rfl,hq11⟩;have HTc:=hid (HT.o w11 hq11);clear hq11)|(go_at_call 107;refine HTc.o.mono ?_;rintro e w12 ⟨rfl,hq12⟩;have HUc:=hid (HU.o w12 hq12);clear hq12)|(go_at_call 104;refine HUc.o.mono ?_;rintro e w13 ⟨r,rfl,hr13⟩))
 go_ret
 exact⟨r,rfl,hr13⟩
theorem ZT{x:Nat}(s u:ByteArray)(spare:Int)(hs:¬s.data.toList=[47])(hu:¬u.data.toList=[47])(b:Bool)(i:Int)(y:Gd.Ino)(hy:y.Shape)(hIn:y.k=2∧¬s.data.toList=u.data.toList→b=false)(n n2:ByteArray)(d d2 v:Int)(hv:¬v=i)(hz:¬v=0)(w:World)(Q Q2 Q3:World→Prop)(R:Int→World→Prop)(hB:Ret w 103 #[.string s,.string u] (.bool true))(hW:Ret w 25 #[.pointer (some ⟨x,0,none⟩),.string s] (.tuple #[.int .i64 i,.int .i64 0]))(hI:Ret w 17 #[.pointer (some ⟨x,0,none⟩),.int .i64 i] (.tuple #[zv y,.int .i64 0]))(hN:Ret w 105 #[.string u,.string s] (.bool b))(hP:Ret w 89 #[.pointer (some ⟨x,0,none⟩),.string u] (.tuple #[.int .i64 d,.string n,.int .i64 0]))(hF:Ret w 90 #[.pointer (some ⟨x,0,none⟩),.int .i64 d,.string n] (.tuple #[.int .i64 v,.int .i64 0]))(hO:Ret w 106 #[.pointer (some ⟨x,0,none⟩),zv y,.int .i64 v] (.tuple #[.func (.func 94) #[.pointer (some ⟨x,0,none⟩)] #[],.int .i64 0]))(hM:∀W,Below w.heap.size w W→Calls prog 93 #[.pointer (some ⟨x,0,none⟩),.string u,.int .i64 v,.func (.func 94) #[.pointer (some ⟨x,0,none⟩)] #[]] W fun e w'=>e= .returned (.int .i64 0)∧Q w')(hP2:∀W,Q W→Calls prog 89 #[.pointer (some ⟨x,0,none⟩),.string s] W fun e w'=>e= .returned (.tuple #[.int .i64 d2,.string n2,.int .i64 0])∧Q2 w')(hT:∀W,Q2 W→Calls prog 107 #[.pointer (some ⟨x,0,none⟩),.int .i64 d2,.string n2] W fun e w'=>e= .returned (.int .i64 0)∧Q3 w')(hU:∀W,Q3 W→Calls prog 104 #[.pointer (some ⟨x,0,none⟩),.int .i64 d,.string n,.int .i64 i,.int .i64 spare] W fun e w'=>∃r:Int,e= .returned (.int .i64 r)∧R r w'):
 Calls prog 54 #[.pointer (some ⟨x,0,none⟩),.string s,.string u,.int .i64 spare] w fun e w'=>∃r:Int,e= .returned (.int .i64 r)∧R r w':=by
 have HB0:=hid (hB w (Below.refl _ _));have HW:=hid hW;have HI:=hid hI;have HN:=hid hN;have HIn:=hid hIn;have HS:=hid (zm hy);have HSh:=hid hy;have h47:=zR hs;have h47u:=zR hu;clear hs hu;have HP:=hid hP;have HF:=hid hF;have HO:=hid hO;have HM:=hid hM;have HP2:=hid hP2;have HT:=hid hT;have HU:=hid hU;have hvi:(v==i)=false:=by simp[hv]
 have hv0:(v==0)=false:=by simp[hz]
 clear hB hW hI hN hIn hP hF hO hM hP2 hT hU hy;unfold zv at*;go_enter func54,ntmps54
 go_upto_region 9 with(first|(go_at_call 103;refine HB0.o.mono ?_;rintro e w2 ⟨rfl,hb2⟩;have HB2:=hid hb2;clear hb2;have HWc:=hid (HW.o w2 HB2.o))|(go_at_call 25;refine HWc.o.mono ?_;rintro e w3 ⟨rfl,hb3⟩;have HB3:=HB2.t hb3;clear hb3;have HIc:=hid (HI.o w3 HB3.o))|(go_at_call 17;refine HIc.o.mono ?_;rintro e w4 ⟨rfl,hb4⟩;have HB4:=HB3.t hb4;clear hb4)|(rw[←zA];refine wpList_store_mid rfl 48 _ _ rfl w4.heap.size 0 (zf y) rfl rfl (zd (heap_alloc_new _ _) (by rw[zc,HS.o])) (by rw[HS.o];exact sizeIno) (zr _) ?_;obtain⟨hbw,hbg⟩:=zi w4 zU 48 (zf y).toList (by rw[zc,Array.length_toList,HS.o]);generalize (World.setCells _ _ _ _)=w5 at hbw hbg⊢;have HB5:=HB4.t hbw;have HN5:Hid (w5.heap[w4.heap.size]? =some (.cells (zf y) 48 (0,0))):=hid hbg;clear hbw hbg;obtain⟨ib,hib⟩:=nm w4.heap.size;have Hib:Hid (w.heap.size≤ib):=hid (by rw[hib];exact HB4.o.size);rw[←hib]at HN5⊢;clear hib;have n0:=(show zp w5 ib y from⟨HN5.o,HSh.o⟩).c0))
 have HNc:=hid (HN.o w5 HB5.o);go_cut[52] from 53 to 65 (fun z wx=>z= .bool false∧Hid (Below w.heap.size w wx)∧Hid (wx.heap[ib]? =some (.cells (zf y) 48 (0,0))))
 case first=>
  by_cases hk:y.k=2
  ·rw[hk]at n0;by_cases hsu:s.data.toList=u.data.toList
   ·have hsb:(s.toList==u.toList)=true:=by rw[beq_iff_eq,Lib.toList_data,Lib.toList_data];exact hsu
    clear hsu hk;go_wp2_with fail
    go_meet
    exact⟨rfl,HB5,HN5⟩
   ·have hsb:(s.toList==u.toList)=false:=by rw[beq_eq_false_iff_ne,Lib.toList_data,Lib.toList_data];exact hsu
    rw[HIn.o ⟨hk,hsu⟩]at HNc;clear hsu hk;go_wp2_with(go_at_call 105;refine HNc.o.mono ?_;rintro e w6 ⟨rfl,hb6⟩;have HB6:=HB5.t hb6;have HN6:=HN5.r hb6;clear hb6)
    go_meet
    exact⟨rfl,HB6,HN6⟩
  ·obtain⟨ky,hky⟩:=nm y.k;have hkb:(ky==2)=false:=by rw[hky];simp[hk]
   rw[←hky]at n0;clear hk hky;go_wp2_with fail
   go_meet
   exact⟨rfl,HB5,HN5⟩
 case rest=>
 obtain⟨rfl,HB6,HN6⟩:=hcut;obtain⟨w6,hw6⟩:=nm wc;rw[←hw6]at HB6 HN6⊢;clear hw6 HNc n0 HN5 HB5;have HPc:=hid (HP.o w6 HB6.o);go_upto_region 23 with(first|(go_at_call 89;refine HPc.o.mono ?_;rintro e w7 ⟨rfl,hb7⟩;have HB7:=HB6.t hb7;have HN7:=HN6.r hb7;clear hb7;have HFc:=hid (HF.o w7 HB7.o))|(go_at_call 90;refine HFc.o.mono ?_;rintro e w8 ⟨rfl,hb8⟩;have HB8:=HB7.t hb8;have HN8:=HN7.r hb8;clear hb8;have HOc:=hid (HO.o w8 HB8.o))|(refine wpList_load_row rfl 48 _ rfl ib rfl 48 (zf y) (0,0) _ HN8.o underlying48 rfl (by rw[HS.o];exact sizeIno) ?_)|(go_at_call 106;refine HOc.o.mono ?_;rintro e w9 ⟨rfl,hb9⟩;have HB9:=HB8.t hb9;clear hb9))
 have HMc:=hid (HM.o w9 HB9.o);go_wp2_with fail
 refine HMc.o.mono ?_;rintro e w10 ⟨rfl,hq10⟩;have HP2c:=hid (HP2.o w10 hq10);clear hq10;go_wp2_with(first|(go_at_call 89;refine HP2c.o.mono ?_;rintro e w11 ⟨rfl,hq11⟩;have HTc:=hid (HT.o w11 hq11);clear hq11)|(go_at_call 107;refine HTc.o.mono ?_;rintro e w12 ⟨rfl,hq12⟩;have HUc:=hid (HU.o w12 hq12);clear hq12)|(go_at_call 104;refine HUc.o.mono ?_;rintro e w13 ⟨r,rfl,hr13⟩))
 go_ret
 exact⟨r,rfl,hr13⟩
theorem Zb{x:Nat}(s u:ByteArray)(spare:Int)(hs:¬s.data.toList=[47])(hu:¬u.data.toList=[47])(b:Bool)(i:Int)(y:Gd.Ino)(hy:y.Shape)(hIn:y.k=2∧¬s.data.toList=u.data.toList→b=false)(n n2:ByteArray)(d d2 v:Int)(hv:¬v=i)(hz:¬v=0)(w:World)(Q Q2 Q3:World→Prop)(R:Int→World→Prop)(hB:Ret w 103 #[.string s,.string u] (.bool true))(hW:Ret w 25 #[.pointer (some ⟨x,0,none⟩),.string s] (.tuple #[.int .i64 i,.int .i64 0]))(hI:Ret w 17 #[.pointer (some ⟨x,0,none⟩),.int .i64 i] (.tuple #[zv y,.int .i64 0]))(hN:Ret w 105 #[.string u,.string s] (.bool b))(hP:Ret w 89 #[.pointer (some ⟨x,0,none⟩),.string u] (.tuple #[.int .i64 d,.string n,.int .i64 0]))(hF:Ret w 90 #[.pointer (some ⟨x,0,none⟩),.int .i64 d,.string n] (.tuple #[.int .i64 v,.int .i64 0]))(hO:Ret w 106 #[.pointer (some ⟨x,0,none⟩),zv y,.int .i64 v] (.tuple #[.func (.func 102) #[.pointer (some ⟨x,0,none⟩)] #[],.int .i64 0]))(hM:∀W,Below w.heap.size w W→Calls prog 93 #[.pointer (some ⟨x,0,none⟩),.string u,.int .i64 v,.func (.func 102) #[.pointer (some ⟨x,0,none⟩)] #[]] W fun e w'=>e= .returned (.int .i64 0)∧Q w')(hP2:∀W,Q W→Calls prog 89 #[.pointer (some ⟨x,0,none⟩),.string s] W fun e w'=>e= .returned (.tuple #[.int .i64 d2,.string n2,.int .i64 0])∧Q2 w')(hT:∀W,Q2 W→Calls prog 107 #[.pointer (some ⟨x,0,none⟩),.int .i64 d2,.string n2] W fun e w'=>e= .returned (.int .i64 0)∧Q3 w')(hU:∀W,Q3 W→Calls prog 104 #[.pointer (some ⟨x,0,none⟩),.int .i64 d,.string n,.int .i64 i,.int .i64 spare] W fun e w'=>∃r:Int,e= .returned (.int .i64 r)∧R r w'):
 Calls prog 54 #[.pointer (some ⟨x,0,none⟩),.string s,.string u,.int .i64 spare] w fun e w'=>∃r:Int,e= .returned (.int .i64 r)∧R r w':=by
 have HB0:=hid (hB w (Below.refl _ _));have HW:=hid hW;have HI:=hid hI;have HN:=hid hN;have HIn:=hid hIn;have HS:=hid (zm hy);have HSh:=hid hy;have h47:=zR hs;have h47u:=zR hu;clear hs hu;have HP:=hid hP;have HF:=hid hF;have HO:=hid hO;have HM:=hid hM;have HP2:=hid hP2;have HT:=hid hT;have HU:=hid hU;have hvi:(v==i)=false:=by simp[hv]
 have hv0:(v==0)=false:=by simp[hz]
 clear hB hW hI hN hIn hP hF hO hM hP2 hT hU hy;unfold zv at*;go_enter func54,ntmps54
 go_upto_region 9 with(first|(go_at_call 103;refine HB0.o.mono ?_;rintro e w2 ⟨rfl,hb2⟩;have HB2:=hid hb2;clear hb2;have HWc:=hid (HW.o w2 HB2.o))|(go_at_call 25;refine HWc.o.mono ?_;rintro e w3 ⟨rfl,hb3⟩;have HB3:=HB2.t hb3;clear hb3;have HIc:=hid (HI.o w3 HB3.o))|(go_at_call 17;refine HIc.o.mono ?_;rintro e w4 ⟨rfl,hb4⟩;have HB4:=HB3.t hb4;clear hb4)|(rw[←zA];refine wpList_store_mid rfl 48 _ _ rfl w4.heap.size 0 (zf y) rfl rfl (zd (heap_alloc_new _ _) (by rw[zc,HS.o])) (by rw[HS.o];exact sizeIno) (zr _) ?_;obtain⟨hbw,hbg⟩:=zi w4 zU 48 (zf y).toList (by rw[zc,Array.length_toList,HS.o]);generalize (World.setCells _ _ _ _)=w5 at hbw hbg⊢;have HB5:=HB4.t hbw;have HN5:Hid (w5.heap[w4.heap.size]? =some (.cells (zf y) 48 (0,0))):=hid hbg;clear hbw hbg;obtain⟨ib,hib⟩:=nm w4.heap.size;have Hib:Hid (w.heap.size≤ib):=hid (by rw[hib];exact HB4.o.size);rw[←hib]at HN5⊢;clear hib;have n0:=(show zp w5 ib y from⟨HN5.o,HSh.o⟩).c0))
 have HNc:=hid (HN.o w5 HB5.o);go_cut[52] from 53 to 65 (fun z wx=>z= .bool false∧Hid (Below w.heap.size w wx)∧Hid (wx.heap[ib]? =some (.cells (zf y) 48 (0,0))))
 case first=>
  by_cases hk:y.k=2
  ·rw[hk]at n0;by_cases hsu:s.data.toList=u.data.toList
   ·have hsb:(s.toList==u.toList)=true:=by rw[beq_iff_eq,Lib.toList_data,Lib.toList_data];exact hsu
    clear hsu hk;go_wp2_with fail
    go_meet
    exact⟨rfl,HB5,HN5⟩
   ·have hsb:(s.toList==u.toList)=false:=by rw[beq_eq_false_iff_ne,Lib.toList_data,Lib.toList_data];exact hsu
    rw[HIn.o ⟨hk,hsu⟩]at HNc;clear hsu hk;go_wp2_with(go_at_call 105;refine HNc.o.mono ?_;rintro e w6 ⟨rfl,hb6⟩;have HB6:=HB5.t hb6;have HN6:=HN5.r hb6;clear hb6)
    go_meet
    exact⟨rfl,HB6,HN6⟩
  ·obtain⟨ky,hky⟩:=nm y.k;have hkb:(ky==2)=false:=by rw[hky];simp[hk]
   rw[←hky]at n0;clear hk hky;go_wp2_with fail
   go_meet
   exact⟨rfl,HB5,HN5⟩
 case rest=>
 obtain⟨rfl,HB6,HN6⟩:=hcut;obtain⟨w6,hw6⟩:=nm wc;rw[←hw6]at HB6 HN6⊢;clear hw6 HNc n0 HN5 HB5;have HPc:=hid (HP.o w6 HB6.o);go_upto_region 23 with(first|(go_at_call 89;refine HPc.o.mono ?_;rintro e w7 ⟨rfl,hb7⟩;have HB7:=HB6.t hb7;have HN7:=HN6.r hb7;clear hb7;have HFc:=hid (HF.o w7 HB7.o))|(go_at_call 90;refine HFc.o.mono ?_;rintro e w8 ⟨rfl,hb8⟩;have HB8:=HB7.t hb8;have HN8:=HN7.r hb8;clear hb8;have HOc:=hid (HO.o w8 HB8.o))|(refine wpList_load_row rfl 48 _ rfl ib rfl 48 (zf y) (0,0) _ HN8.o underlying48 rfl (by rw[HS.o];exact sizeIno) ?_)|(go_at_call 106;refine HOc.o.mono ?_;rintro e w9 ⟨rfl,hb9⟩;have HB9:=HB8.t hb9;clear hb9))
 have HMc:=hid (HM.o w9 HB9.o);go_wp2_with fail
 refine HMc.o.mono ?_;rintro e w10 ⟨rfl,hq10⟩;have HP2c:=hid (HP2.o w10 hq10);clear hq10;go_wp2_with(first|(go_at_call 89;refine HP2c.o.mono ?_;rintro e w11 ⟨rfl,hq11⟩;have HTc:=hid (HT.o w11 hq11);clear hq11)|(go_at_call 107;refine HTc.o.mono ?_;rintro e w12 ⟨rfl,hq12⟩;have HUc:=hid (HU.o w12 hq12);clear hq12)|(go_at_call 104;refine HUc.o.mono ?_;rintro e w13 ⟨r,rfl,hr13⟩))
 go_ret
 exact⟨r,rfl,hr13⟩
end Go.Proofs.YtjlpkbhgphjpeaaGreatDoor
