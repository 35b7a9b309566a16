/- Walk: commonslaw17: does: deeds of kind 2. -/
import Derived.Test.YtccpdkjonepoiaaGreatDoorT34
set_option linter.unusedVariables false
set_option linter.unusedSimpArgs false
set_option linter.unusedSectionVars false
set_option maxHeartbeats 8000000
set_option maxRecDepth 100000
namespace Go.Proofs.YtccpdkjonepoiaaGreatDoor
open Go.RowKit
open Lib(hid)
open Go.Proofs.Tryz
section
open Go.Shelf
attribute [local go_sem] Oper.semAt_some
section
variable {o x t f K n p v r m:Nat} {R:RvB} {V U U2:Gd.Vl} {w a b:World} {Ls Lr:List (Nat×Obj)}
theorem Ui[zc](h:Bv o x t f R V V K w a [(p,zo o R.r)])(hok:V.Ok)(d:Dd)(hkd:d.kd=2)(hpc:d.pn≤d.pc)(hpl:d.pc≤9223372036854775807)(hdl:d.r.d.length≤9223372036854775807)(hk:jb w d.pA (min d.pn 300))(hK:K<90000000000)(hn:V.n≤100000):
 Calls prog 20 #[.pointer (some ⟨p,0,none⟩),.agg (ddC d)] a fun e b=>e= .returned (.bool true)∧∃o2 x2 t2 f2:Nat,Bv o2 x2 t2 f2 R (doD V d) (doD V d) (K+2000000000) w b [(p,zo o2 R.r)]:=by
 obtain⟨w1,hw1⟩:=nm (a.alloc (.cells (ddC d) 60));obtain⟨bd,hbd⟩:=nm a.heap.size;have hb1:Below a.heap.size a w1:=by rw[hw1];exact(Below.refl _ _).alloc (Nat.le_refl _) _
 have hg1:w1.heap[bd]? =some (.cells (ddC d) 60 (0,0)):=by rw[hw1,hbd];exact heap_alloc_new _ _
 have HCu:=hid (qk d w1 hpc hpl hdl);have HB:=hid h;have HOk:=hid hok;have HKd:=hid (And.intro hkd (And.intro hK (And.intro hn hk)));have HW1:=hid hw1.symm;have Hbd:=hid hbd.symm;have HB1:=hid hb1;have HG1:=hid hg1;have hrow:=jF hg1;obtain⟨VD,hVD⟩:=nm (doD V d);rw[←hVD];have HVD:=hid hVD;unfold ddC at HW1;clear h hok hkd hpc hpl hdl hk hK hn hw1 hbd hb1 hg1 hVD;go_enter func20,ntmps20;unfold ddC;go_upto_region 1 with fail
 rw[HW1.o,Hbd.o];go_wp2_with(refine wpList_load_mid rfl 60 _ rfl bd 0 rfl (ddC d).toList _ hrow underlying60 rfl sizeDd ?_)
 refine HCu.o.mono ?_;rintro e w2 ⟨rfl,hb2⟩;have HG2:=hid ((hb2.block bd (za HG1.o)).trans HG1.o);have HB2:=HB1.t hb2;clear hrow hb2 HCu;go_upto_region 2 with(refine wpList_store_mid rfl 60 _ _ rfl bd 0 (ddC d.cut) rfl rfl (zf HG2.o rfl) sizeDd (qs _) ?_;obtain⟨hbw,hbg⟩:=zh HG2.o (vs:=(ddC d.cut).toList) (B:=a.heap.size) rfl (by have:=Hbd.o;omega);generalize (World.setCells _ _ _ _)=w3 at hbw hbg⊢)
 have HB3:=hid (HB2.o.trans hbw);obtain⟨kd,cl,r,ee,hh,rp,ke,ki,wr,pA,pn0,pc⟩:=d;obtain⟨rc,ri,rt,ro,dd⟩:=r;unfold Dd.cut ddC at hbg;dsimp only at hbg HKd HVD;obtain⟨s8,hs8⟩:∃s:ByteArray,s=⟨(dd.take 80).toArray⟩:=⟨_,rfl⟩;obtain⟨pn,hpn⟩:=nm (min pn0 300);have hbg':w3.heap[bd]? =some (.cells #[.int .i64 kd,.int .i64 cl,.int .i64 rc,.int .i64 ri,.bool rt,.int .i64 ro,.string s8,.int .i64 ee,.int .i64 hh,.int .i64 rp,.int .i64 ke,.int .i64 ki,.int .i64 wr,.slice pA pn pc] 60 (0,0)):=by rw[hs8,hpn];exact hbg
 have HV3:Hid (Bv o x t f R V V K w w3 [(bd,.cells #[.int .i64 kd,.int .i64 cl,.int .i64 rc,.int .i64 ri,.bool rt,.int .i64 ro,.string s8,.int .i64 ee,.int .i64 hh,.int .i64 rp,.int .i64 ke,.int .i64 ki,.int .i64 wr,.slice pA pn pc] 60 (0,0)),(p,zo o R.r)]):=hid (HB.o.news (Lu:=[(bd,.cells #[.int .i64 kd,.int .i64 cl,.int .i64 rc,.int .i64 ri,.bool rt,.int .i64 ro,.string s8,.int .i64 ee,.int .i64 hh,.int .i64 rp,.int .i64 ke,.int .i64 ki,.int .i64 wr,.slice pA pn pc] 60 (0,0))]) HB3.o fun q hq=>by
  rw[List.mem_singleton.1 hq];exact⟨by show a.heap.size≤bd;have:=Hbd.o;omega,hbg'⟩)
 have HNo:Hid (∀q∈([(bd,.cells #[.int .i64 kd,.int .i64 cl,.int .i64 rc,.int .i64 ri,.bool rt,.int .i64 ro,.string s8,.int .i64 ee,.int .i64 hh,.int .i64 rp,.int .i64 ke,.int .i64 ki,.int .i64 wr,.slice pA pn pc] 60 (0,0)),(p,zo o R.r)]:List (Nat×Obj)),¬R.has q.1):=hid fun q hq hR=>by
  have hl:=HB.o.ref.lt hR;have hbe:=Hbd.o;rcases List.mem_cons.1 hq with rfl|hq
  ·dsimp only at hl;omega
  ·rw[List.mem_singleton.1 hq]at hR;exact HB.o.apart (List.mem_singleton.2 rfl) hR
 have HS8:=hid (And.intro hs8 hpn)
 have HCl:Hid (∀W:World,W.heap[p]? =some (zo o R.r)→W.heap[bd]? =some (.cells #[.int .i64 kd,.int .i64 cl,.int .i64 rc,.int .i64 ri,.bool rt,.int .i64 ro,.string s8,.int .i64 ee,.int .i64 hh,.int .i64 rp,.int .i64 ke,.int .i64 ki,.int .i64 wr,.slice pA pn pc] 60 (0,0))→W.cell? ⟨p,1,none⟩=some (.pointer (some ⟨o,0,none⟩))∧W.cell? ⟨p,2,none⟩=some (.pointer (some ⟨R.r,0,none⟩))∧W.cell? ⟨bd,1,none⟩=some (.int .i64 cl)∧(W.cell? ⟨bd,7,none⟩=some (.int .i64 ee)∧W.cell? ⟨bd,8,none⟩=some (.int .i64 hh)∧W.cell? ⟨bd,9,none⟩=some (.int .i64 rp)∧W.cell? ⟨bd,10,none⟩=some (.int .i64 ke)∧W.cell? ⟨bd,11,none⟩=some (.int .i64 ki)∧W.cell? ⟨bd,12,none⟩=some (.int .i64 wr))):=hid fun W q1 q2=>⟨(zl q1).2.1,(zl q1).2.2,cell_of_row W bd 1 _ _ _ q2,cell_of_row W bd 7 _ _ _ q2,cell_of_row W bd 8 _ _ _ q2,cell_of_row W bd 9 _ _ _ q2,cell_of_row W bd 10 _ _ _ q2,cell_of_row W bd 11 _ _ _ q2,cell_of_row W bd 12 _ _ _ q2⟩
 have HGp:Hid (w3.heap[p]? =some (zo o R.r)):=hid (HV3.o.get (List.mem_cons_of_mem _ (List.mem_singleton.2 rfl)));have HGb:=hid hbg';have kd0:=cell_of_row w3 bd 0 _ _ _ hbg';clear hbw hbg hbg' hs8 hpn HG1 HG2 HB1 HB2 HW1;obtain rfl:kd=2:=HKd.o.1
 have HVe:Hid (VD=if(⟨2,cl,⟨rc,ri,rt,ro,dd⟩,ee,hh,rp,ke,ki,wr,pA,pn0,pc⟩:Dd).inC=true then V.take cl.toNat else V):=hid HVD.o;have hs0:=HCl.o w3.drew HGp.o HGb.o;by_cases hin:(⟨2,cl,⟨rc,ri,rt,ro,dd⟩,ee,hh,rp,ke,ki,wr,pA,pn0,pc⟩:Dd).inC=true
 ·have hin2:=of_decide_eq_true hin;dsimp only at hin2;have hVe:=HVe.o;rw[if_pos hin]at hVe;obtain⟨d,hd⟩:∃d:Nat,cl=(d:Int)+1:=⟨(cl-1).toNat,by omega⟩;have hcd:cl.toNat=d+1:=by omega
  have hd8:d<8:=by omega
  rw[hcd]at hVe;have h1:=(HV3.o.below (Below.refl _ _).drew).takeV HOk.o (d+1) (by omega) (by omega) (by have:=HKd.o.2.1;omega) (by have:=HKd.o.2.2.1;omega);rw[show((d+1:Nat):Int)=cl by omega]at h1;have HS1:=hid h1;have HY:=hid (And.intro hd hd8);have HVf:=hid hVe;clear h1 hin hin2 hVe hd hcd hd8;go_upto_region 10 with fail
  refine wp_region_held_drew (S:=(fun W=>W.cell? ⟨p,1,none⟩=some (.pointer (some ⟨o,0,none⟩))∧W.cell? ⟨p,2,none⟩=some (.pointer (some ⟨R.r,0,none⟩))∧W.cell? ⟨bd,1,none⟩=some (.int .i64 cl)∧(W.cell? ⟨bd,7,none⟩=some (.int .i64 ee)∧W.cell? ⟨bd,8,none⟩=some (.int .i64 hh)∧W.cell? ⟨bd,9,none⟩=some (.int .i64 rp)∧W.cell? ⟨bd,10,none⟩=some (.int .i64 ke)∧W.cell? ⟨bd,11,none⟩=some (.int .i64 ki)∧W.cell? ⟨bd,12,none⟩=some (.int .i64 wr)))) (by kernel_rfl) ?_ (fun hHeld=> ?_)
  ·exact hs0
  refine tk 0 ?_;refine tk 1 ?_;refine tk 2 ?_;refine tk 3 ?_;refine tk 4 ?_;refine tk 5 ?_;refine rd 6 (fun K hK=> ?_);go_simp
  refine HS1.o.mono ?_;rintro e w4 ⟨u4,rfl,hr4,h4⟩;have H4:=hid (And.intro hr4 h4);have hs1:=HCl.o w4 (h4.get (List.mem_cons_of_mem _ (List.mem_singleton.2 rfl))) (h4.get (List.mem_cons_self ..));clear hr4 h4;try dsimp only
  refine hK.o _ _ hs1 (fun hHeld=> ?_);clear hK K;try simp only[put]
  refine tk 7 ?_;refine tk 8 ?_;refine tk 9 ?_;refine tk 10 ?_;refine tk 11 ?_;refine dn ?_
  (try simp only[Exit.then])
  clear hs0 hs1 HS1 kd0;have hs2:=HCl.o w4.drew (H4.o.2.get (List.mem_cons_of_mem _ (List.mem_singleton.2 rfl))) (H4.o.2.get (List.mem_cons_self ..));have HS2:=hid (uP (H4.o.2.below (Below.refl _ _).drew).ref HOk.o cl d HY.o.1 HY.o.2 (by have:=HKd.o.2.2.1;omega));go_upto_region 11 with fail
  refine wp_region_held_drew (S:=(fun W=>W.cell? ⟨p,1,none⟩=some (.pointer (some ⟨o,0,none⟩))∧W.cell? ⟨p,2,none⟩=some (.pointer (some ⟨R.r,0,none⟩))∧W.cell? ⟨bd,1,none⟩=some (.int .i64 cl)∧(W.cell? ⟨bd,7,none⟩=some (.int .i64 ee)∧W.cell? ⟨bd,8,none⟩=some (.int .i64 hh)∧W.cell? ⟨bd,9,none⟩=some (.int .i64 rp)∧W.cell? ⟨bd,10,none⟩=some (.int .i64 ke)∧W.cell? ⟨bd,11,none⟩=some (.int .i64 ki)∧W.cell? ⟨bd,12,none⟩=some (.int .i64 wr)))) (by kernel_rfl) ?_ (fun hHeld=> ?_)
  ·exact hs2
  refine tk 0 ?_;refine tk 1 ?_;refine tk 2 ?_;refine tk 3 ?_;refine tk 4 ?_;refine tk 5 ?_;refine rd 6 (fun K hK=> ?_);go_simp
  refine HS2.o.mono ?_;rintro e w5 ⟨u5,rfl,hr5,hC5,hO5⟩;have H5:=hid ((H4.o.2.below (Below.refl _ _).drew).turn hO5 hC5 HNo.o);have HR5:=hid (And.intro hr5 hO5);have hs3:=HCl.o w5 (H5.o.get (List.mem_cons_of_mem _ (List.mem_singleton.2 rfl))) (H5.o.get (List.mem_cons_self ..));clear hr5 hC5 hO5;try dsimp only
  refine hK.o _ _ hs3 (fun hHeld=> ?_);clear hK K;try simp only[put]
  refine tk 7 ?_;refine tk 8 ?_;refine tk 9 ?_;refine tk 10 ?_;refine tk 11 ?_;refine dn ?_
  (try simp only[Exit.then])
  have hlt:∀q,w3.drew.heap.size≤q→¬R.has q:=fun q hq hR=>by
   have:=(HV3.o.below (Below.refl _ _).drew).ref.lt hR
   omega
  have hrow4:=yy (F:=R.has) (zx H4.o.1 (Below.refl _ _).drew) hlt HR5.o.2;have HSm:=hid (yk u4 u5 (V.taken (d+1)) w5 (yC hrow4) (yC HR5.o.1) (by
   have h1:=yF (d+1) (V.pend (d+1)) V;have h2:(V.pend (d+1)).length≤59:=Gd.scanL_few _ _ _;have h3:(V.taken (d+1)).length≤(V.pend (d+1)).length:=h1;omega))
  clear hs2 hs3 HS2 hlt hrow4;go_wp2_with fail
  refine HSm.o.mono ?_;rintro e w6 ⟨rfl,hb6⟩;have H6:=hid (H5.o.below hb6);clear hb6 HSm;go_wp2_with fail
  go_ret
  rw[HVf.o];exact⟨rfl,o,x,t,f,(H6.o.less fun q hq=>List.mem_cons_of_mem _ hq).more (by omega)⟩
 ·have hno:¬(1≤cl∧cl≤8):=fun h=>hin (decide_eq_true h);have hVe:=HVe.o;rw[if_neg hin]at hVe;have HVf:=hid hVe;have HS1:=hid (XQ cl w3.drew (HV3.o.below (Below.refl _ _).drew).vol hno);have HNg:=hid hno;clear hin hno hVe;go_upto_region 10 with fail
  refine wp_region_held_drew (S:=(fun W=>W.cell? ⟨p,1,none⟩=some (.pointer (some ⟨o,0,none⟩))∧W.cell? ⟨p,2,none⟩=some (.pointer (some ⟨R.r,0,none⟩))∧W.cell? ⟨bd,1,none⟩=some (.int .i64 cl)∧(W.cell? ⟨bd,7,none⟩=some (.int .i64 ee)∧W.cell? ⟨bd,8,none⟩=some (.int .i64 hh)∧W.cell? ⟨bd,9,none⟩=some (.int .i64 rp)∧W.cell? ⟨bd,10,none⟩=some (.int .i64 ke)∧W.cell? ⟨bd,11,none⟩=some (.int .i64 ki)∧W.cell? ⟨bd,12,none⟩=some (.int .i64 wr)))) (by kernel_rfl) ?_ (fun hHeld=> ?_)
  ·exact hs0
  refine tk 0 ?_;refine tk 1 ?_;refine tk 2 ?_;refine tk 3 ?_;refine tk 4 ?_;refine tk 5 ?_;refine rd 6 (fun K hK=> ?_);go_simp
  refine HS1.o.mono ?_;rintro e w4 ⟨rfl,h4⟩;have H4:=hid ((HV3.o.below (Below.refl _ _).drew).below h4);have hs1:=HCl.o w4 (H4.o.get (List.mem_cons_of_mem _ (List.mem_singleton.2 rfl))) (H4.o.get (List.mem_cons_self ..));clear h4;try dsimp only
  refine hK.o _ _ hs1 (fun hHeld=> ?_);clear hK K;try simp only[put]
  refine tk 7 ?_;refine tk 8 ?_;refine tk 9 ?_;refine tk 10 ?_;refine tk 11 ?_;refine dn ?_
  (try simp only[Exit.then])
  clear hs0 hs1 HS1 kd0;have hs2:=HCl.o w4.drew (H4.o.get (List.mem_cons_of_mem _ (List.mem_singleton.2 rfl))) (H4.o.get (List.mem_cons_self ..));have HS2:=hid (X7 cl HNg.o R.r w4.drew);go_upto_region 11 with fail
  refine wp_region_held_drew (S:=(fun W=>W.cell? ⟨p,1,none⟩=some (.pointer (some ⟨o,0,none⟩))∧W.cell? ⟨p,2,none⟩=some (.pointer (some ⟨R.r,0,none⟩))∧W.cell? ⟨bd,1,none⟩=some (.int .i64 cl)∧(W.cell? ⟨bd,7,none⟩=some (.int .i64 ee)∧W.cell? ⟨bd,8,none⟩=some (.int .i64 hh)∧W.cell? ⟨bd,9,none⟩=some (.int .i64 rp)∧W.cell? ⟨bd,10,none⟩=some (.int .i64 ke)∧W.cell? ⟨bd,11,none⟩=some (.int .i64 ki)∧W.cell? ⟨bd,12,none⟩=some (.int .i64 wr)))) (by kernel_rfl) ?_ (fun hHeld=> ?_)
  ·exact hs2
  refine tk 0 ?_;refine tk 1 ?_;refine tk 2 ?_;refine tk 3 ?_;refine tk 4 ?_;refine tk 5 ?_;refine rd 6 (fun K hK=> ?_);go_simp
  refine HS2.o.mono ?_;rintro e w5 ⟨rfl,rfl⟩;try dsimp only
  refine hK.o _ _ hs2 (fun hHeld=> ?_);clear hK K;try simp only[put]
  refine tk 7 ?_;refine tk 8 ?_;refine tk 9 ?_;refine tk 10 ?_;refine tk 11 ?_;refine dn ?_
  (try simp only[Exit.then])
  have H5:=hid (H4.o.below (Below.refl _ _).drew);have hz:xM w4.drew (.slice none 0 0) []:=⟨none,0,rfl,Or.inl ⟨rfl,rfl⟩⟩;have HSm:=hid (yk (.slice none 0 0) (.slice none 0 0) [] w4.drew hz hz (by simp));clear hs2 HS2 hz;go_wp2_with fail
  refine HSm.o.mono ?_;rintro e w6 ⟨rfl,hb6⟩;have H6:=hid (H5.o.below hb6);clear hb6 HSm;go_wp2_with fail
  go_ret
  rw[HVf.o];exact⟨rfl,o,x,t,f,(H6.o.less fun q hq=>List.mem_cons_of_mem _ hq).more (by omega)⟩
end
end
section
open Go.Shelf
attribute [local go_sem] Oper.semAt_some
section
variable {o x t f K n p v r m:Nat} {R:RvB} {V U U2:Gd.Vl} {w a b:World} {Ls Lr:List (Nat×Obj)}
theorem Uh[zc](h:Bv o x t f R V V K w a [(p,zo o R.r)])(hok:V.Ok)(d:Dd)(hkd:d.kd=3)(hpc:d.pn≤d.pc)(hpl:d.pc≤9223372036854775807)(hdl:d.r.d.length≤9223372036854775807)(hk:jb w d.pA (min d.pn 300))(hK:K<90000000000)(hn:V.n≤100000):
 Calls prog 20 #[.pointer (some ⟨p,0,none⟩),.agg (ddC d)] a fun e b=>e= .returned (.bool true)∧∃o2 x2 t2 f2:Nat,Bv o2 x2 t2 f2 R (doD V d) (doD V d) (K+2000000000) w b [(p,zo o2 R.r)]:=by
 obtain⟨w1,hw1⟩:=nm (a.alloc (.cells (ddC d) 60));obtain⟨bd,hbd⟩:=nm a.heap.size;have hb1:Below a.heap.size a w1:=by rw[hw1];exact(Below.refl _ _).alloc (Nat.le_refl _) _
 have hg1:w1.heap[bd]? =some (.cells (ddC d) 60 (0,0)):=by rw[hw1,hbd];exact heap_alloc_new _ _
 have HCu:=hid (qk d w1 hpc hpl hdl);have HB:=hid h;have HOk:=hid hok;have HKd:=hid (And.intro hkd (And.intro hK (And.intro hn hk)));have HW1:=hid hw1.symm;have Hbd:=hid hbd.symm;have HB1:=hid hb1;have HG1:=hid hg1;have hrow:=jF hg1;obtain⟨VD,hVD⟩:=nm (doD V d);rw[←hVD];have HVD:=hid hVD;unfold ddC at HW1;clear h hok hkd hpc hpl hdl hk hK hn hw1 hbd hb1 hg1 hVD;go_enter func20,ntmps20;unfold ddC;go_upto_region 1 with fail
 rw[HW1.o,Hbd.o];go_wp2_with(refine wpList_load_mid rfl 60 _ rfl bd 0 rfl (ddC d).toList _ hrow underlying60 rfl sizeDd ?_)
 refine HCu.o.mono ?_;rintro e w2 ⟨rfl,hb2⟩;have HG2:=hid ((hb2.block bd (za HG1.o)).trans HG1.o);have HB2:=HB1.t hb2;clear hrow hb2 HCu;go_upto_region 2 with(refine wpList_store_mid rfl 60 _ _ rfl bd 0 (ddC d.cut) rfl rfl (zf HG2.o rfl) sizeDd (qs _) ?_;obtain⟨hbw,hbg⟩:=zh HG2.o (vs:=(ddC d.cut).toList) (B:=a.heap.size) rfl (by have:=Hbd.o;omega);generalize (World.setCells _ _ _ _)=w3 at hbw hbg⊢)
 have HB3:=hid (HB2.o.trans hbw);obtain⟨kd,cl,r,ee,hh,rp,ke,ki,wr,pA,pn0,pc⟩:=d;obtain⟨rc,ri,rt,ro,dd⟩:=r;unfold Dd.cut ddC at hbg;dsimp only at hbg HKd HVD;obtain⟨s8,hs8⟩:∃s:ByteArray,s=⟨(dd.take 80).toArray⟩:=⟨_,rfl⟩;obtain⟨pn,hpn⟩:=nm (min pn0 300);have hbg':w3.heap[bd]? =some (.cells #[.int .i64 kd,.int .i64 cl,.int .i64 rc,.int .i64 ri,.bool rt,.int .i64 ro,.string s8,.int .i64 ee,.int .i64 hh,.int .i64 rp,.int .i64 ke,.int .i64 ki,.int .i64 wr,.slice pA pn pc] 60 (0,0)):=by rw[hs8,hpn];exact hbg
 have HV3:Hid (Bv o x t f R V V K w w3 [(bd,.cells #[.int .i64 kd,.int .i64 cl,.int .i64 rc,.int .i64 ri,.bool rt,.int .i64 ro,.string s8,.int .i64 ee,.int .i64 hh,.int .i64 rp,.int .i64 ke,.int .i64 ki,.int .i64 wr,.slice pA pn pc] 60 (0,0)),(p,zo o R.r)]):=hid (HB.o.news (Lu:=[(bd,.cells #[.int .i64 kd,.int .i64 cl,.int .i64 rc,.int .i64 ri,.bool rt,.int .i64 ro,.string s8,.int .i64 ee,.int .i64 hh,.int .i64 rp,.int .i64 ke,.int .i64 ki,.int .i64 wr,.slice pA pn pc] 60 (0,0))]) HB3.o fun q hq=>by
  rw[List.mem_singleton.1 hq];exact⟨by show a.heap.size≤bd;have:=Hbd.o;omega,hbg'⟩)
 have HNo:Hid (∀q∈([(bd,.cells #[.int .i64 kd,.int .i64 cl,.int .i64 rc,.int .i64 ri,.bool rt,.int .i64 ro,.string s8,.int .i64 ee,.int .i64 hh,.int .i64 rp,.int .i64 ke,.int .i64 ki,.int .i64 wr,.slice pA pn pc] 60 (0,0)),(p,zo o R.r)]:List (Nat×Obj)),¬R.has q.1):=hid fun q hq hR=>by
  have hl:=HB.o.ref.lt hR;have hbe:=Hbd.o;rcases List.mem_cons.1 hq with rfl|hq
  ·dsimp only at hl;omega
  ·rw[List.mem_singleton.1 hq]at hR;exact HB.o.apart (List.mem_singleton.2 rfl) hR
 have HS8:=hid (And.intro hs8 hpn)
 have HCl:Hid (∀W:World,W.heap[p]? =some (zo o R.r)→W.heap[bd]? =some (.cells #[.int .i64 kd,.int .i64 cl,.int .i64 rc,.int .i64 ri,.bool rt,.int .i64 ro,.string s8,.int .i64 ee,.int .i64 hh,.int .i64 rp,.int .i64 ke,.int .i64 ki,.int .i64 wr,.slice pA pn pc] 60 (0,0))→W.cell? ⟨p,1,none⟩=some (.pointer (some ⟨o,0,none⟩))∧W.cell? ⟨p,2,none⟩=some (.pointer (some ⟨R.r,0,none⟩))∧W.cell? ⟨bd,1,none⟩=some (.int .i64 cl)∧(W.cell? ⟨bd,7,none⟩=some (.int .i64 ee)∧W.cell? ⟨bd,8,none⟩=some (.int .i64 hh)∧W.cell? ⟨bd,9,none⟩=some (.int .i64 rp)∧W.cell? ⟨bd,10,none⟩=some (.int .i64 ke)∧W.cell? ⟨bd,11,none⟩=some (.int .i64 ki)∧W.cell? ⟨bd,12,none⟩=some (.int .i64 wr))):=hid fun W q1 q2=>⟨(zl q1).2.1,(zl q1).2.2,cell_of_row W bd 1 _ _ _ q2,cell_of_row W bd 7 _ _ _ q2,cell_of_row W bd 8 _ _ _ q2,cell_of_row W bd 9 _ _ _ q2,cell_of_row W bd 10 _ _ _ q2,cell_of_row W bd 11 _ _ _ q2,cell_of_row W bd 12 _ _ _ q2⟩
 have HGp:Hid (w3.heap[p]? =some (zo o R.r)):=hid (HV3.o.get (List.mem_cons_of_mem _ (List.mem_singleton.2 rfl)));have HGb:=hid hbg';have kd0:=cell_of_row w3 bd 0 _ _ _ hbg';clear hbw hbg hbg' hs8 hpn HG1 HG2 HB1 HB2 HW1;obtain rfl:kd=3:=HKd.o.1
 have HVe:Hid (VD=if(⟨3,cl,⟨rc,ri,rt,ro,dd⟩,ee,hh,rp,ke,ki,wr,pA,pn0,pc⟩:Dd).inC=true then V.fence cl.toNat else V):=hid HVD.o;have hs0:=HCl.o w3.drew HGp.o HGb.o;by_cases hin:(⟨3,cl,⟨rc,ri,rt,ro,dd⟩,ee,hh,rp,ke,ki,wr,pA,pn0,pc⟩:Dd).inC=true
 ·have hin2:=of_decide_eq_true hin;dsimp only at hin2;have hVe:=HVe.o;rw[if_pos hin]at hVe;obtain⟨d,hd⟩:∃d:Nat,cl=(d:Int)+1:=⟨(cl-1).toNat,by omega⟩;have hcd:cl.toNat=d+1:=by omega
  have hd8:d<8:=by omega
  rw[hcd]at hVe;have h1:=(HV3.o.below (Below.refl _ _).drew).fenceV (d+1) (by omega) (by omega) (by have:=HKd.o.2.1;omega) (by have:=HKd.o.2.2.1;omega);have h2:=fun W (hW:RvC R V W)=>vP hW HOk.o (by have:=HKd.o.2.2.1;omega) (d+1) (by omega) (by omega);rw[show((d+1:Nat):Int)=cl by omega]at h1 h2;obtain⟨E,hE⟩:∃E:Int,E=(if(V.s (d+1)).e<1073741824 then 0 else 1):=⟨_,rfl⟩;rw[←hE]at h1 h2;have HS1:=hid h1;have HS2:=hid h2;have HVf:=hid hVe;clear h1 h2 hin hin2 hVe hd hcd hd8 hE;go_upto_region 15 with fail
  refine wp_region_held_drew (S:=(fun W=>W.cell? ⟨p,1,none⟩=some (.pointer (some ⟨o,0,none⟩))∧W.cell? ⟨p,2,none⟩=some (.pointer (some ⟨R.r,0,none⟩))∧W.cell? ⟨bd,1,none⟩=some (.int .i64 cl)∧(W.cell? ⟨bd,7,none⟩=some (.int .i64 ee)∧W.cell? ⟨bd,8,none⟩=some (.int .i64 hh)∧W.cell? ⟨bd,9,none⟩=some (.int .i64 rp)∧W.cell? ⟨bd,10,none⟩=some (.int .i64 ke)∧W.cell? ⟨bd,11,none⟩=some (.int .i64 ki)∧W.cell? ⟨bd,12,none⟩=some (.int .i64 wr)))) (by kernel_rfl) ?_ (fun hHeld=> ?_)
  ·exact hs0
  refine tk 0 ?_;refine tk 1 ?_;refine tk 2 ?_;refine tk 3 ?_;refine tk 4 ?_;refine tk 5 ?_;refine tk 7 ?_;refine tk 8 ?_;refine tk 9 ?_;refine tk 10 ?_;refine tk 11 ?_;refine tk 12 ?_;refine rd 6 (fun K hK=> ?_);go_simp
  refine HS1.o.mono ?_;rintro e w4 ⟨rfl,h4⟩;have H4:=hid h4;have hs1:=HCl.o w4 (h4.get (List.mem_cons_of_mem _ (List.mem_singleton.2 rfl))) (h4.get (List.mem_cons_self ..));clear h4;try dsimp only
  refine hK.o _ _ hs1 (fun hHeld=> ?_);clear hK K;try simp only[put]
  refine rd 13 (fun K hK=> ?_);go_simp
  refine(HS2.o _ H4.o.ref).mono ?_
  rintro e w5 ⟨rfl,hC5,hO5⟩;have H5:=hid (H4.o.turn hO5 hC5 HNo.o);have hs3:=HCl.o w5 (H5.o.get (List.mem_cons_of_mem _ (List.mem_singleton.2 rfl))) (H5.o.get (List.mem_cons_self ..));clear hC5 hO5;try dsimp only
  refine hK.o _ _ hs3 (fun hHeld=> ?_);clear hK K;try simp only[put]
  refine tk 14 ?_;refine tk 15 ?_;refine dn ?_
  (try simp only[Exit.then])
  clear hs0 hs1 hs3 HS1 HS2 kd0;go_wp2_with fail
  go_ret
  rw[HVf.o];exact⟨rfl,o,x,t,f,(H5.o.less fun q hq=>List.mem_cons_of_mem _ hq).more (by omega)⟩
 ·have hno:¬(1≤cl∧cl≤8):=fun h=>hin (decide_eq_true h);have hVe:=HVe.o;rw[if_neg hin]at hVe;have HVf:=hid hVe;have HS1:=hid (QJ cl w3.drew (HV3.o.below (Below.refl _ _).drew).vol hno);have HNg:=hid hno;clear hin hno hVe;go_upto_region 15 with fail
  refine wp_region_held_drew (S:=(fun W=>W.cell? ⟨p,1,none⟩=some (.pointer (some ⟨o,0,none⟩))∧W.cell? ⟨p,2,none⟩=some (.pointer (some ⟨R.r,0,none⟩))∧W.cell? ⟨bd,1,none⟩=some (.int .i64 cl)∧(W.cell? ⟨bd,7,none⟩=some (.int .i64 ee)∧W.cell? ⟨bd,8,none⟩=some (.int .i64 hh)∧W.cell? ⟨bd,9,none⟩=some (.int .i64 rp)∧W.cell? ⟨bd,10,none⟩=some (.int .i64 ke)∧W.cell? ⟨bd,11,none⟩=some (.int .i64 ki)∧W.cell? ⟨bd,12,none⟩=some (.int .i64 wr)))) (by kernel_rfl) ?_ (fun hHeld=> ?_)
  ·exact hs0
  refine tk 0 ?_;refine tk 1 ?_;refine tk 2 ?_;refine tk 3 ?_;refine tk 4 ?_;refine tk 5 ?_;refine tk 7 ?_;refine tk 8 ?_;refine tk 9 ?_;refine tk 10 ?_;refine tk 11 ?_;refine tk 12 ?_;refine rd 6 (fun K hK=> ?_);go_simp
  refine HS1.o.mono ?_;rintro e w4 ⟨rfl,h4⟩;have H4:=hid ((HV3.o.below (Below.refl _ _).drew).below h4);have hs1:=HCl.o w4 (H4.o.get (List.mem_cons_of_mem _ (List.mem_singleton.2 rfl))) (H4.o.get (List.mem_cons_self ..));clear h4;try dsimp only
  refine hK.o _ _ hs1 (fun hHeld=> ?_);clear hK K;try simp only[put]
  refine rd 13 (fun K hK=> ?_);go_simp
  refine(Q3 cl HNg.o R.r _).mono ?_
  rintro e w5 ⟨rfl,rfl⟩;try dsimp only
  refine hK.o _ _ hs1 (fun hHeld=> ?_);clear hK K;try simp only[put]
  refine tk 14 ?_;refine tk 15 ?_;refine dn ?_
  (try simp only[Exit.then])
  clear hs0 hs1 HS1 kd0;go_wp2_with fail
  go_ret
  rw[HVf.o];exact⟨rfl,o,x,t,f,(H4.o.less fun q hq=>List.mem_cons_of_mem _ hq).more (by omega)⟩
end
end
end Go.Proofs.YtccpdkjonepoiaaGreatDoor
