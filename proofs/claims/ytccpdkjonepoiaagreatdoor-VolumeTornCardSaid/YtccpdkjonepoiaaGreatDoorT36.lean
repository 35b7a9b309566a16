/- Walk: commonslaw17: does: deeds of kind 4. -/
import Derived.Test.YtccpdkjonepoiaaGreatDoorT35
set_option linter.unusedVariables false
set_option linter.unusedSimpArgs false
set_option linter.unusedSectionVars false
set_option maxHeartbeats 8000000
set_option maxRecDepth 100000
namespace Go.Proofs.YtccpdkjonepoiaaGreatDoor
open Go.RowKit
open Lib(hid)
open Go.Proofs.Tryz
section
open Go.Shelf
attribute [local go_sem] Oper.semAt_some
section
variable {o x t f K n p v r m:Nat} {R:RvB} {V U U2:Gd.Vl} {w a b:World} {Ls Lr:List (Nat×Obj)}
theorem Ug[zc](h:Bv o x t f R V V K w a [(p,zo o R.r)])(hok:V.Ok)(d:Dd)(hkd:d.kd=4)(hpc:d.pn≤d.pc)(hpl:d.pc≤9223372036854775807)(hdl:d.r.d.length≤9223372036854775807)(hk:jb w d.pA (min d.pn 300))(hK:K<90000000000)(hn:V.n≤100000):
 Calls prog 20 #[.pointer (some ⟨p,0,none⟩),.agg (ddC d)] a fun e b=>e= .returned (.bool true)∧∃o2 x2 t2 f2:Nat,Bv o2 x2 t2 f2 R (doD V d) (doD V d) (K+2000000000) w b [(p,zo o2 R.r)]:=by
 obtain⟨w1,hw1⟩:=nm (a.alloc (.cells (ddC d) 60));obtain⟨bd,hbd⟩:=nm a.heap.size;have hb1:Below a.heap.size a w1:=by rw[hw1];exact(Below.refl _ _).alloc (Nat.le_refl _) _
 have hg1:w1.heap[bd]? =some (.cells (ddC d) 60 (0,0)):=by rw[hw1,hbd];exact heap_alloc_new _ _
 have HCu:=hid (qk d w1 hpc hpl hdl);have HB:=hid h;have HOk:=hid hok;have HKd:=hid (And.intro hkd (And.intro hK (And.intro hn hk)));have HW1:=hid hw1.symm;have Hbd:=hid hbd.symm;have HB1:=hid hb1;have HG1:=hid hg1;have hrow:=jF hg1;obtain⟨VD,hVD⟩:=nm (doD V d);rw[←hVD];have HVD:=hid hVD;unfold ddC at HW1;clear h hok hkd hpc hpl hdl hk hK hn hw1 hbd hb1 hg1 hVD;go_enter func20,ntmps20;unfold ddC;go_upto_region 1 with fail
 rw[HW1.o,Hbd.o];go_wp2_with(refine wpList_load_mid rfl 60 _ rfl bd 0 rfl (ddC d).toList _ hrow underlying60 rfl sizeDd ?_)
 refine HCu.o.mono ?_;rintro e w2 ⟨rfl,hb2⟩;have HG2:=hid ((hb2.block bd (za HG1.o)).trans HG1.o);have HB2:=HB1.t hb2;clear hrow hb2 HCu;go_upto_region 2 with(refine wpList_store_mid rfl 60 _ _ rfl bd 0 (ddC d.cut) rfl rfl (zf HG2.o rfl) sizeDd (qs _) ?_;obtain⟨hbw,hbg⟩:=zh HG2.o (vs:=(ddC d.cut).toList) (B:=a.heap.size) rfl (by have:=Hbd.o;omega);generalize (World.setCells _ _ _ _)=w3 at hbw hbg⊢)
 have HB3:=hid (HB2.o.trans hbw);obtain⟨kd,cl,r,ee,hh,rp,ke,ki,wr,pA,pn0,pc⟩:=d;obtain⟨rc,ri,rt,ro,dd⟩:=r;unfold Dd.cut ddC at hbg;dsimp only at hbg HKd HVD;obtain⟨s8,hs8⟩:∃s:ByteArray,s=⟨(dd.take 80).toArray⟩:=⟨_,rfl⟩;obtain⟨pn,hpn⟩:=nm (min pn0 300);have hbg':w3.heap[bd]? =some (.cells #[.int .i64 kd,.int .i64 cl,.int .i64 rc,.int .i64 ri,.bool rt,.int .i64 ro,.string s8,.int .i64 ee,.int .i64 hh,.int .i64 rp,.int .i64 ke,.int .i64 ki,.int .i64 wr,.slice pA pn pc] 60 (0,0)):=by rw[hs8,hpn];exact hbg
 have HV3:Hid (Bv o x t f R V V K w w3 [(bd,.cells #[.int .i64 kd,.int .i64 cl,.int .i64 rc,.int .i64 ri,.bool rt,.int .i64 ro,.string s8,.int .i64 ee,.int .i64 hh,.int .i64 rp,.int .i64 ke,.int .i64 ki,.int .i64 wr,.slice pA pn pc] 60 (0,0)),(p,zo o R.r)]):=hid (HB.o.news (Lu:=[(bd,.cells #[.int .i64 kd,.int .i64 cl,.int .i64 rc,.int .i64 ri,.bool rt,.int .i64 ro,.string s8,.int .i64 ee,.int .i64 hh,.int .i64 rp,.int .i64 ke,.int .i64 ki,.int .i64 wr,.slice pA pn pc] 60 (0,0))]) HB3.o fun q hq=>by
  rw[List.mem_singleton.1 hq];exact⟨by show a.heap.size≤bd;have:=Hbd.o;omega,hbg'⟩)
 have HNo:Hid (∀q∈([(bd,.cells #[.int .i64 kd,.int .i64 cl,.int .i64 rc,.int .i64 ri,.bool rt,.int .i64 ro,.string s8,.int .i64 ee,.int .i64 hh,.int .i64 rp,.int .i64 ke,.int .i64 ki,.int .i64 wr,.slice pA pn pc] 60 (0,0)),(p,zo o R.r)]:List (Nat×Obj)),¬R.has q.1):=hid fun q hq hR=>by
  have hl:=HB.o.ref.lt hR;have hbe:=Hbd.o;rcases List.mem_cons.1 hq with rfl|hq
  ·dsimp only at hl;omega
  ·rw[List.mem_singleton.1 hq]at hR;exact HB.o.apart (List.mem_singleton.2 rfl) hR
 have HS8:=hid (And.intro hs8 hpn)
 have HCl:Hid (∀W:World,W.heap[p]? =some (zo o R.r)→W.heap[bd]? =some (.cells #[.int .i64 kd,.int .i64 cl,.int .i64 rc,.int .i64 ri,.bool rt,.int .i64 ro,.string s8,.int .i64 ee,.int .i64 hh,.int .i64 rp,.int .i64 ke,.int .i64 ki,.int .i64 wr,.slice pA pn pc] 60 (0,0))→W.cell? ⟨p,1,none⟩=some (.pointer (some ⟨o,0,none⟩))∧W.cell? ⟨p,2,none⟩=some (.pointer (some ⟨R.r,0,none⟩))∧W.cell? ⟨bd,1,none⟩=some (.int .i64 cl)∧(W.cell? ⟨bd,7,none⟩=some (.int .i64 ee)∧W.cell? ⟨bd,8,none⟩=some (.int .i64 hh)∧W.cell? ⟨bd,9,none⟩=some (.int .i64 rp)∧W.cell? ⟨bd,10,none⟩=some (.int .i64 ke)∧W.cell? ⟨bd,11,none⟩=some (.int .i64 ki)∧W.cell? ⟨bd,12,none⟩=some (.int .i64 wr))):=hid fun W q1 q2=>⟨(zl q1).2.1,(zl q1).2.2,cell_of_row W bd 1 _ _ _ q2,cell_of_row W bd 7 _ _ _ q2,cell_of_row W bd 8 _ _ _ q2,cell_of_row W bd 9 _ _ _ q2,cell_of_row W bd 10 _ _ _ q2,cell_of_row W bd 11 _ _ _ q2,cell_of_row W bd 12 _ _ _ q2⟩
 have HGp:Hid (w3.heap[p]? =some (zo o R.r)):=hid (HV3.o.get (List.mem_cons_of_mem _ (List.mem_singleton.2 rfl)));have HGb:=hid hbg';have kd0:=cell_of_row w3 bd 0 _ _ _ hbg';clear hbw hbg hbg' hs8 hpn HG1 HG2 HB1 HB2 HW1;obtain rfl:kd=4:=HKd.o.1
 have HVe:Hid (VD=(V.recov 8).1):=hid HVD.o;have hs0:=HCl.o w3.drew HGp.o HGb.o;have h1:=(HV3.o.below (Below.refl _ _).drew).recoverV HOk.o (by have:=HKd.o.2.1;omega) (by have:=HKd.o.2.2.1;omega);have h2:=fun W (hW:RvC R V W)=>Zl hW HOk.o (by have:=HKd.o.2.2.1;omega);obtain⟨E,hE⟩:∃E:Int,E=(if(V.recov 8).2 then 0 else 1):=⟨_,rfl⟩;rw[←hE]at h1 h2;have HS1:=hid h1;have HS2:=hid h2;clear h1 h2 hE;go_upto_region 17 with fail
 refine wp_region_held_drew (S:=(fun W=>W.cell? ⟨p,1,none⟩=some (.pointer (some ⟨o,0,none⟩))∧W.cell? ⟨p,2,none⟩=some (.pointer (some ⟨R.r,0,none⟩))∧W.cell? ⟨bd,1,none⟩=some (.int .i64 cl)∧(W.cell? ⟨bd,7,none⟩=some (.int .i64 ee)∧W.cell? ⟨bd,8,none⟩=some (.int .i64 hh)∧W.cell? ⟨bd,9,none⟩=some (.int .i64 rp)∧W.cell? ⟨bd,10,none⟩=some (.int .i64 ke)∧W.cell? ⟨bd,11,none⟩=some (.int .i64 ki)∧W.cell? ⟨bd,12,none⟩=some (.int .i64 wr)))) (by kernel_rfl) ?_ (fun hHeld=> ?_)
 ·exact hs0
 refine tk 0 ?_;refine tk 1 ?_;refine tk 2 ?_;refine tk 3 ?_;refine tk 5 ?_;refine tk 6 ?_;refine tk 7 ?_;refine tk 8 ?_;refine rd 4 (fun K hK=> ?_);go_simp
 refine HS1.o.mono ?_;rintro e w4 ⟨rfl,h4⟩;have H4:=hid h4;have hs1:=HCl.o w4 (h4.get (List.mem_cons_of_mem _ (List.mem_singleton.2 rfl))) (h4.get (List.mem_cons_self ..));clear h4;try dsimp only
 refine hK.o _ _ hs1 (fun hHeld=> ?_);clear hK K;try simp only[put]
 refine rd 9 (fun K hK=> ?_);go_simp
 refine(HS2.o _ H4.o.ref).mono ?_
 rintro e w5 ⟨rfl,hC5,hO5⟩;have H5:=hid (H4.o.turn hO5 hC5 HNo.o);have hs3:=HCl.o w5 (H5.o.get (List.mem_cons_of_mem _ (List.mem_singleton.2 rfl))) (H5.o.get (List.mem_cons_self ..));clear hC5 hO5;try dsimp only
 refine hK.o _ _ hs3 (fun hHeld=> ?_);clear hK K;try simp only[put]
 refine tk 10 ?_;refine tk 11 ?_;refine dn ?_
 (try simp only[Exit.then])
 clear hs0 hs1 hs3 HS1 HS2 kd0;go_wp2_with fail
 go_ret
 rw[HVe.o];exact⟨rfl,o,x,t,f,(H5.o.less fun q hq=>List.mem_cons_of_mem _ hq).more (by omega)⟩
end
end
section
open Go.Shelf
attribute [local go_sem] Oper.semAt_some
section
variable {o x t f K n p v r m:Nat} {R:RvB} {V U U2:Gd.Vl} {w a b:World} {Ls Lr:List (Nat×Obj)}
theorem Uf[zc](h:Bv o x t f R V V K w a [(p,zo o R.r)])(hok:V.Ok)(d:Dd)(hkd:d.kd=5)(hpc:d.pn≤d.pc)(hpl:d.pc≤9223372036854775807)(hdl:d.r.d.length≤9223372036854775807)(hk:jb w d.pA (min d.pn 300))(hK:K<90000000000)(hn:V.n≤100000):
 Calls prog 20 #[.pointer (some ⟨p,0,none⟩),.agg (ddC d)] a fun e b=>e= .returned (.bool true)∧∃o2 x2 t2 f2:Nat,Bv o2 x2 t2 f2 R (doD V d) (doD V d) (K+2000000000) w b [(p,zo o2 R.r)]:=by
 obtain⟨w1,hw1⟩:=nm (a.alloc (.cells (ddC d) 60));obtain⟨bd,hbd⟩:=nm a.heap.size;have hb1:Below a.heap.size a w1:=by rw[hw1];exact(Below.refl _ _).alloc (Nat.le_refl _) _
 have hg1:w1.heap[bd]? =some (.cells (ddC d) 60 (0,0)):=by rw[hw1,hbd];exact heap_alloc_new _ _
 have HCu:=hid (qk d w1 hpc hpl hdl);have HB:=hid h;have HOk:=hid hok;have HKd:=hid (And.intro hkd (And.intro hK (And.intro hn hk)));have HW1:=hid hw1.symm;have Hbd:=hid hbd.symm;have HB1:=hid hb1;have HG1:=hid hg1;have hrow:=jF hg1;obtain⟨VD,hVD⟩:=nm (doD V d);rw[←hVD];have HVD:=hid hVD;unfold ddC at HW1;clear h hok hkd hpc hpl hdl hk hK hn hw1 hbd hb1 hg1 hVD;go_enter func20,ntmps20;unfold ddC;go_upto_region 1 with fail
 rw[HW1.o,Hbd.o];go_wp2_with(refine wpList_load_mid rfl 60 _ rfl bd 0 rfl (ddC d).toList _ hrow underlying60 rfl sizeDd ?_)
 refine HCu.o.mono ?_;rintro e w2 ⟨rfl,hb2⟩;have HG2:=hid ((hb2.block bd (za HG1.o)).trans HG1.o);have HB2:=HB1.t hb2;clear hrow hb2 HCu;go_upto_region 2 with(refine wpList_store_mid rfl 60 _ _ rfl bd 0 (ddC d.cut) rfl rfl (zf HG2.o rfl) sizeDd (qs _) ?_;obtain⟨hbw,hbg⟩:=zh HG2.o (vs:=(ddC d.cut).toList) (B:=a.heap.size) rfl (by have:=Hbd.o;omega);generalize (World.setCells _ _ _ _)=w3 at hbw hbg⊢)
 have HB3:=hid (HB2.o.trans hbw);obtain⟨kd,cl,r,ee,hh,rp,ke,ki,wr,pA,pn0,pc⟩:=d;obtain⟨rc,ri,rt,ro,dd⟩:=r;unfold Dd.cut ddC at hbg;dsimp only at hbg HKd HVD;obtain⟨s8,hs8⟩:∃s:ByteArray,s=⟨(dd.take 80).toArray⟩:=⟨_,rfl⟩;obtain⟨pn,hpn⟩:=nm (min pn0 300);have hbg':w3.heap[bd]? =some (.cells #[.int .i64 kd,.int .i64 cl,.int .i64 rc,.int .i64 ri,.bool rt,.int .i64 ro,.string s8,.int .i64 ee,.int .i64 hh,.int .i64 rp,.int .i64 ke,.int .i64 ki,.int .i64 wr,.slice pA pn pc] 60 (0,0)):=by rw[hs8,hpn];exact hbg
 have HV3:Hid (Bv o x t f R V V K w w3 [(bd,.cells #[.int .i64 kd,.int .i64 cl,.int .i64 rc,.int .i64 ri,.bool rt,.int .i64 ro,.string s8,.int .i64 ee,.int .i64 hh,.int .i64 rp,.int .i64 ke,.int .i64 ki,.int .i64 wr,.slice pA pn pc] 60 (0,0)),(p,zo o R.r)]):=hid (HB.o.news (Lu:=[(bd,.cells #[.int .i64 kd,.int .i64 cl,.int .i64 rc,.int .i64 ri,.bool rt,.int .i64 ro,.string s8,.int .i64 ee,.int .i64 hh,.int .i64 rp,.int .i64 ke,.int .i64 ki,.int .i64 wr,.slice pA pn pc] 60 (0,0))]) HB3.o fun q hq=>by
  rw[List.mem_singleton.1 hq];exact⟨by show a.heap.size≤bd;have:=Hbd.o;omega,hbg'⟩)
 have HNo:Hid (∀q∈([(bd,.cells #[.int .i64 kd,.int .i64 cl,.int .i64 rc,.int .i64 ri,.bool rt,.int .i64 ro,.string s8,.int .i64 ee,.int .i64 hh,.int .i64 rp,.int .i64 ke,.int .i64 ki,.int .i64 wr,.slice pA pn pc] 60 (0,0)),(p,zo o R.r)]:List (Nat×Obj)),¬R.has q.1):=hid fun q hq hR=>by
  have hl:=HB.o.ref.lt hR;have hbe:=Hbd.o;rcases List.mem_cons.1 hq with rfl|hq
  ·dsimp only at hl;omega
  ·rw[List.mem_singleton.1 hq]at hR;exact HB.o.apart (List.mem_singleton.2 rfl) hR
 have HS8:=hid (And.intro hs8 hpn)
 have HCl:Hid (∀W:World,W.heap[p]? =some (zo o R.r)→W.heap[bd]? =some (.cells #[.int .i64 kd,.int .i64 cl,.int .i64 rc,.int .i64 ri,.bool rt,.int .i64 ro,.string s8,.int .i64 ee,.int .i64 hh,.int .i64 rp,.int .i64 ke,.int .i64 ki,.int .i64 wr,.slice pA pn pc] 60 (0,0))→W.cell? ⟨p,1,none⟩=some (.pointer (some ⟨o,0,none⟩))∧W.cell? ⟨p,2,none⟩=some (.pointer (some ⟨R.r,0,none⟩))∧W.cell? ⟨bd,1,none⟩=some (.int .i64 cl)∧(W.cell? ⟨bd,7,none⟩=some (.int .i64 ee)∧W.cell? ⟨bd,8,none⟩=some (.int .i64 hh)∧W.cell? ⟨bd,9,none⟩=some (.int .i64 rp)∧W.cell? ⟨bd,10,none⟩=some (.int .i64 ke)∧W.cell? ⟨bd,11,none⟩=some (.int .i64 ki)∧W.cell? ⟨bd,12,none⟩=some (.int .i64 wr))):=hid fun W q1 q2=>⟨(zl q1).2.1,(zl q1).2.2,cell_of_row W bd 1 _ _ _ q2,cell_of_row W bd 7 _ _ _ q2,cell_of_row W bd 8 _ _ _ q2,cell_of_row W bd 9 _ _ _ q2,cell_of_row W bd 10 _ _ _ q2,cell_of_row W bd 11 _ _ _ q2,cell_of_row W bd 12 _ _ _ q2⟩
 have HGp:Hid (w3.heap[p]? =some (zo o R.r)):=hid (HV3.o.get (List.mem_cons_of_mem _ (List.mem_singleton.2 rfl)));have HGb:=hid hbg';have kd0:=cell_of_row w3 bd 0 _ _ _ hbg';clear hbw hbg hbg' hs8 hpn HG1 HG2 HB1 HB2 HW1;obtain rfl:kd=5:=HKd.o.1
 have HVe:Hid (VD=V):=hid HVD.o;have HA:=hid ((HV3.o.less (Ls':=[(p,zo o R.r)]) fun q hq=>List.mem_cons_of_mem _ hq).again (pn:=pn) (pc:=pc) (pA:=pA) (fun q hq=>by cases hq) (by
  have h:=HKd.o.2.2.2;rw[←HS8.o.2]at h;refine h.imp id fun⟨b,q,h1,h2,h3⟩=>⟨b,q,h1,Nat.lt_of_lt_of_le h2 HV3.o.belowW.size,fun j hj=> ?_⟩;obtain⟨y,hy⟩:=h3 j hj;exact⟨y,(HV3.o.belowW.cell (p:=⟨b,q+j,none⟩) h2).trans hy⟩) (by
  intro h0 b q e;have h:=HKd.o.2.2.2;rw[←HS8.o.2]at h;rcases h with h|⟨b',q',h1,h2,-⟩
  ·exact absurd h h0
  ·rw[e]at h1;have e2:b=b':=by injection h1 with h1;injection h1
   omega) (by have:=HS8.o.2;omega) (by have:=HKd.o.2.1;omega))
 have k13:=cell_of_row w3 bd 13 _ _ _ HGb.o;go_wp2_with fail
 refine HA.o.mono ?_;rintro e w4 ⟨rfl,o2,x2,t2,f2,h4⟩;have H4:=hid h4;clear h4 k13 HA;go_wp2_with fail
 go_ret
 rw[HVe.o];exact⟨rfl,o2,x2,t2,f2,H4.o.more (by omega)⟩
end
end
section
open Go.Shelf
attribute [local go_sem] Oper.semAt_some
section
variable {o x t f K n p v r m:Nat} {R:RvB} {V U U2:Gd.Vl} {w a b:World} {Ls Lr:List (Nat×Obj)}
theorem Ue[zc](h:Bv o x t f R V V K w a [(p,zo o R.r)])(hok:V.Ok)(d:Dd)(hkd:d.kd=6)(hpc:d.pn≤d.pc)(hpl:d.pc≤9223372036854775807)(hdl:d.r.d.length≤9223372036854775807)(hk:jb w d.pA (min d.pn 300))(hK:K<90000000000)(hn:V.n≤100000):
 Calls prog 20 #[.pointer (some ⟨p,0,none⟩),.agg (ddC d)] a fun e b=>e= .returned (.bool true)∧∃o2 x2 t2 f2:Nat,Bv o2 x2 t2 f2 R (doD V d) (doD V d) (K+2000000000) w b [(p,zo o2 R.r)]:=by
 obtain⟨w1,hw1⟩:=nm (a.alloc (.cells (ddC d) 60));obtain⟨bd,hbd⟩:=nm a.heap.size;have hb1:Below a.heap.size a w1:=by rw[hw1];exact(Below.refl _ _).alloc (Nat.le_refl _) _
 have hg1:w1.heap[bd]? =some (.cells (ddC d) 60 (0,0)):=by rw[hw1,hbd];exact heap_alloc_new _ _
 have HCu:=hid (qk d w1 hpc hpl hdl);have HB:=hid h;have HOk:=hid hok;have HKd:=hid (And.intro hkd (And.intro hK (And.intro hn hk)));have HW1:=hid hw1.symm;have Hbd:=hid hbd.symm;have HB1:=hid hb1;have HG1:=hid hg1;have hrow:=jF hg1;obtain⟨VD,hVD⟩:=nm (doD V d);rw[←hVD];have HVD:=hid hVD;unfold ddC at HW1;clear h hok hkd hpc hpl hdl hk hK hn hw1 hbd hb1 hg1 hVD;go_enter func20,ntmps20;unfold ddC;go_upto_region 1 with fail
 rw[HW1.o,Hbd.o];go_wp2_with(refine wpList_load_mid rfl 60 _ rfl bd 0 rfl (ddC d).toList _ hrow underlying60 rfl sizeDd ?_)
 refine HCu.o.mono ?_;rintro e w2 ⟨rfl,hb2⟩;have HG2:=hid ((hb2.block bd (za HG1.o)).trans HG1.o);have HB2:=HB1.t hb2;clear hrow hb2 HCu;go_upto_region 2 with(refine wpList_store_mid rfl 60 _ _ rfl bd 0 (ddC d.cut) rfl rfl (zf HG2.o rfl) sizeDd (qs _) ?_;obtain⟨hbw,hbg⟩:=zh HG2.o (vs:=(ddC d.cut).toList) (B:=a.heap.size) rfl (by have:=Hbd.o;omega);generalize (World.setCells _ _ _ _)=w3 at hbw hbg⊢)
 have HB3:=hid (HB2.o.trans hbw);obtain⟨kd,cl,r,ee,hh,rp,ke,ki,wr,pA,pn0,pc⟩:=d;obtain⟨rc,ri,rt,ro,dd⟩:=r;unfold Dd.cut ddC at hbg;dsimp only at hbg HKd HVD;obtain⟨s8,hs8⟩:∃s:ByteArray,s=⟨(dd.take 80).toArray⟩:=⟨_,rfl⟩;obtain⟨pn,hpn⟩:=nm (min pn0 300);have hbg':w3.heap[bd]? =some (.cells #[.int .i64 kd,.int .i64 cl,.int .i64 rc,.int .i64 ri,.bool rt,.int .i64 ro,.string s8,.int .i64 ee,.int .i64 hh,.int .i64 rp,.int .i64 ke,.int .i64 ki,.int .i64 wr,.slice pA pn pc] 60 (0,0)):=by rw[hs8,hpn];exact hbg
 have HV3:Hid (Bv o x t f R V V K w w3 [(bd,.cells #[.int .i64 kd,.int .i64 cl,.int .i64 rc,.int .i64 ri,.bool rt,.int .i64 ro,.string s8,.int .i64 ee,.int .i64 hh,.int .i64 rp,.int .i64 ke,.int .i64 ki,.int .i64 wr,.slice pA pn pc] 60 (0,0)),(p,zo o R.r)]):=hid (HB.o.news (Lu:=[(bd,.cells #[.int .i64 kd,.int .i64 cl,.int .i64 rc,.int .i64 ri,.bool rt,.int .i64 ro,.string s8,.int .i64 ee,.int .i64 hh,.int .i64 rp,.int .i64 ke,.int .i64 ki,.int .i64 wr,.slice pA pn pc] 60 (0,0))]) HB3.o fun q hq=>by
  rw[List.mem_singleton.1 hq];exact⟨by show a.heap.size≤bd;have:=Hbd.o;omega,hbg'⟩)
 have HNo:Hid (∀q∈([(bd,.cells #[.int .i64 kd,.int .i64 cl,.int .i64 rc,.int .i64 ri,.bool rt,.int .i64 ro,.string s8,.int .i64 ee,.int .i64 hh,.int .i64 rp,.int .i64 ke,.int .i64 ki,.int .i64 wr,.slice pA pn pc] 60 (0,0)),(p,zo o R.r)]:List (Nat×Obj)),¬R.has q.1):=hid fun q hq hR=>by
  have hl:=HB.o.ref.lt hR;have hbe:=Hbd.o;rcases List.mem_cons.1 hq with rfl|hq
  ·dsimp only at hl;omega
  ·rw[List.mem_singleton.1 hq]at hR;exact HB.o.apart (List.mem_singleton.2 rfl) hR
 have HS8:=hid (And.intro hs8 hpn)
 have HCl:Hid (∀W:World,W.heap[p]? =some (zo o R.r)→W.heap[bd]? =some (.cells #[.int .i64 kd,.int .i64 cl,.int .i64 rc,.int .i64 ri,.bool rt,.int .i64 ro,.string s8,.int .i64 ee,.int .i64 hh,.int .i64 rp,.int .i64 ke,.int .i64 ki,.int .i64 wr,.slice pA pn pc] 60 (0,0))→W.cell? ⟨p,1,none⟩=some (.pointer (some ⟨o,0,none⟩))∧W.cell? ⟨p,2,none⟩=some (.pointer (some ⟨R.r,0,none⟩))∧W.cell? ⟨bd,1,none⟩=some (.int .i64 cl)∧(W.cell? ⟨bd,7,none⟩=some (.int .i64 ee)∧W.cell? ⟨bd,8,none⟩=some (.int .i64 hh)∧W.cell? ⟨bd,9,none⟩=some (.int .i64 rp)∧W.cell? ⟨bd,10,none⟩=some (.int .i64 ke)∧W.cell? ⟨bd,11,none⟩=some (.int .i64 ki)∧W.cell? ⟨bd,12,none⟩=some (.int .i64 wr))):=hid fun W q1 q2=>⟨(zl q1).2.1,(zl q1).2.2,cell_of_row W bd 1 _ _ _ q2,cell_of_row W bd 7 _ _ _ q2,cell_of_row W bd 8 _ _ _ q2,cell_of_row W bd 9 _ _ _ q2,cell_of_row W bd 10 _ _ _ q2,cell_of_row W bd 11 _ _ _ q2,cell_of_row W bd 12 _ _ _ q2⟩
 have HGp:Hid (w3.heap[p]? =some (zo o R.r)):=hid (HV3.o.get (List.mem_cons_of_mem _ (List.mem_singleton.2 rfl)));have HGb:=hid hbg';have kd0:=cell_of_row w3 bd 0 _ _ _ hbg';clear hbw hbg hbg' hs8 hpn HG1 HG2 HB1 HB2 HW1;obtain rfl:kd=6:=HKd.o.1
 have HVe:Hid (VD=V):=hid HVD.o;have hs0:=HCl.o w3.drew HGp.o HGb.o;have h1:=(HV3.o.below (Below.refl _ _).drew).setany (⟨6,cl,⟨rc,ri,rt,ro,dd⟩,ee,hh,rp,ke,ki,wr,pA,pn0,pc⟩:Dd);unfold jr at h1;dsimp only at h1;have HS1:=hid h1;clear h1;go_upto_region 21 with fail
 refine wp_region_held_drew (S:=(fun W=>W.cell? ⟨p,1,none⟩=some (.pointer (some ⟨o,0,none⟩))∧W.cell? ⟨p,2,none⟩=some (.pointer (some ⟨R.r,0,none⟩))∧W.cell? ⟨bd,1,none⟩=some (.int .i64 cl)∧(W.cell? ⟨bd,7,none⟩=some (.int .i64 ee)∧W.cell? ⟨bd,8,none⟩=some (.int .i64 hh)∧W.cell? ⟨bd,9,none⟩=some (.int .i64 rp)∧W.cell? ⟨bd,10,none⟩=some (.int .i64 ke)∧W.cell? ⟨bd,11,none⟩=some (.int .i64 ki)∧W.cell? ⟨bd,12,none⟩=some (.int .i64 wr)))) (by kernel_rfl) ?_ (fun hHeld=> ?_)
 ·exact hs0
 refine tk 0 ?_;refine tk 1 ?_;refine tk 2 ?_;refine tk 3 ?_;refine tk 4 ?_;refine tk 5 ?_;refine tk 6 ?_;refine tk 7 ?_;refine rd 8 (fun K hK=> ?_);go_simp
 refine HS1.o.mono ?_;rintro e w4 ⟨⟨E,rfl⟩,h4⟩;have H4:=hid h4;have hs1:=HCl.o w4 (h4.get (List.mem_cons_of_mem _ (List.mem_singleton.2 rfl))) (h4.get (List.mem_cons_self ..));clear h4;try dsimp only
 refine hK.o _ _ hs1 (fun hHeld=> ?_);clear hK K;try simp only[put]
 refine dn ?_
 (try simp only[Exit.then])
 obtain⟨q1,-,-,-⟩:=hs1;obtain⟨v0,-,-⟩:=zl H4.o.vol;have HDr:=hid H4.o.drop;clear hs0 HS1 kd0;go_wp2_with fail
 refine HDr.o.mono ?_;rintro e w5 ⟨rfl,h5⟩;have H5:=hid h5;clear h5 HDr q1 v0;go_wp2_with fail
 go_ret
 rw[HVe.o];exact⟨rfl,o,x,t,f,(H5.o.less fun q hq=>List.mem_cons_of_mem _ hq).more (by omega)⟩
end
end
section
open Go.Shelf
attribute [local go_sem] Oper.semAt_some
section
variable {o x t f K n p v r m:Nat} {R:RvB} {V U U2:Gd.Vl} {w a b:World} {Ls Lr:List (Nat×Obj)}
theorem Ud[zc](h:Bv o x t f R V V K w a [(p,zo o R.r)])(hok:V.Ok)(d:Dd)(hkd:¬(0≤d.kd∧d.kd≤6))(hpc:d.pn≤d.pc)(hpl:d.pc≤9223372036854775807)(hdl:d.r.d.length≤9223372036854775807)(hk:jb w d.pA (min d.pn 300))(hK:K<90000000000)(hn:V.n≤100000):
 Calls prog 20 #[.pointer (some ⟨p,0,none⟩),.agg (ddC d)] a fun e b=>e= .returned (.bool true)∧∃o2 x2 t2 f2:Nat,Bv o2 x2 t2 f2 R (doD V d) (doD V d) (K+2000000000) w b [(p,zo o2 R.r)]:=by
 obtain⟨w1,hw1⟩:=nm (a.alloc (.cells (ddC d) 60));obtain⟨bd,hbd⟩:=nm a.heap.size;have hb1:Below a.heap.size a w1:=by rw[hw1];exact(Below.refl _ _).alloc (Nat.le_refl _) _
 have hg1:w1.heap[bd]? =some (.cells (ddC d) 60 (0,0)):=by rw[hw1,hbd];exact heap_alloc_new _ _
 have HCu:=hid (qk d w1 hpc hpl hdl);have HB:=hid h;have HOk:=hid hok;have HKd:=hid (And.intro hkd (And.intro hK (And.intro hn hk)));have HW1:=hid hw1.symm;have Hbd:=hid hbd.symm;have HB1:=hid hb1;have HG1:=hid hg1;have hrow:=jF hg1;obtain⟨VD,hVD⟩:=nm (doD V d);rw[←hVD];have HVD:=hid hVD;unfold ddC at HW1;clear h hok hkd hpc hpl hdl hk hK hn hw1 hbd hb1 hg1 hVD;go_enter func20,ntmps20;unfold ddC;go_upto_region 1 with fail
 rw[HW1.o,Hbd.o];go_wp2_with(refine wpList_load_mid rfl 60 _ rfl bd 0 rfl (ddC d).toList _ hrow underlying60 rfl sizeDd ?_)
 refine HCu.o.mono ?_;rintro e w2 ⟨rfl,hb2⟩;have HG2:=hid ((hb2.block bd (za HG1.o)).trans HG1.o);have HB2:=HB1.t hb2;clear hrow hb2 HCu;go_upto_region 2 with(refine wpList_store_mid rfl 60 _ _ rfl bd 0 (ddC d.cut) rfl rfl (zf HG2.o rfl) sizeDd (qs _) ?_;obtain⟨hbw,hbg⟩:=zh HG2.o (vs:=(ddC d.cut).toList) (B:=a.heap.size) rfl (by have:=Hbd.o;omega);generalize (World.setCells _ _ _ _)=w3 at hbw hbg⊢)
 have HB3:=hid (HB2.o.trans hbw);obtain⟨kd,cl,r,ee,hh,rp,ke,ki,wr,pA,pn0,pc⟩:=d;obtain⟨rc,ri,rt,ro,dd⟩:=r;unfold Dd.cut ddC at hbg;dsimp only at hbg HKd HVD;obtain⟨s8,hs8⟩:∃s:ByteArray,s=⟨(dd.take 80).toArray⟩:=⟨_,rfl⟩;obtain⟨pn,hpn⟩:=nm (min pn0 300);have hbg':w3.heap[bd]? =some (.cells #[.int .i64 kd,.int .i64 cl,.int .i64 rc,.int .i64 ri,.bool rt,.int .i64 ro,.string s8,.int .i64 ee,.int .i64 hh,.int .i64 rp,.int .i64 ke,.int .i64 ki,.int .i64 wr,.slice pA pn pc] 60 (0,0)):=by rw[hs8,hpn];exact hbg
 have HV3:Hid (Bv o x t f R V V K w w3 [(bd,.cells #[.int .i64 kd,.int .i64 cl,.int .i64 rc,.int .i64 ri,.bool rt,.int .i64 ro,.string s8,.int .i64 ee,.int .i64 hh,.int .i64 rp,.int .i64 ke,.int .i64 ki,.int .i64 wr,.slice pA pn pc] 60 (0,0)),(p,zo o R.r)]):=hid (HB.o.news (Lu:=[(bd,.cells #[.int .i64 kd,.int .i64 cl,.int .i64 rc,.int .i64 ri,.bool rt,.int .i64 ro,.string s8,.int .i64 ee,.int .i64 hh,.int .i64 rp,.int .i64 ke,.int .i64 ki,.int .i64 wr,.slice pA pn pc] 60 (0,0))]) HB3.o fun q hq=>by
  rw[List.mem_singleton.1 hq];exact⟨by show a.heap.size≤bd;have:=Hbd.o;omega,hbg'⟩)
 have HNo:Hid (∀q∈([(bd,.cells #[.int .i64 kd,.int .i64 cl,.int .i64 rc,.int .i64 ri,.bool rt,.int .i64 ro,.string s8,.int .i64 ee,.int .i64 hh,.int .i64 rp,.int .i64 ke,.int .i64 ki,.int .i64 wr,.slice pA pn pc] 60 (0,0)),(p,zo o R.r)]:List (Nat×Obj)),¬R.has q.1):=hid fun q hq hR=>by
  have hl:=HB.o.ref.lt hR;have hbe:=Hbd.o;rcases List.mem_cons.1 hq with rfl|hq
  ·dsimp only at hl;omega
  ·rw[List.mem_singleton.1 hq]at hR;exact HB.o.apart (List.mem_singleton.2 rfl) hR
 have HS8:=hid (And.intro hs8 hpn)
 have HCl:Hid (∀W:World,W.heap[p]? =some (zo o R.r)→W.heap[bd]? =some (.cells #[.int .i64 kd,.int .i64 cl,.int .i64 rc,.int .i64 ri,.bool rt,.int .i64 ro,.string s8,.int .i64 ee,.int .i64 hh,.int .i64 rp,.int .i64 ke,.int .i64 ki,.int .i64 wr,.slice pA pn pc] 60 (0,0))→W.cell? ⟨p,1,none⟩=some (.pointer (some ⟨o,0,none⟩))∧W.cell? ⟨p,2,none⟩=some (.pointer (some ⟨R.r,0,none⟩))∧W.cell? ⟨bd,1,none⟩=some (.int .i64 cl)∧(W.cell? ⟨bd,7,none⟩=some (.int .i64 ee)∧W.cell? ⟨bd,8,none⟩=some (.int .i64 hh)∧W.cell? ⟨bd,9,none⟩=some (.int .i64 rp)∧W.cell? ⟨bd,10,none⟩=some (.int .i64 ke)∧W.cell? ⟨bd,11,none⟩=some (.int .i64 ki)∧W.cell? ⟨bd,12,none⟩=some (.int .i64 wr))):=hid fun W q1 q2=>⟨(zl q1).2.1,(zl q1).2.2,cell_of_row W bd 1 _ _ _ q2,cell_of_row W bd 7 _ _ _ q2,cell_of_row W bd 8 _ _ _ q2,cell_of_row W bd 9 _ _ _ q2,cell_of_row W bd 10 _ _ _ q2,cell_of_row W bd 11 _ _ _ q2,cell_of_row W bd 12 _ _ _ q2⟩
 have HGp:Hid (w3.heap[p]? =some (zo o R.r)):=hid (HV3.o.get (List.mem_cons_of_mem _ (List.mem_singleton.2 rfl)));have HGb:=hid hbg';have kd0:=cell_of_row w3 bd 0 _ _ _ hbg';clear hbw hbg hbg' hs8 hpn HG1 HG2 HB1 HB2 HW1;have hkx:=HKd.o.1;have HVe:Hid (VD=V):=hid (by
  rw[HVD.o];unfold doD;dsimp only;rw[if_neg (by omega),if_neg (by omega),if_neg (by omega),if_neg (by omega),if_neg (by omega)])
 have b0:(kd==0)=false:=by rw[beq_eq_false_iff_ne];omega
 have b1:(kd==1)=false:=by rw[beq_eq_false_iff_ne];omega
 have b2:(kd==2)=false:=by rw[beq_eq_false_iff_ne];omega
 have b3:(kd==3)=false:=by rw[beq_eq_false_iff_ne];omega
 have b4:(kd==4)=false:=by rw[beq_eq_false_iff_ne];omega
 have b5:(kd==5)=false:=by rw[beq_eq_false_iff_ne];omega
 have b6:(kd==6)=false:=by rw[beq_eq_false_iff_ne];omega
 clear hkx;go_wp2_with fail
 go_ret
 rw[HVe.o];exact⟨rfl,o,x,t,f,(HV3.o.less fun q hq=>List.mem_cons_of_mem _ hq).more (by omega)⟩
end
end
section
open Go.Shelf
attribute [local go_sem] Oper.semAt_some
namespace Gd
theorem part_repN{n m k:Nat}(h:k+m≤n):part (List.replicate n (0:UInt8)) k m=List.replicate m 0:=by
 apply List.ext_getElem?
 intro i;rw[part_get?,List.getElem?_replicate,List.getElem?_replicate];by_cases hi:i<m
 ·rw[if_pos hi,if_pos hi,if_pos (by omega)]
 ·rw[if_neg hi,if_neg hi]
end Gd
theorem JB[zc]{p:Nat}{w a:World}(h:QE p w a):∃(R:RvB) (o x t f:Nat),Bv o x t f R Zo Zo 665100000 w a [(p,zo o R.r)]:=by
 obtain⟨o,x,t,f,r,S,M,wr,w9,hV,⟨hB,hl⟩,hR,rfl,rfl⟩:=h;obtain⟨R,hRr,hC,hge⟩:=Vc hR;have hb9:=hR.2;have hs:Vs o x t f Zo 665100000 w wr []:=by
  refine⟨S,M,hV,Gd.Fils.began hB,fun c c1 c2=> ?_⟩;rw[hl];exact Gd.part_repN (by omega)
 obtain⟨L0,hL0⟩:=nm ([R.r,R.g1,R.g2,R.g3]++(List.range 8).map R.bs);have hm:∀q,R.has q↔q∈L0:=fun q=>by
  rw[hL0];simp only[List.mem_append,List.mem_cons,List.not_mem_nil,or_false,List.mem_map,List.mem_range];constructor
  ·rintro(h|h|h|h|⟨c,hc,h⟩)
   ·exact Or.inl (Or.inl h)
   ·exact Or.inl (Or.inr (Or.inl h))
   ·exact Or.inl (Or.inr (Or.inr (Or.inl h)))
   ·exact Or.inl (Or.inr (Or.inr (Or.inr h)))
   ·exact Or.inr ⟨c,hc,h.symm⟩
  ·rintro((h|h|h|h)|⟨c,hc,h⟩)
   ·exact Or.inl h
   ·exact Or.inr (Or.inl h)
   ·exact Or.inr (Or.inr (Or.inl h))
   ·exact Or.inr (Or.inr (Or.inr (Or.inl h)))
   ·exact Or.inr (Or.inr (Or.inr (Or.inr ⟨c,hc,h.symm⟩)))
 obtain⟨Lr,hLr⟩:∃Lr:List (Nat×Obj),Lr=L0.map fun q=>(q,(w9.heap[q]?).getD (.cells #[] 0 (0,0))):=⟨_,rfl⟩;have hr:∀q,R.has q↔∃o',(q,o')∈Lr:=fun q=>by
  rw[hm,hLr];constructor
  ·intro h;exact⟨_,List.mem_map.2 ⟨q,h,rfl⟩⟩
  ·rintro⟨o',h⟩;obtain⟨q',h1,h2⟩:=List.mem_map.1 h;have:q'=q:=congrArg (·.1) h2
   rw[←this];exact h1
 have h9:=hs.news hb9 (Lu:=Lr) fun p hp=>by
  have hR:=(hr p.1).2 ⟨p.2,hp⟩;refine⟨hge _ hR,?_⟩;rw[hLr]at hp;obtain⟨q',h1,rfl⟩:=List.mem_map.1 hp;obtain⟨C,ty,hg,-⟩:=hC.typ hR;dsimp only at hg⊢;rw[hg];rfl
 have hv:Bv o x t f R Zo Zo 665100000 w w9 []:=⟨Lr,hr,h9,hC⟩;refine⟨R,o,x,t,f,?_⟩;rw[hRr];exact hv.news ((Below.refl _ _).alloc (Nat.le_refl _) _) (Lu:=[(w9.heap.size,zo o r)]) fun p hp=>by
  rw[List.mem_singleton.1 hp];exact⟨Nat.le_refl _,heap_alloc_new w9 _⟩
structure Y4(w:World)(d:Dd):Prop where
 pc:d.pn≤d.pc
 pl:d.pc≤9223372036854775807
 dl:d.r.d.length≤9223372036854775807
 pk:jb w d.pA (min d.pn 300)
def Dds(w:World)(A:Option Addr)(L:List Dd):Prop:=L=[]∨∃b o,A=some ⟨b,o,none⟩∧b<w.heap.size∧∀(j:Nat) (d:Dd),L[j]? =some d→w.rangeAt b (o+j*14) (ddC d).toList
theorem Ju[zc]{o x t f K p:Nat}{R:RvB}{V:Gd.Vl}{w a:World}(h:Bv o x t f R V V K w a [(p,zo o R.r)])(hok:V.Ok)(d:Dd)(hd:Y4 w d)(hK:K<90000000000)(hn:V.n≤100000):
 Calls prog 20 #[.pointer (some ⟨p,0,none⟩),.agg (ddC d)] a fun e b=>e= .returned (.bool true)∧∃o2 x2 t2 f2:Nat,Bv o2 x2 t2 f2 R (doD V d) (doD V d) (K+2000000000) w b [(p,zo o2 R.r)]:=by
 by_cases hx:0≤d.kd∧d.kd≤6
 ·rcases(by omega:d.kd=0∨d.kd=1∨d.kd=2∨d.kd=3∨d.kd=4∨d.kd=5∨d.kd=6)with e|e|e|e|e|e|e
  ·exact Uk h hok d e hd.pc hd.pl hd.dl hd.pk hK hn
  ·exact Uj h hok d e hd.pc hd.pl hd.dl hd.pk hK hn
  ·exact Ui h hok d e hd.pc hd.pl hd.dl hd.pk hK hn
  ·exact Uh h hok d e hd.pc hd.pl hd.dl hd.pk hK hn
  ·exact Ug h hok d e hd.pc hd.pl hd.dl hd.pk hK hn
  ·exact Uf h hok d e hd.pc hd.pl hd.dl hd.pk hK hn
  ·exact Ue h hok d e hd.pc hd.pl hd.dl hd.pk hK hn
 ·exact Ud h hok d hx hd.pc hd.pl hd.dl hd.pk hK hn
end
namespace Gd
def tornP(c n:Nat)(y:Slot):List Pa:=[(64*c,slotB y),(0,headB (n+1))]
theorem tornP_eq(c n:Nat)(y:Slot):([]++[(64*c,slotB y)])++[(0,headB (n+1))]=tornP c n y:=rfl
theorem tornP_all{c n:Nat}{y:Slot}(hc:c≤8):∀p∈tornP c n y,p.2.length=64∧p.1≤512:=fun p hp=>by
 unfold tornP at hp;rcases List.mem_cons.1 hp with rfl|hp
 ·exact⟨slotB_length y,by show 64*c≤512;omega⟩
 ·rw[List.mem_singleton.1 hp];exact⟨headB_length (n+1),by show 0≤512;omega⟩
theorem tornR_length{c n:Nat}{y:Slot}:(recB (tornP c n y)).length=152:=by
 rw[recB_length];unfold wt pasB tornP;rw[List.flatMap_cons,List.flatMap_cons,List.flatMap_nil,List.length_append,List.length_append,paB_length,paB_length,slotB_length,headB_length];rfl
theorem done_rec{S:List UInt8}{P:List Pa}(hS:S.length=23168)(hf:Fit 23168 P)(hlow:∀p∈P,p.1+p.2.length≤2688)(hR:(recB P).length≤4088):part (doneS S P) 2696 (recB P).length=recB P:=by
 have hl:=logged_length (R:=recB P) hS hR;have hf2:Fit (splice (splice S 2696 (recB P)) 2688 (le (recB P).length 8)).length P:=by rw[hl];exact hf
 unfold doneS;rw[part_splice_apart (by rw[view_length hf2,hl];omega) (by rw[view_length hf2,hl,List.length_replicate];omega) (by rw[List.length_replicate];omega)];rw[view_apart hf2 (by rw[hl];omega) fun p hp=>Or.inr (by have:=hlow p hp;omega)];exact logged_rec hS hR
theorem SoundV.same{V W:List UInt8}(h:SoundV V)(hV:2688≤V.length)(hW:2688≤W.length)(he:∀i,i<2688→V[i]? =W[i]?):SoundV W:=by
 have hp:∀k m,k+m≤2688→part W k m=part V k m:=fun k m hk=>part_ext (by omega) (by omega) fun i _ h2=>(he i (by omega)).symm;refine⟨?_,fun k k1 k2=> ?_,fun i i1 i2=> ?_,?_⟩
 ·rw[hp 0 64 (by omega)];exact h.head
 ·rw[hp _ 64 (by omega)];exact h.slot k k1 k2
 ·obtain⟨y,h1,h2,h3⟩:=h.ino i i1 i2;exact⟨y,h1,h2,by rw[hp _ 64 (by unfold inoAt;omega)];exact h3⟩
 ·obtain⟨y,h1,h2,h3,h4⟩:=h.root;exact⟨y,h1,h2,by rw[hp _ 64 (by unfold inoAt;omega)];exact h3,h4⟩
structure Rec2(L:List UInt8)(a0 a1:Nat):Prop where
 len:L.length=4088
 n:getB L 0 2=true∧get L 0 2=2
 x0:getB L 2 4=true∧get L 2 4=a0
 k0:getB L 6 2=true∧get L 6 2=64
 x1:getB L 72 4=true∧get L 72 4=a1
 k1:getB L 76 2=true∧get L 76 2=64
 s:getB L 142 4=true∧get L 142 4=(crc (L.take 142):Nat)
 z:∀j,146≤j→j<152→L[j]? =some 0
theorem rec2_of{L:List UInt8}{a0 a1:Nat}{d0 d1:List UInt8}(h0:d0.length=64)(h1:d1.length=64)(ha0:a0<4294967296)(ha1:a1<4294967296)(hL:L.take 152=recB [(a0,d0),(a1,d1)])(hl:L.length=4088):Rec2 L a0 a1:=by
 obtain⟨T,hT⟩:=nm (L.drop 152);obtain⟨B,hB⟩:=nm (recBody [(a0,d0),(a1,d1)]);have eB:B=le 2 2++(le a0 4++(le 64 2++(d0++(le a1 4++(le 64 2++d1))))):=by
  rw[hB];unfold recBody pasB paB;rw[List.flatMap_cons,List.flatMap_cons,List.flatMap_nil,List.append_nil];dsimp only;rw[h0,h1];simp only[List.append_assoc];rfl
 have lB:B.length=142:=by
  rw[eB];simp only[List.length_append,le_length,h0,h1]
 have eL:L=B++(le (crc B) 4++(pad8 146++T)):=by
  rw[←List.take_append_drop 152 L,hL,←hT];unfold recB;rw[←hB,lB];simp only[List.append_assoc]
 have eL2:L=le 2 2++(le a0 4++(le 64 2++(d0++(le a1 4++(le 64 2++(d1++(le (crc B) 4++(pad8 146++T)))))))):=by
  rw[eL];conv=>lhs;rw[eB]
  simp only[List.append_assoc];rw[←eB]
 have hc:=crc_lt B;have ht:L.take 142=B:=by
  rw[eL,←lB,List.take_left]
 have key:∀(A C:List UInt8) (v w k:Nat),L=A++(le v w++C)→A.length=k→v<256^w→v<9223372036854775808→getB L (k:Int) w=true∧get L (k:Int) w=v:=fun A C v w k e1 e2 h1 h2=>by
  have:=get_mid A C v w h1 h2
  rw[←e1,e2]at this;exact this
 refine⟨hl,?_,?_,?_,?_,?_,?_,?_⟩
 ·obtain⟨C0,hC0⟩:∃C,L=le 2 2++C:=⟨_,eL2⟩;exact key [] C0 2 2 0 hC0 rfl (by decide) (by decide)
 ·obtain⟨C0,hC0⟩:∃C,L=le 2 2++(le a0 4++C):=⟨_,eL2⟩;exact key (le 2 2) C0 a0 4 2 hC0 (le_length _ _) (by omega) (by omega)
 ·obtain⟨C0,hC0⟩:∃C,L=(le 2 2++le a0 4)++(le 64 2++C):=⟨_,by
   conv=>lhs;rw[eL2]
   simp only[List.append_assoc];rfl⟩
  exact key (le 2 2++le a0 4) C0 64 2 6 hC0 (by simp only[List.length_append,le_length]) (by decide) (by decide)
 ·obtain⟨C0,hC0⟩:∃C,L=(le 2 2++(le a0 4++(le 64 2++d0)))++(le a1 4++C):=⟨_,by
   conv=>lhs;rw[eL2]
   simp only[List.append_assoc];rfl⟩
  exact key (le 2 2++(le a0 4++(le 64 2++d0))) C0 a1 4 72 hC0 (by simp only[List.length_append,le_length,h0]) (by omega) (by omega)
 ·obtain⟨C0,hC0⟩:∃C,L=(le 2 2++(le a0 4++(le 64 2++(d0++le a1 4))))++(le 64 2++C):=⟨_,by
   conv=>lhs;rw[eL2]
   simp only[List.append_assoc];rfl⟩
  exact key (le 2 2++(le a0 4++(le 64 2++(d0++le a1 4)))) C0 64 2 76 hC0 (by simp only[List.length_append,le_length,h0]) (by decide) (by decide)
 ·rw[ht];obtain⟨C0,hC0⟩:∃C,L=B++(le (crc B) 4++C):=⟨_,eL⟩;exact key B C0 (crc B) 4 142 hC0 lB (by omega) (by omega)
 ·intro j j1 j2;rw[eL,List.getElem?_append_right (by omega),List.getElem?_append_right (by rw[le_length];omega),le_length,List.getElem?_append_left (by show j-B.length-4<(List.replicate (up8 146-146) (0:UInt8)).length;rw[List.length_replicate,lB];unfold up8;omega)];show(List.replicate (up8 146-146) (0:UInt8))[j-B.length-4]? =_
  rw[List.getElem?_replicate,if_pos (by rw[lB];unfold up8;omega)]
end Gd
section
open Go.Shelf
attribute [local go_sem] Oper.semAt_some
theorem U5(b o c:Nat)(L:List UInt8){a0 a1:Nat}(w:World)(hbl:b<w.heap.size)(hcap:4088≤c)(hc63:c≤9223372036854775807)(hbc:∀(j:Nat) (x:UInt8),L[j]? =some x→w.cell? ⟨b,o+j,none⟩=some (.int .u8 x.toNat))(h:Gd.Rec2 L a0 a1):
 Calls prog 24 #[.slice (some ⟨b,o,none⟩) 4088 c] w fun e w'=>∃u,e= .returned (.tuple #[u,.int .i64 152,.int .i64 0])∧Below w.heap.size w w':=by
 obtain⟨i0,hi,hz0,hz1,hz2⟩:=info_parts infoPa;have hll:=h.len;have hat:zr w (.slice (some ⟨b,o,none⟩) 4088 c) L:=⟨_,c,by rw[hll],Or.inr ⟨b,o,rfl,hbl,hbc⟩⟩;have HG:Hid (∀(at_ k:Nat),Gd.wid k→at_≤5000→∀W,Below w.heap.size w W→Calls prog 66 #[.slice (some ⟨b,o,none⟩) 4088 c,.int .i64 (at_:Nat),.int .i64 k] W fun e w'=>e= .returned (.tuple #[.int .i64 (Gd.get L (at_:Nat) k),.bool (Gd.getB L (at_:Nat) k)])∧w'=W):=hid fun at_ k hk ha W hW=>yA _ L (at_:Nat) k hk (zu (by omega)) W (hat.keep hW) (by omega);have HB:=hid (And.intro hbl hbc);have H:=hid h;have hc64:(4088:Int)≤c:=by omega
 have HG0:=HG.o 0 2 (Or.inr (Or.inl rfl)) (by omega) w (Below.refl _ _);rw[show((0:Nat):Int)=0 from rfl,h.n.1,h.n.2]at HG0;have HG0:=hid HG0;clear hbl hbc h hll hat;go_enter func24,ntmps24;go_upto_region 2 with(go_at_call 66;refine HG0.o.mono ?_;rintro e w1 ⟨rfl,rfl⟩)
 clear HG0;obtain⟨w,hw⟩:=nm w1;subst hw;go_upto_region 9 with fail
 go_loopw[7,8,9] (fun a u z wr=>∃(i at_:Nat) (xs:List Value),a= .int .i64 (at_:Nat)∧z= .int .i64 i∧i≤2∧at_=2+70*i∧Hid (wr.ownsRow w.heap.size 122 2 u i xs)∧Hid (Below w.heap.size w wr)) (fun _ _ z _=>2-(intOf z).toNat)
 case atStart=>exact⟨0,2,[],rfl,rfl,by omega,by omega,hid (World.ownsRow_nil _ _ _ _),hid (Below.refl _ _)⟩
 case round=>
  obtain⟨i,at_,xs,rfl,rfl,hi2,hae,HO,HBw⟩:=hrel;by_cases hlt:i<2
  ·obtain⟨x,hx⟩:∃x:Nat,(Gd.getB L (at_:Nat) 4=true∧Gd.get L (at_:Nat) 4=x)∧(Gd.getB L ((at_+4:Nat):Int) 2=true∧Gd.get L ((at_+4:Nat):Int) 2=64):=by
    rcases(by omega:i=0∨i=1)with rfl|rfl
    ·subst hae;exact⟨a0,H.o.x0,H.o.k0⟩
    ·subst hae;exact⟨a1,H.o.x1,H.o.k1⟩
   have h1:(i:Int)<2:=by omega
   have HG1:=HG.o at_ 4 (Or.inr (Or.inr (Or.inl rfl))) (by omega) wr HBw.o;rw[hx.1.1,hx.1.2]at HG1;have HG1:=hid HG1;have HG2:=HG.o (at_+4) 2 (Or.inr (Or.inl rfl)) (by omega) wr HBw.o;rw[hx.2.1,hx.2.2,show((at_+4:Nat):Int)=(at_:Int)+4 by omega]at HG2;have HG2:=hid HG2;obtain⟨a6,ha6⟩:=nm (at_+6);have HA6:=hid (And.intro ha6 hae);have hm:(at_:Int)≤72:=by omega
   have HI:=hid hlt;clear hx ha6 hae hlt hi2;go_upto_region 12 with(go_at_call 66;refine HG1.o.mono ?_;rintro e w3 ⟨rfl,rfl⟩)
   go_upto_region 13 with(go_at_call 66;refine HG2.o.mono ?_;rintro e w4 ⟨rfl,rfl⟩)
   clear HG1 HG2;go_upto_region 18 with fail
   rw[show(at_:Int)+6=(a6:Nat) by have:=HA6.o.1;omega];have hm2:(a6:Int)≤78:=by have:=HA6.o.1;omega
   have hm0:(0:Int)≤a6:=by omega
   have hm3:(a6:Int)+64≤c:=by omega
   have h64:((a6:Int)+64).toNat-a6=64:=by omega
   have hca:¬c=a6:=by omega
   go_upto_region 20 with fail
   obtain⟨D,hD⟩:∃D:ByteArray,D=⟨((L.drop a6).take 64).toArray⟩:=⟨_,rfl⟩;have hcv:=jJ (.slice (some ⟨b,o+a6,none⟩) 64 (c-a6)) ((L.drop a6).take 64) w4 (yE (Nat.lt_of_lt_of_le HB.o.1 HBw.o.size) (fun j x hx=>(HBw.o.cell (p:=⟨b,o+j,none⟩) HB.o.1).trans (HB.o.2 j x hx)) a6 (c-a6) 64 (by have:=H.o.len;omega));rw[←hD]at hcv;clear hD;have hob:=zE HO.o;go_wp2_with(at_builtin;refine wpList_append_own _ rfl _ _ 65 rfl w.heap.size 122 i0 _ 2 24 underlying65 hi hz0 hz1 hz2 rfl (by decide) u8 i xs rfl (zx HO.o ((Below.refl _ _).alloc (Nat.le_refl _) _)) ⟨w4.heap.size,0,none⟩ 1 1 [.int .i64 x,.string D] rfl rfl (xo w4 _ _ _) (by intro u hu;simp at hu;rcases hu with rfl|rfl<;>rfl) (by unfold maxLen;have:=HI.o;omega) (by have:=HI.o;omega) (by have:=HBw.o.size;simp;omega) ?_;intro v' w8 h1 h2 h3)
   have hba:Below w4.heap.size w4 (w4.alloc (.cells #[.int .i64 x,.string D] 122)):=(Below.refl _ _).alloc (Nat.le_refl _) _;have hO8:zi (fun k=>u8.ownBlock=some k) w4 w8:=(zg hba _).trans (zK h2 (F:=fun k=>u8.ownBlock=some k) fun k e=>e) fun _ _ e=>e;have HB8:=hid (HBw.o.trans (hO8.below HBw.o.size fun k hk e=>by have:=(hob k e).1;omega));have HO8:=hid h1;clear h1 h2 h3 hba hO8 hob hcv;go_wp2_with fail
   go_roundw
   case rel=>exact⟨i+1,a6+64,_,by go_num,by go_num,by have:=HI.o;omega,by have:=HA6.o;omega,HO8,HB8⟩
   case measure=>simp[intOf];have:=HI.o;omega
  ·obtain rfl:i=2:=by omega
   have HG1:=HG.o at_ 4 (Or.inr (Or.inr (Or.inl rfl))) (by omega) wr HBw.o;rw[show at_=142 by omega,show((142:Nat):Int)=142 from rfl,H.o.s.1,H.o.s.2]at HG1;have HG1:=hid HG1;have HSm:=ZP (.slice (some ⟨b,o,none⟩) 142 c) (L.take 142) wr (by
    have:=yE (Nat.lt_of_lt_of_le HB.o.1 HBw.o.size) (fun j x hx=>(HBw.o.cell (p:=⟨b,o+j,none⟩) HB.o.1).trans (HB.o.2 j x hx)) 0 c 142 (by have:=H.o.len;omega)
    rw[Nat.add_zero,List.drop_zero]at this;exact this) (by rw[List.length_take];omega)
   obtain⟨q,hq⟩:=nm (Gd.crc (L.take 142));rw[←hq]at HG1 HSm;have HSm:=hid HSm;obtain rfl:at_=142:=by omega
   have hc142:(142:Int)≤c:=by omega
   clear hq hlt hi2 hae;go_upto_region 23 with(go_at_call 66;refine HG1.o.mono ?_;rintro e w3 ⟨rfl,rfl⟩)
   go_upto_region 27 with(go_at_call 67;refine HSm.o.mono ?_;rintro e w5 ⟨rfl,rfl⟩)
   clear HG1 HSm;go_upto_region 29 with fail
   go_loopw[16] (fun z wr=>∃k:Nat,z= .int .i64 k∧146≤k∧k≤152∧wr=w5) (fun z _=>152-(intOf z).toNat)
   case atStart=>exact⟨146,rfl,by omega,by omega,rfl⟩
   case round=>
    obtain⟨k,rfl,hk1,hk2,rfl⟩:=hrel;by_cases hk8:k % 8=0
    ·have hk8i:((k:Int) % 8 !=0)=false:=by
      rw[bne_eq_false_iff_eq];omega
     have hk:k=152:=by omega
     have hki:¬(4088:Int)<k:=by omega
     have HK:=hid hk;clear hk1 hk2 hk8 hk;go_upto_region 34 with fail
     go_loopw[17] (fun z wq=>∃j:Nat,z= .int .i64 j∧146≤j∧j≤k∧wq=wr) (fun z _=>k-(intOf z).toNat)
     case atStart=>exact⟨146,rfl,by omega,by have:=HK.o;omega,rfl⟩
     case round=>
      obtain⟨j,rfl,hj1,hj2,rfl⟩:=hrel;by_cases hlt:j<k
      ·have hcj:=(HBw.o.cell (p:=⟨b,o+j,none⟩) HB.o.1).trans (HB.o.2 j 0 (H.o.z j hj1 (by have:=HK.o;omega)));have hjk:(j:Int)<k:=by omega
       have hjn:(j:Int)<4088:=by have:=HK.o;omega
       have hj0:(0:Int)≤j:=by omega
       have HJ:=hid (And.intro hlt hj1);clear hlt hj1 hj2;go_wp2_with fail
       go_roundw
       case rel=>exact⟨j+1,by go_num,by have:=HJ.o;omega,by have:=HJ.o;omega,trivial⟩
       case measure=>simp[intOf];have:=HJ.o;omega
      ·obtain rfl:j=k:=by omega
       have hjk:¬(j:Int)<j:=by omega
       clear hlt;go_wp2_with fail
       go_ret3
       have hk:=HK.o;subst hk;exact⟨⟨_,rfl⟩,HBw.o⟩
    ·have hk8i:((k:Int) % 8 !=0)=true:=by
      rw[bne_iff_ne];omega
     have HK:=hid (And.intro hk1 (And.intro hk2 hk8));clear hk1 hk8;go_wp2_with fail
     go_roundw
     case rel=>exact⟨k+1,by go_num,by have:=HK.o;omega,by have:=HK.o;omega,trivial⟩
     case measure=>simp[intOf];have:=HK.o;omega
end
section
open Go.Shelf
attribute [local go_sem] Oper.semAt_some
def UX[zc](Z S:List UInt8)(X:Nat→Prop)(K:Nat)(w a:World):Prop:=
 ∃sb lb ab n,zZ a zc.no sb lb ab n S K X∧(Z.length=S.length∧a.heap[lb]? =some (.cells (ze Z) 126 (0,0)))∧(w.heap.size≤zc.no∧w.heap.size≤sb∧w.heap.size≤lb∧w.heap.size≤ab)∧Below w.heap.size w a
section
variable {K:Nat} {S Z:List UInt8} {w a b:World} {X:Nat→Prop}
theorem Mst.storeD[zc]{a0:World}(h:Mst S K w a0 [])(hb0:Below a0.heap.size a0 a)(at_:Nat)(v:Value)(L:List UInt8)(hb:zr a v L)(hap:∀q,v.ownBlock=some q→q<w.heap.size∨a0.heap.size≤q)(ha:at_+L.length≤S.length)(hk:L.length≤100000):
 Calls prog 25 #[.pointer (some ⟨zc.no,0,none⟩),.int .i64 at_,v] a fun e b=>e= .returned (.int .i64 0)∧UX S (Gd.splice S at_ L) (jL at_ L.length) K w b:=by
 have hlt:∀sb lb ab n,zH a0 zc.no sb lb ab n S K→sb<a0.heap.size∧ab<a0.heap.size:=fun sb lb ab n h1=>⟨h1.lts sb (by simp),h1.lts ab (by simp)⟩;obtain⟨sb,lb,ab,n,h0,h2,h3',-⟩:=h;obtain⟨l1,l2⟩:=hlt sb lb ab n h0;have h1:zH a zc.no sb lb ab n S K:=h0.keep fun k hk=>hb0.block k (h0.lts k hk);have h3:=h3'.trans (hb0.mono h3'.size);obtain⟨-,hla,-⟩:=h1.tozZ.apart;have hne:=h1.ne;refine(xR at_ v L a h1.tozZ hb (fun q hq=>by have:=hap q hq;omega) ha hk).mono ?_
 rintro e b ⟨he,hM,hO⟩;refine⟨he,sb,lb,ab,n,hM.wide fun j _ hx=>hx.elim (fun e=>e.elim) id,⟨(Gd.splice_length ha).symm,(hO.block lb (h1.lts lb (Or.inr (Or.inr (Or.inl rfl)))) fun e=>e.elim (fun e=>hne e.symm) hla).trans h1.same⟩,h2,h3.trans (hO.below h3.size fun k hk e=>by rcases e with e|e<;>omega)⟩
theorem UX.flush[zc]{at_ k:Nat}(h:UX Z S (jL at_ k) K w a)(hak:at_+k≤S.length)(hk:k≤100000)(hK:K<900000000000):
 Calls prog 26 #[.pointer (some ⟨zc.no,0,none⟩),.int .i64 at_,.int .i64 k] a fun e b=>e= .returned (.int .i64 0)∧UX Z S NoX (K+20000) w b:=by
 obtain⟨sb,lb,ab,n,h1,⟨hz,hl⟩,h2,h3⟩:=h;obtain⟨-,hla,-⟩:=h1.apart;refine(yK at_ k a h1 (fun q hq=>qp hq) hak hk hK).mono ?_
 rintro e b ⟨he,hM,hO⟩;exact⟨he,sb,lb,ab,n,hM,⟨hz,(hO.block lb (h1.lts lb (Or.inr (Or.inr (Or.inl rfl)))) hla).trans hl⟩,h2,h3.trans (hO.below h3.size fun k hk e=>by omega)⟩
theorem UX.fence[zc](h:UX Z S NoX K w a):
 Calls prog 27 #[.pointer (some ⟨zc.no,0,none⟩)] a fun e b=>e= .returned (.tuple #[])∧Mst S K w b []:=by
 obtain⟨sb,lb,ab,n,h1,-,h2,h3⟩:=h;refine(uk a h1).mono ?_
 rintro e b ⟨he,hM,hO⟩;exact⟨he,sb,lb,ab,n,hM,h2,h3.trans (hO.below h3.size fun k hk e=>by rcases e with e|e<;>omega),fun p hp=>by cases hp⟩
theorem UX.crash[zc]{pn pc:Nat}{pA:Option Addr}(h:UX Z S X K w a)(hp:jb a pA pn)(hpb:pn≠0→∀b o,pA=some ⟨b,o,none⟩→b<w.heap.size)(hpn:pn≤100000):
 Calls prog 29 #[.pointer (some ⟨zc.no,0,none⟩),.slice pA pn pc] a fun e b=>e= .returned (.tuple #[])∧∃Y:List UInt8,Y.length=S.length∧(∀k,k*8+8≤S.length→cel Y k=cel S k∨cel Y k=cel Z k)∧Mst Y K w b []:=by
 obtain⟨sb,lb,ab,n,h1,hZ,h2,h3⟩:=h;refine(JV a h1 hZ hp (fun h0 b o e=> ?_) hpn).mono ?_
 ·have:=hpb h0 b o e
  omega
 rintro e b ⟨he,⟨sb',Y,hsb,hY,hM⟩,hO⟩;have hs:=h3.size;have hl:=h1.len;refine⟨he,Y,by rw[hM.len,hl],fun k hk=>hY k (by omega),sb',lb,ab,n,hM,⟨h2.1,by omega,h2.2.2.1,h2.2.2.2⟩,h3.trans (hO.below hs fun k hk e=> ?_),fun p hp=>by cases hp⟩;obtain⟨g1,g2,g3,g4⟩:=h2;rcases e with e|e|e<;>omega
theorem Mst.dirty[zc](h:Mst S K w a []):UX S S NoX K w a:=by
 obtain⟨sb,lb,ab,n,h1,h2,h3,-⟩:=h;exact⟨sb,lb,ab,n,h1.tozZ,⟨rfl,h1.same⟩,h2,h3⟩
theorem Mst.redoAt[zc]{g:Nat}{Ls:List (Nat×Obj)}{P:List Gd.Pa}(h:Mst S K w a ((g,vX)::Ls))(hf:Gd.Fit 23168 P)(hP:∀p∈P,Gd.PaMay p)(hn:P.length≤64)(hS:S.length=23168)(hR:(Gd.recB P).length≤4088)
 (he:Gd.part S 2688 8=Gd.le (Gd.recB P).length 8)(hr:Gd.part S 2696 (Gd.recB P).length=Gd.recB P)(hK:K<700000000000):
 Calls prog 44 #[.pointer (some ⟨g,0,none⟩)] a fun e b=>e= .returned (.int .i64 1)∧Mst (Gd.splice (Gd.view S P) 2688 (List.replicate 8 0)) (K+20000*P.length+20000) w b ((g,vX)::Ls):=by
 obtain⟨sb,lb,ab,n,hM,hlow,hLs,hC⟩:=h.open;exact(Vf P a hM (h.get (List.mem_cons_self ..)) hf hP hn hS hR he hr hK).mono fun e b ⟨he,hM2,hO⟩=>⟨he,hC _ _ _ hM2 hO⟩
end
theorem U0[zc]{K:Nat}{S:List UInt8}{P:List Gd.Pa}{w a:World}(h:Mst (Gd.splice (Gd.splice S 2696 (Gd.recB P)) 2688 (Gd.le (Gd.recB P).length 8)) K w a [])(hf:Gd.Fit 23168 P)(hP:∀p∈P,Gd.PaMay p)(hn:P.length≤64)(hS:S.length=23168)(hR:(Gd.recB P).length≤4088)(hK:K<100000000000)(hso:Gd.SoundV (Gd.doneS S P)):
 Calls prog 10 #[.pointer (some ⟨zc.no,0,none⟩)] a fun e b=>∃o x t f:Nat,e= .returned (.tuple #[.pointer (some ⟨o,0,none⟩),.int .i64 0])∧Vp o x t f (Gd.doneS S P) [] 0 (K+20000*P.length+20000) w b []:=by
 obtain⟨Se,hSe⟩:=nm (Gd.splice (Gd.splice S 2696 (Gd.recB P)) 2688 (Gd.le (Gd.recB P).length 8));have hl:Se.length=23168:=by rw[hSe];exact Gd.logged_length hS hR
 have he:Gd.part Se 2688 8=Gd.le (Gd.recB P).length 8:=by rw[hSe];exact Gd.logged_end hS hR
 have hr:Gd.part Se 2696 (Gd.recB P).length=Gd.recB P:=by rw[hSe];exact Gd.logged_rec hS hR
 have hd:Gd.splice (Gd.view Se P) 2688 (List.replicate 8 0)=Gd.doneS S P:=by rw[hSe];rfl
 rw[←hSe]at h;have hdl:(Gd.doneS S P).length=23168:=Gd.done_length hS hR hf;have hde:Gd.part (Gd.doneS S P) 2688 8=Gd.le 0 8:=Gd.done_end hS hR hf;have HIs:=h.vis;rw[hl,show decide (23168=23168)=true from rfl]at HIs;have HIs:=hid HIs;have HRe:Hid (∀g W,Mst Se K w W [(g,vX)]→Calls prog 44 #[.pointer (some ⟨g,0,none⟩)] W fun e b=>e= .returned (.int .i64 1)∧Mst (Gd.doneS S P) (K+20000*P.length+20000) w b [(g,vX)]):=hid fun g W hW=>by
  have:=hW.redoAt hf hP hn hl hR he hr (by omega)
  rw[hd]at this;exact this
 have HS:=hid (And.intro hl (And.intro hdl (And.intro hde hso)));obtain⟨D,hD⟩:=nm (Gd.doneS S P);rw[←hD]at HRe HS⊢;clear h hf hP hn hS hR hK hso hSe hl he hr hd hdl hde hD;go_enter func10,ntmps10;go_wp2_with fail
 refine HIs.o.mono ?_;rintro e w1 ⟨rfl,h1⟩;have HLg:=hid (ZE h1 HS.o.1);clear h1 HIs;go_wp2_with fail
 refine HLg.o.mono ?_;rintro e w2 ⟨g,rfl,h2,hne⟩;have HN:=hid hne;have HRd:=hid (HRe.o g w2 h2);clear h2 hne HLg HRe;go_wp2_with fail
 refine HRd.o.mono ?_;rintro e w3 ⟨rfl,h3⟩;have HOp:=hid (uI h3 HN.o HS.o.2.1 HS.o.2.2.1);clear h3 HRd;go_wp2_with fail
 refine HOp.o.mono ?_;rintro e w4 ⟨o,x,t,f,rfl,h4⟩;have HSo:=hid h4.sound;clear h4 HOp;go_wp2_with fail
 refine HSo.o.mono ?_;rintro e w5 ⟨h5,⟨hs,rfl⟩|⟨hs,rfl⟩⟩
 ·have H5:=hid h5;clear hs h5 HSo;go_wp2;go_ret2
  exact⟨o,x,t,f,rfl,H5.o⟩
 ·exact absurd HS.o.2.2.2 hs
end
section
open Go.Shelf
attribute [local go_sem] Oper.semAt_some
theorem U6{S R Y:List UInt8}(hS:S.length=23168)(hR:R.length≤4088)(hY:Y.length=23168)(h:∀k,k*8+8≤23168→cel Y k=cel (Gd.splice S 2696 R) k∨cel Y k=cel S k):∀i,i<2696→Y[i]? =S[i]? :=by
 intro i hi;have hc:cel Y (i/8)=cel S (i/8):=by
  rcases h (i/8) (by omega)with e|e
  ·rw[e];exact Gd.part_splice_apart (by omega) (by omega) (Or.inl (by omega))
  ·exact e
 have h1:(cel Y (i/8))[i % 8]? =Y[i/8*8+i % 8]? :=Gd.part_get (by omega);have h2:(cel S (i/8))[i % 8]? =S[i/8*8+i % 8]? :=Gd.part_get (by omega);rw[show i/8*8+i % 8=i by omega]at h1 h2;rw[←h1,hc,h2]
theorem U7{T E Y:List UInt8}(hT:T.length=23168)(hE:E.length=8)(hY:Y.length=23168)(h:∀k,k*8+8≤23168→cel Y k=cel (Gd.splice T 2688 E) k∨cel Y k=cel T k):Y=Gd.splice T 2688 E∨Y=T:=by
 have hf:2688+E.length≤T.length:=by omega
 have hl:(Gd.splice T 2688 E).length=23168:=(Gd.splice_length hf).trans hT;have hap:∀k,k*8+8≤23168→k≠336→cel (Gd.splice T 2688 E) k=cel T k:=fun k hk hn=>Gd.part_splice_apart (by omega) hf (by omega);rcases h 336 (by omega)with e|e
 ·left
  refine QB (n:=2896) hl (by omega) fun j hj=> ?_;by_cases hj6:j=336
  ·rw[hj6];exact e.symm
  ·rcases h j (by omega)with e2|e2
   ·exact e2.symm
   ·rw[e2];exact hap j (by omega) hj6
 ·right
  refine QB (n:=2896) (by omega) (by omega) fun j hj=> ?_;by_cases hj6:j=336
  ·rw[hj6];exact e.symm
  ·rcases h j (by omega)with e2|e2
   ·rw[e2];exact(hap j (by omega) hj6).symm
   ·exact e2.symm
theorem UZ(v v2:Value)(L M:List UInt8)(w:World)(h1:zr w v L)(h2:zr w v2 M)(hM:M.length=L.length)(hl:L.length≤1000000):
 Calls prog 19 #[v,v2] w fun e w'=>∃q:Bool,e= .returned (.bool q)∧(L=M→q=true)∧Below w.heap.size w w':=by
 obtain⟨A,c,rfl,h1⟩:=h1;obtain⟨A2,c2,rfl,h2⟩:=h2;have H1:=hid h1;have H2:=hid h2;clear h1 h2;rw[hM];have HM:=hid hM;clear hM;obtain⟨n,hn⟩:=nm L.length;rw[←hn]at hl⊢;have Hn:=hid hn;clear hn;go_enter func19,ntmps19;go_wp2;go_loopw[5] (fun i wr=>∃k:Nat,k≤n∧i= .int .i64 k∧Below w.heap.size w wr) (fun i _=>n-(intOf i).toNat)
 case atStart=>exact⟨0,by omega,rfl,Below.refl _ _⟩
 case round=>
  obtain⟨k,hk,rfl,hbw⟩:=hrel;by_cases hlt:k<n
  ·have hkL:k<L.length:=by have:=Hn.o;omega
   have hkM:k<M.length:=by have:=HM.o;omega
   obtain⟨x,hx⟩:∃x,L[k]? =some x:=⟨_,List.getElem?_eq_getElem hkL⟩;obtain⟨y,hy⟩:∃y,M[k]? =some y:=⟨_,List.getElem?_eq_getElem hkM⟩;rcases H1.o with⟨-,h,-⟩|⟨b,o,rfl,h3,h4⟩
   ·subst h;simp at hkL
   rcases H2.o with⟨-,h,-⟩|⟨b',o',rfl,h3',h4'⟩
   ·subst h;simp at hkM
   have hc:wr.cell? ⟨b,o+k,none⟩=some (.int .u8 x.toNat):=(hbw.cell (p:=⟨b,o+k,none⟩) h3).trans (h4 k x hx);have hc':wr.cell? ⟨b',o'+k,none⟩=some (.int .u8 y.toNat):=(hbw.cell (p:=⟨b',o'+k,none⟩) h3').trans (h4' k y hy);have HB:=hid hbw;have HXY:Hid (x.toNat≠y.toNat→L≠M):=hid fun hne e=>by
    rw[e,hy]at hx;exact hne (by rw[Option.some.inj hx])
   clear h4 h4' hx hy hkL hkM;have hk1:(0:Int)≤k:=by omega
   have hk2:(k:Int)<n:=by omega
   by_cases hxy:x.toNat=y.toNat
   ·rw[hxy]at hc;clear hxy;go_wp2;go_quiet (fail)
    go_wp2;go_roundw
    case rel=>exact⟨k+1,by omega,by go_num,below_drewN hbw _⟩
    case measure=>simp[intOf];omega
   ·have hxyb:((x.toNat:Int) !=y.toNat)=true:=by
     rw[bne_iff_ne];omega
    have HNe:=hid (HXY.o hxy);clear hxy;go_wp2;go_quiet (fail)
    go_wp2;go_ret
    exact⟨false,rfl,fun e=>absurd e HNe.o,below_drewN HB.o _⟩
  ·go_wp2;go_ret
   exact⟨true,rfl,fun _=>rfl,hbw⟩
end
end Go.Proofs.YtccpdkjonepoiaaGreatDoor
