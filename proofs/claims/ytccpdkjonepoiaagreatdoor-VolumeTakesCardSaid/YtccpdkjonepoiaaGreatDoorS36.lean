/- Walk: commonslaw17: does: deeds of kind 4. -/
import Derived.Test.YtccpdkjonepoiaaGreatDoorS35
set_option linter.unusedVariables false
set_option linter.unusedSimpArgs false
set_option linter.unusedSectionVars false
set_option maxHeartbeats 8000000
set_option maxRecDepth 100000
namespace Go.Proofs.YtccpdkjonepoiaaGreatDoor
open Go.RowKit
open Lib(hid)
open Go.Proofs.Tryz
section
open Go.Shelf
attribute [local go_sem] Oper.semAt_some
section
variable {o x t f K n p v r m:Nat} {R:RvB} {V U U2:Gd.Vl} {w a b:World} {Ls Lr:List (Nat×Obj)}
theorem Ug[zc](h:Bv o x t f R V V K w a [(p,zo o R.r)])(hok:V.Ok)(d:Dd)(hkd:d.kd=4)(hpc:d.pn≤d.pc)(hpl:d.pc≤9223372036854775807)(hdl:d.r.d.length≤9223372036854775807)(hk:jb w d.pA (min d.pn 300))(hK:K<90000000000)(hn:V.n≤100000):
 Calls prog 20 #[.pointer (some ⟨p,0,none⟩),.agg (ddC d)] a fun e b=>e= .returned (.bool true)∧∃o2 x2 t2 f2:Nat,Bv o2 x2 t2 f2 R (doD V d) (doD V d) (K+2000000000) w b [(p,zo o2 R.r)]:=by
 obtain⟨w1,hw1⟩:=nm (a.alloc (.cells (ddC d) 60));obtain⟨bd,hbd⟩:=nm a.heap.size;have hb1:Below a.heap.size a w1:=by rw[hw1];exact(Below.refl _ _).alloc (Nat.le_refl _) _
 have hg1:w1.heap[bd]? =some (.cells (ddC d) 60 (0,0)):=by rw[hw1,hbd];exact heap_alloc_new _ _
 have HCu:=hid (qk d w1 hpc hpl hdl);have HB:=hid h;have HOk:=hid hok;have HKd:=hid (And.intro hkd (And.intro hK (And.intro hn hk)));have HW1:=hid hw1.symm;have Hbd:=hid hbd.symm;have HB1:=hid hb1;have HG1:=hid hg1;have hrow:=jF hg1;obtain⟨VD,hVD⟩:=nm (doD V d);rw[←hVD];have HVD:=hid hVD;unfold ddC at HW1;clear h hok hkd hpc hpl hdl hk hK hn hw1 hbd hb1 hg1 hVD;go_enter func20,ntmps20;unfold ddC;go_upto_region 1 with fail
 rw[HW1.o,Hbd.o];go_wp2_with(refine wpList_load_mid rfl 60 _ rfl bd 0 rfl (ddC d).toList _ hrow underlying60 rfl sizeDd ?_)
 refine HCu.o.mono ?_;rintro e w2 ⟨rfl,hb2⟩;have HG2:=hid ((hb2.block bd (za HG1.o)).trans HG1.o);have HB2:=HB1.t hb2;clear hrow hb2 HCu;go_upto_region 2 with(refine wpList_store_mid rfl 60 _ _ rfl bd 0 (ddC d.cut) rfl rfl (zf HG2.o rfl) sizeDd (qs _) ?_;obtain⟨hbw,hbg⟩:=zh HG2.o (vs:=(ddC d.cut).toList) (B:=a.heap.size) rfl (by have:=Hbd.o;omega);generalize (World.setCells _ _ _ _)=w3 at hbw hbg⊢)
 have HB3:=hid (HB2.o.trans hbw);obtain⟨kd,cl,r,ee,hh,rp,ke,ki,wr,pA,pn0,pc⟩:=d;obtain⟨rc,ri,rt,ro,dd⟩:=r;unfold Dd.cut ddC at hbg;dsimp only at hbg HKd HVD;obtain⟨s8,hs8⟩:∃s:ByteArray,s=⟨(dd.take 80).toArray⟩:=⟨_,rfl⟩;obtain⟨pn,hpn⟩:=nm (min pn0 300);have hbg':w3.heap[bd]? =some (.cells #[.int .i64 kd,.int .i64 cl,.int .i64 rc,.int .i64 ri,.bool rt,.int .i64 ro,.string s8,.int .i64 ee,.int .i64 hh,.int .i64 rp,.int .i64 ke,.int .i64 ki,.int .i64 wr,.slice pA pn pc] 60 (0,0)):=by rw[hs8,hpn];exact hbg
 have HV3:Hid (Bv o x t f R V V K w w3 [(bd,.cells #[.int .i64 kd,.int .i64 cl,.int .i64 rc,.int .i64 ri,.bool rt,.int .i64 ro,.string s8,.int .i64 ee,.int .i64 hh,.int .i64 rp,.int .i64 ke,.int .i64 ki,.int .i64 wr,.slice pA pn pc] 60 (0,0)),(p,zo o R.r)]):=hid (HB.o.news (Lu:=[(bd,.cells #[.int .i64 kd,.int .i64 cl,.int .i64 rc,.int .i64 ri,.bool rt,.int .i64 ro,.string s8,.int .i64 ee,.int .i64 hh,.int .i64 rp,.int .i64 ke,.int .i64 ki,.int .i64 wr,.slice pA pn pc] 60 (0,0))]) HB3.o fun q hq=>by
  rw[List.mem_singleton.1 hq];exact⟨by show a.heap.size≤bd;have:=Hbd.o;omega,hbg'⟩)
 have HNo:Hid (∀q∈([(bd,.cells #[.int .i64 kd,.int .i64 cl,.int .i64 rc,.int .i64 ri,.bool rt,.int .i64 ro,.string s8,.int .i64 ee,.int .i64 hh,.int .i64 rp,.int .i64 ke,.int .i64 ki,.int .i64 wr,.slice pA pn pc] 60 (0,0)),(p,zo o R.r)]:List (Nat×Obj)),¬R.has q.1):=hid fun q hq hR=>by
  have hl:=HB.o.ref.lt hR;have hbe:=Hbd.o;rcases List.mem_cons.1 hq with rfl|hq
  ·dsimp only at hl;omega
  ·rw[List.mem_singleton.1 hq]at hR;exact HB.o.apart (List.mem_singleton.2 rfl) hR
 have HS8:=hid (And.intro hs8 hpn)
 have HCl:Hid (∀W:World,W.heap[p]? =some (zo o R.r)→W.heap[bd]? =some (.cells #[.int .i64 kd,.int .i64 cl,.int .i64 rc,.int .i64 ri,.bool rt,.int .i64 ro,.string s8,.int .i64 ee,.int .i64 hh,.int .i64 rp,.int .i64 ke,.int .i64 ki,.int .i64 wr,.slice pA pn pc] 60 (0,0))→W.cell? ⟨p,1,none⟩=some (.pointer (some ⟨o,0,none⟩))∧W.cell? ⟨p,2,none⟩=some (.pointer (some ⟨R.r,0,none⟩))∧W.cell? ⟨bd,1,none⟩=some (.int .i64 cl)∧(W.cell? ⟨bd,7,none⟩=some (.int .i64 ee)∧W.cell? ⟨bd,8,none⟩=some (.int .i64 hh)∧W.cell? ⟨bd,9,none⟩=some (.int .i64 rp)∧W.cell? ⟨bd,10,none⟩=some (.int .i64 ke)∧W.cell? ⟨bd,11,none⟩=some (.int .i64 ki)∧W.cell? ⟨bd,12,none⟩=some (.int .i64 wr))):=hid fun W q1 q2=>⟨(zl q1).2.1,(zl q1).2.2,cell_of_row W bd 1 _ _ _ q2,cell_of_row W bd 7 _ _ _ q2,cell_of_row W bd 8 _ _ _ q2,cell_of_row W bd 9 _ _ _ q2,cell_of_row W bd 10 _ _ _ q2,cell_of_row W bd 11 _ _ _ q2,cell_of_row W bd 12 _ _ _ q2⟩
 have HGp:Hid (w3.heap[p]? =some (zo o R.r)):=hid (HV3.o.get (List.mem_cons_of_mem _ (List.mem_singleton.2 rfl)));have HGb:=hid hbg';have kd0:=cell_of_row w3 bd 0 _ _ _ hbg';clear hbw hbg hbg' hs8 hpn HG1 HG2 HB1 HB2 HW1;obtain rfl:kd=4:=HKd.o.1
 have HVe:Hid (VD=(V.recov 8).1):=hid HVD.o;have hs0:=HCl.o w3.drew HGp.o HGb.o;have h1:=(HV3.o.below (Below.refl _ _).drew).recoverV HOk.o (by have:=HKd.o.2.1;omega) (by have:=HKd.o.2.2.1;omega);have h2:=fun W (hW:RvC R V W)=>Zl hW HOk.o (by have:=HKd.o.2.2.1;omega);obtain⟨E,hE⟩:∃E:Int,E=(if(V.recov 8).2 then 0 else 1):=⟨_,rfl⟩;rw[←hE]at h1 h2;have HS1:=hid h1;have HS2:=hid h2;clear h1 h2 hE;go_upto_region 17 with fail
 refine wp_region_held_drew (S:=(fun W=>W.cell? ⟨p,1,none⟩=some (.pointer (some ⟨o,0,none⟩))∧W.cell? ⟨p,2,none⟩=some (.pointer (some ⟨R.r,0,none⟩))∧W.cell? ⟨bd,1,none⟩=some (.int .i64 cl)∧(W.cell? ⟨bd,7,none⟩=some (.int .i64 ee)∧W.cell? ⟨bd,8,none⟩=some (.int .i64 hh)∧W.cell? ⟨bd,9,none⟩=some (.int .i64 rp)∧W.cell? ⟨bd,10,none⟩=some (.int .i64 ke)∧W.cell? ⟨bd,11,none⟩=some (.int .i64 ki)∧W.cell? ⟨bd,12,none⟩=some (.int .i64 wr)))) (by kernel_rfl) ?_ (fun hHeld=> ?_)
 ·exact hs0
 refine tk 0 ?_;refine tk 1 ?_;refine tk 2 ?_;refine tk 3 ?_;refine tk 5 ?_;refine tk 6 ?_;refine tk 7 ?_;refine tk 8 ?_;refine rd 4 (fun K hK=> ?_);go_simp
 refine HS1.o.mono ?_;rintro e w4 ⟨rfl,h4⟩;have H4:=hid h4;have hs1:=HCl.o w4 (h4.get (List.mem_cons_of_mem _ (List.mem_singleton.2 rfl))) (h4.get (List.mem_cons_self ..));clear h4;try dsimp only
 refine hK.o _ _ hs1 (fun hHeld=> ?_);clear hK K;try simp only[put]
 refine rd 9 (fun K hK=> ?_);go_simp
 refine(HS2.o _ H4.o.ref).mono ?_
 rintro e w5 ⟨rfl,hC5,hO5⟩;have H5:=hid (H4.o.turn hO5 hC5 HNo.o);have hs3:=HCl.o w5 (H5.o.get (List.mem_cons_of_mem _ (List.mem_singleton.2 rfl))) (H5.o.get (List.mem_cons_self ..));clear hC5 hO5;try dsimp only
 refine hK.o _ _ hs3 (fun hHeld=> ?_);clear hK K;try simp only[put]
 refine tk 10 ?_;refine tk 11 ?_;refine dn ?_
 (try simp only[Exit.then])
 clear hs0 hs1 hs3 HS1 HS2 kd0;go_wp2_with fail
 go_ret
 rw[HVe.o];exact⟨rfl,o,x,t,f,(H5.o.less fun q hq=>List.mem_cons_of_mem _ hq).more (by omega)⟩
end
end
section
open Go.Shelf
attribute [local go_sem] Oper.semAt_some
section
variable {o x t f K n p v r m:Nat} {R:RvB} {V U U2:Gd.Vl} {w a b:World} {Ls Lr:List (Nat×Obj)}
theorem Uf[zc](h:Bv o x t f R V V K w a [(p,zo o R.r)])(hok:V.Ok)(d:Dd)(hkd:d.kd=5)(hpc:d.pn≤d.pc)(hpl:d.pc≤9223372036854775807)(hdl:d.r.d.length≤9223372036854775807)(hk:jb w d.pA (min d.pn 300))(hK:K<90000000000)(hn:V.n≤100000):
 Calls prog 20 #[.pointer (some ⟨p,0,none⟩),.agg (ddC d)] a fun e b=>e= .returned (.bool true)∧∃o2 x2 t2 f2:Nat,Bv o2 x2 t2 f2 R (doD V d) (doD V d) (K+2000000000) w b [(p,zo o2 R.r)]:=by
 obtain⟨w1,hw1⟩:=nm (a.alloc (.cells (ddC d) 60));obtain⟨bd,hbd⟩:=nm a.heap.size;have hb1:Below a.heap.size a w1:=by rw[hw1];exact(Below.refl _ _).alloc (Nat.le_refl _) _
 have hg1:w1.heap[bd]? =some (.cells (ddC d) 60 (0,0)):=by rw[hw1,hbd];exact heap_alloc_new _ _
 have HCu:=hid (qk d w1 hpc hpl hdl);have HB:=hid h;have HOk:=hid hok;have HKd:=hid (And.intro hkd (And.intro hK (And.intro hn hk)));have HW1:=hid hw1.symm;have Hbd:=hid hbd.symm;have HB1:=hid hb1;have HG1:=hid hg1;have hrow:=jF hg1;obtain⟨VD,hVD⟩:=nm (doD V d);rw[←hVD];have HVD:=hid hVD;unfold ddC at HW1;clear h hok hkd hpc hpl hdl hk hK hn hw1 hbd hb1 hg1 hVD;go_enter func20,ntmps20;unfold ddC;go_upto_region 1 with fail
 rw[HW1.o,Hbd.o];go_wp2_with(refine wpList_load_mid rfl 60 _ rfl bd 0 rfl (ddC d).toList _ hrow underlying60 rfl sizeDd ?_)
 refine HCu.o.mono ?_;rintro e w2 ⟨rfl,hb2⟩;have HG2:=hid ((hb2.block bd (za HG1.o)).trans HG1.o);have HB2:=HB1.t hb2;clear hrow hb2 HCu;go_upto_region 2 with(refine wpList_store_mid rfl 60 _ _ rfl bd 0 (ddC d.cut) rfl rfl (zf HG2.o rfl) sizeDd (qs _) ?_;obtain⟨hbw,hbg⟩:=zh HG2.o (vs:=(ddC d.cut).toList) (B:=a.heap.size) rfl (by have:=Hbd.o;omega);generalize (World.setCells _ _ _ _)=w3 at hbw hbg⊢)
 have HB3:=hid (HB2.o.trans hbw);obtain⟨kd,cl,r,ee,hh,rp,ke,ki,wr,pA,pn0,pc⟩:=d;obtain⟨rc,ri,rt,ro,dd⟩:=r;unfold Dd.cut ddC at hbg;dsimp only at hbg HKd HVD;obtain⟨s8,hs8⟩:∃s:ByteArray,s=⟨(dd.take 80).toArray⟩:=⟨_,rfl⟩;obtain⟨pn,hpn⟩:=nm (min pn0 300);have hbg':w3.heap[bd]? =some (.cells #[.int .i64 kd,.int .i64 cl,.int .i64 rc,.int .i64 ri,.bool rt,.int .i64 ro,.string s8,.int .i64 ee,.int .i64 hh,.int .i64 rp,.int .i64 ke,.int .i64 ki,.int .i64 wr,.slice pA pn pc] 60 (0,0)):=by rw[hs8,hpn];exact hbg
 have HV3:Hid (Bv o x t f R V V K w w3 [(bd,.cells #[.int .i64 kd,.int .i64 cl,.int .i64 rc,.int .i64 ri,.bool rt,.int .i64 ro,.string s8,.int .i64 ee,.int .i64 hh,.int .i64 rp,.int .i64 ke,.int .i64 ki,.int .i64 wr,.slice pA pn pc] 60 (0,0)),(p,zo o R.r)]):=hid (HB.o.news (Lu:=[(bd,.cells #[.int .i64 kd,.int .i64 cl,.int .i64 rc,.int .i64 ri,.bool rt,.int .i64 ro,.string s8,.int .i64 ee,.int .i64 hh,.int .i64 rp,.int .i64 ke,.int .i64 ki,.int .i64 wr,.slice pA pn pc] 60 (0,0))]) HB3.o fun q hq=>by
  rw[List.mem_singleton.1 hq];exact⟨by show a.heap.size≤bd;have:=Hbd.o;omega,hbg'⟩)
 have HNo:Hid (∀q∈([(bd,.cells #[.int .i64 kd,.int .i64 cl,.int .i64 rc,.int .i64 ri,.bool rt,.int .i64 ro,.string s8,.int .i64 ee,.int .i64 hh,.int .i64 rp,.int .i64 ke,.int .i64 ki,.int .i64 wr,.slice pA pn pc] 60 (0,0)),(p,zo o R.r)]:List (Nat×Obj)),¬R.has q.1):=hid fun q hq hR=>by
  have hl:=HB.o.ref.lt hR;have hbe:=Hbd.o;rcases List.mem_cons.1 hq with rfl|hq
  ·dsimp only at hl;omega
  ·rw[List.mem_singleton.1 hq]at hR;exact HB.o.apart (List.mem_singleton.2 rfl) hR
 have HS8:=hid (And.intro hs8 hpn)
 have HCl:Hid (∀W:World,W.heap[p]? =some (zo o R.r)→W.heap[bd]? =some (.cells #[.int .i64 kd,.int .i64 cl,.int .i64 rc,.int .i64 ri,.bool rt,.int .i64 ro,.string s8,.int .i64 ee,.int .i64 hh,.int .i64 rp,.int .i64 ke,.int .i64 ki,.int .i64 wr,.slice pA pn pc] 60 (0,0))→W.cell? ⟨p,1,none⟩=some (.pointer (some ⟨o,0,none⟩))∧W.cell? ⟨p,2,none⟩=some (.pointer (some ⟨R.r,0,none⟩))∧W.cell? ⟨bd,1,none⟩=some (.int .i64 cl)∧(W.cell? ⟨bd,7,none⟩=some (.int .i64 ee)∧W.cell? ⟨bd,8,none⟩=some (.int .i64 hh)∧W.cell? ⟨bd,9,none⟩=some (.int .i64 rp)∧W.cell? ⟨bd,10,none⟩=some (.int .i64 ke)∧W.cell? ⟨bd,11,none⟩=some (.int .i64 ki)∧W.cell? ⟨bd,12,none⟩=some (.int .i64 wr))):=hid fun W q1 q2=>⟨(zl q1).2.1,(zl q1).2.2,cell_of_row W bd 1 _ _ _ q2,cell_of_row W bd 7 _ _ _ q2,cell_of_row W bd 8 _ _ _ q2,cell_of_row W bd 9 _ _ _ q2,cell_of_row W bd 10 _ _ _ q2,cell_of_row W bd 11 _ _ _ q2,cell_of_row W bd 12 _ _ _ q2⟩
 have HGp:Hid (w3.heap[p]? =some (zo o R.r)):=hid (HV3.o.get (List.mem_cons_of_mem _ (List.mem_singleton.2 rfl)));have HGb:=hid hbg';have kd0:=cell_of_row w3 bd 0 _ _ _ hbg';clear hbw hbg hbg' hs8 hpn HG1 HG2 HB1 HB2 HW1;obtain rfl:kd=5:=HKd.o.1
 have HVe:Hid (VD=V):=hid HVD.o;have HA:=hid ((HV3.o.less (Ls':=[(p,zo o R.r)]) fun q hq=>List.mem_cons_of_mem _ hq).again (pn:=pn) (pc:=pc) (pA:=pA) (fun q hq=>by cases hq) (by
  have h:=HKd.o.2.2.2;rw[←HS8.o.2]at h;refine h.imp id fun⟨b,q,h1,h2,h3⟩=>⟨b,q,h1,Nat.lt_of_lt_of_le h2 HV3.o.belowW.size,fun j hj=> ?_⟩;obtain⟨y,hy⟩:=h3 j hj;exact⟨y,(HV3.o.belowW.cell (p:=⟨b,q+j,none⟩) h2).trans hy⟩) (by
  intro h0 b q e;have h:=HKd.o.2.2.2;rw[←HS8.o.2]at h;rcases h with h|⟨b',q',h1,h2,-⟩
  ·exact absurd h h0
  ·rw[e]at h1;have e2:b=b':=by injection h1 with h1;injection h1
   omega) (by have:=HS8.o.2;omega) (by have:=HKd.o.2.1;omega))
 have k13:=cell_of_row w3 bd 13 _ _ _ HGb.o;go_wp2_with fail
 refine HA.o.mono ?_;rintro e w4 ⟨rfl,o2,x2,t2,f2,h4⟩;have H4:=hid h4;clear h4 k13 HA;go_wp2_with fail
 go_ret
 rw[HVe.o];exact⟨rfl,o2,x2,t2,f2,H4.o.more (by omega)⟩
end
end
section
open Go.Shelf
attribute [local go_sem] Oper.semAt_some
section
variable {o x t f K n p v r m:Nat} {R:RvB} {V U U2:Gd.Vl} {w a b:World} {Ls Lr:List (Nat×Obj)}
theorem Ue[zc](h:Bv o x t f R V V K w a [(p,zo o R.r)])(hok:V.Ok)(d:Dd)(hkd:d.kd=6)(hpc:d.pn≤d.pc)(hpl:d.pc≤9223372036854775807)(hdl:d.r.d.length≤9223372036854775807)(hk:jb w d.pA (min d.pn 300))(hK:K<90000000000)(hn:V.n≤100000):
 Calls prog 20 #[.pointer (some ⟨p,0,none⟩),.agg (ddC d)] a fun e b=>e= .returned (.bool true)∧∃o2 x2 t2 f2:Nat,Bv o2 x2 t2 f2 R (doD V d) (doD V d) (K+2000000000) w b [(p,zo o2 R.r)]:=by
 obtain⟨w1,hw1⟩:=nm (a.alloc (.cells (ddC d) 60));obtain⟨bd,hbd⟩:=nm a.heap.size;have hb1:Below a.heap.size a w1:=by rw[hw1];exact(Below.refl _ _).alloc (Nat.le_refl _) _
 have hg1:w1.heap[bd]? =some (.cells (ddC d) 60 (0,0)):=by rw[hw1,hbd];exact heap_alloc_new _ _
 have HCu:=hid (qk d w1 hpc hpl hdl);have HB:=hid h;have HOk:=hid hok;have HKd:=hid (And.intro hkd (And.intro hK (And.intro hn hk)));have HW1:=hid hw1.symm;have Hbd:=hid hbd.symm;have HB1:=hid hb1;have HG1:=hid hg1;have hrow:=jF hg1;obtain⟨VD,hVD⟩:=nm (doD V d);rw[←hVD];have HVD:=hid hVD;unfold ddC at HW1;clear h hok hkd hpc hpl hdl hk hK hn hw1 hbd hb1 hg1 hVD;go_enter func20,ntmps20;unfold ddC;go_upto_region 1 with fail
 rw[HW1.o,Hbd.o];go_wp2_with(refine wpList_load_mid rfl 60 _ rfl bd 0 rfl (ddC d).toList _ hrow underlying60 rfl sizeDd ?_)
 refine HCu.o.mono ?_;rintro e w2 ⟨rfl,hb2⟩;have HG2:=hid ((hb2.block bd (za HG1.o)).trans HG1.o);have HB2:=HB1.t hb2;clear hrow hb2 HCu;go_upto_region 2 with(refine wpList_store_mid rfl 60 _ _ rfl bd 0 (ddC d.cut) rfl rfl (zf HG2.o rfl) sizeDd (qs _) ?_;obtain⟨hbw,hbg⟩:=zh HG2.o (vs:=(ddC d.cut).toList) (B:=a.heap.size) rfl (by have:=Hbd.o;omega);generalize (World.setCells _ _ _ _)=w3 at hbw hbg⊢)
 have HB3:=hid (HB2.o.trans hbw);obtain⟨kd,cl,r,ee,hh,rp,ke,ki,wr,pA,pn0,pc⟩:=d;obtain⟨rc,ri,rt,ro,dd⟩:=r;unfold Dd.cut ddC at hbg;dsimp only at hbg HKd HVD;obtain⟨s8,hs8⟩:∃s:ByteArray,s=⟨(dd.take 80).toArray⟩:=⟨_,rfl⟩;obtain⟨pn,hpn⟩:=nm (min pn0 300);have hbg':w3.heap[bd]? =some (.cells #[.int .i64 kd,.int .i64 cl,.int .i64 rc,.int .i64 ri,.bool rt,.int .i64 ro,.string s8,.int .i64 ee,.int .i64 hh,.int .i64 rp,.int .i64 ke,.int .i64 ki,.int .i64 wr,.slice pA pn pc] 60 (0,0)):=by rw[hs8,hpn];exact hbg
 have HV3:Hid (Bv o x t f R V V K w w3 [(bd,.cells #[.int .i64 kd,.int .i64 cl,.int .i64 rc,.int .i64 ri,.bool rt,.int .i64 ro,.string s8,.int .i64 ee,.int .i64 hh,.int .i64 rp,.int .i64 ke,.int .i64 ki,.int .i64 wr,.slice pA pn pc] 60 (0,0)),(p,zo o R.r)]):=hid (HB.o.news (Lu:=[(bd,.cells #[.int .i64 kd,.int .i64 cl,.int .i64 rc,.int .i64 ri,.bool rt,.int .i64 ro,.string s8,.int .i64 ee,.int .i64 hh,.int .i64 rp,.int .i64 ke,.int .i64 ki,.int .i64 wr,.slice pA pn pc] 60 (0,0))]) HB3.o fun q hq=>by
  rw[List.mem_singleton.1 hq];exact⟨by show a.heap.size≤bd;have:=Hbd.o;omega,hbg'⟩)
 have HNo:Hid (∀q∈([(bd,.cells #[.int .i64 kd,.int .i64 cl,.int .i64 rc,.int .i64 ri,.bool rt,.int .i64 ro,.string s8,.int .i64 ee,.int .i64 hh,.int .i64 rp,.int .i64 ke,.int .i64 ki,.int .i64 wr,.slice pA pn pc] 60 (0,0)),(p,zo o R.r)]:List (Nat×Obj)),¬R.has q.1):=hid fun q hq hR=>by
  have hl:=HB.o.ref.lt hR;have hbe:=Hbd.o;rcases List.mem_cons.1 hq with rfl|hq
  ·dsimp only at hl;omega
  ·rw[List.mem_singleton.1 hq]at hR;exact HB.o.apart (List.mem_singleton.2 rfl) hR
 have HS8:=hid (And.intro hs8 hpn)
 have HCl:Hid (∀W:World,W.heap[p]? =some (zo o R.r)→W.heap[bd]? =some (.cells #[.int .i64 kd,.int .i64 cl,.int .i64 rc,.int .i64 ri,.bool rt,.int .i64 ro,.string s8,.int .i64 ee,.int .i64 hh,.int .i64 rp,.int .i64 ke,.int .i64 ki,.int .i64 wr,.slice pA pn pc] 60 (0,0))→W.cell? ⟨p,1,none⟩=some (.pointer (some ⟨o,0,none⟩))∧W.cell? ⟨p,2,none⟩=some (.pointer (some ⟨R.r,0,none⟩))∧W.cell? ⟨bd,1,none⟩=some (.int .i64 cl)∧(W.cell? ⟨bd,7,none⟩=some (.int .i64 ee)∧W.cell? ⟨bd,8,none⟩=some (.int .i64 hh)∧W.cell? ⟨bd,9,none⟩=some (.int .i64 rp)∧W.cell? ⟨bd,10,none⟩=some (.int .i64 ke)∧W.cell? ⟨bd,11,none⟩=some (.int .i64 ki)∧W.cell? ⟨bd,12,none⟩=some (.int .i64 wr))):=hid fun W q1 q2=>⟨(zl q1).2.1,(zl q1).2.2,cell_of_row W bd 1 _ _ _ q2,cell_of_row W bd 7 _ _ _ q2,cell_of_row W bd 8 _ _ _ q2,cell_of_row W bd 9 _ _ _ q2,cell_of_row W bd 10 _ _ _ q2,cell_of_row W bd 11 _ _ _ q2,cell_of_row W bd 12 _ _ _ q2⟩
 have HGp:Hid (w3.heap[p]? =some (zo o R.r)):=hid (HV3.o.get (List.mem_cons_of_mem _ (List.mem_singleton.2 rfl)));have HGb:=hid hbg';have kd0:=cell_of_row w3 bd 0 _ _ _ hbg';clear hbw hbg hbg' hs8 hpn HG1 HG2 HB1 HB2 HW1;obtain rfl:kd=6:=HKd.o.1
 have HVe:Hid (VD=V):=hid HVD.o;have hs0:=HCl.o w3.drew HGp.o HGb.o;have h1:=(HV3.o.below (Below.refl _ _).drew).setany (⟨6,cl,⟨rc,ri,rt,ro,dd⟩,ee,hh,rp,ke,ki,wr,pA,pn0,pc⟩:Dd);unfold jr at h1;dsimp only at h1;have HS1:=hid h1;clear h1;go_upto_region 21 with fail
 refine wp_region_held_drew (S:=(fun W=>W.cell? ⟨p,1,none⟩=some (.pointer (some ⟨o,0,none⟩))∧W.cell? ⟨p,2,none⟩=some (.pointer (some ⟨R.r,0,none⟩))∧W.cell? ⟨bd,1,none⟩=some (.int .i64 cl)∧(W.cell? ⟨bd,7,none⟩=some (.int .i64 ee)∧W.cell? ⟨bd,8,none⟩=some (.int .i64 hh)∧W.cell? ⟨bd,9,none⟩=some (.int .i64 rp)∧W.cell? ⟨bd,10,none⟩=some (.int .i64 ke)∧W.cell? ⟨bd,11,none⟩=some (.int .i64 ki)∧W.cell? ⟨bd,12,none⟩=some (.int .i64 wr)))) (by kernel_rfl) ?_ (fun hHeld=> ?_)
 ·exact hs0
 refine tk 0 ?_;refine tk 1 ?_;refine tk 2 ?_;refine tk 3 ?_;refine tk 4 ?_;refine tk 5 ?_;refine tk 6 ?_;refine tk 7 ?_;refine rd 8 (fun K hK=> ?_);go_simp
 refine HS1.o.mono ?_;rintro e w4 ⟨⟨E,rfl⟩,h4⟩;have H4:=hid h4;have hs1:=HCl.o w4 (h4.get (List.mem_cons_of_mem _ (List.mem_singleton.2 rfl))) (h4.get (List.mem_cons_self ..));clear h4;try dsimp only
 refine hK.o _ _ hs1 (fun hHeld=> ?_);clear hK K;try simp only[put]
 refine dn ?_
 (try simp only[Exit.then])
 obtain⟨q1,-,-,-⟩:=hs1;obtain⟨v0,-,-⟩:=zl H4.o.vol;have HDr:=hid H4.o.drop;clear hs0 HS1 kd0;go_wp2_with fail
 refine HDr.o.mono ?_;rintro e w5 ⟨rfl,h5⟩;have H5:=hid h5;clear h5 HDr q1 v0;go_wp2_with fail
 go_ret
 rw[HVe.o];exact⟨rfl,o,x,t,f,(H5.o.less fun q hq=>List.mem_cons_of_mem _ hq).more (by omega)⟩
end
end
section
open Go.Shelf
attribute [local go_sem] Oper.semAt_some
section
variable {o x t f K n p v r m:Nat} {R:RvB} {V U U2:Gd.Vl} {w a b:World} {Ls Lr:List (Nat×Obj)}
theorem Ud[zc](h:Bv o x t f R V V K w a [(p,zo o R.r)])(hok:V.Ok)(d:Dd)(hkd:¬(0≤d.kd∧d.kd≤6))(hpc:d.pn≤d.pc)(hpl:d.pc≤9223372036854775807)(hdl:d.r.d.length≤9223372036854775807)(hk:jb w d.pA (min d.pn 300))(hK:K<90000000000)(hn:V.n≤100000):
 Calls prog 20 #[.pointer (some ⟨p,0,none⟩),.agg (ddC d)] a fun e b=>e= .returned (.bool true)∧∃o2 x2 t2 f2:Nat,Bv o2 x2 t2 f2 R (doD V d) (doD V d) (K+2000000000) w b [(p,zo o2 R.r)]:=by
 obtain⟨w1,hw1⟩:=nm (a.alloc (.cells (ddC d) 60));obtain⟨bd,hbd⟩:=nm a.heap.size;have hb1:Below a.heap.size a w1:=by rw[hw1];exact(Below.refl _ _).alloc (Nat.le_refl _) _
 have hg1:w1.heap[bd]? =some (.cells (ddC d) 60 (0,0)):=by rw[hw1,hbd];exact heap_alloc_new _ _
 have HCu:=hid (qk d w1 hpc hpl hdl);have HB:=hid h;have HOk:=hid hok;have HKd:=hid (And.intro hkd (And.intro hK (And.intro hn hk)));have HW1:=hid hw1.symm;have Hbd:=hid hbd.symm;have HB1:=hid hb1;have HG1:=hid hg1;have hrow:=jF hg1;obtain⟨VD,hVD⟩:=nm (doD V d);rw[←hVD];have HVD:=hid hVD;unfold ddC at HW1;clear h hok hkd hpc hpl hdl hk hK hn hw1 hbd hb1 hg1 hVD;go_enter func20,ntmps20;unfold ddC;go_upto_region 1 with fail
 rw[HW1.o,Hbd.o];go_wp2_with(refine wpList_load_mid rfl 60 _ rfl bd 0 rfl (ddC d).toList _ hrow underlying60 rfl sizeDd ?_)
 refine HCu.o.mono ?_;rintro e w2 ⟨rfl,hb2⟩;have HG2:=hid ((hb2.block bd (za HG1.o)).trans HG1.o);have HB2:=HB1.t hb2;clear hrow hb2 HCu;go_upto_region 2 with(refine wpList_store_mid rfl 60 _ _ rfl bd 0 (ddC d.cut) rfl rfl (zf HG2.o rfl) sizeDd (qs _) ?_;obtain⟨hbw,hbg⟩:=zh HG2.o (vs:=(ddC d.cut).toList) (B:=a.heap.size) rfl (by have:=Hbd.o;omega);generalize (World.setCells _ _ _ _)=w3 at hbw hbg⊢)
 have HB3:=hid (HB2.o.trans hbw);obtain⟨kd,cl,r,ee,hh,rp,ke,ki,wr,pA,pn0,pc⟩:=d;obtain⟨rc,ri,rt,ro,dd⟩:=r;unfold Dd.cut ddC at hbg;dsimp only at hbg HKd HVD;obtain⟨s8,hs8⟩:∃s:ByteArray,s=⟨(dd.take 80).toArray⟩:=⟨_,rfl⟩;obtain⟨pn,hpn⟩:=nm (min pn0 300);have hbg':w3.heap[bd]? =some (.cells #[.int .i64 kd,.int .i64 cl,.int .i64 rc,.int .i64 ri,.bool rt,.int .i64 ro,.string s8,.int .i64 ee,.int .i64 hh,.int .i64 rp,.int .i64 ke,.int .i64 ki,.int .i64 wr,.slice pA pn pc] 60 (0,0)):=by rw[hs8,hpn];exact hbg
 have HV3:Hid (Bv o x t f R V V K w w3 [(bd,.cells #[.int .i64 kd,.int .i64 cl,.int .i64 rc,.int .i64 ri,.bool rt,.int .i64 ro,.string s8,.int .i64 ee,.int .i64 hh,.int .i64 rp,.int .i64 ke,.int .i64 ki,.int .i64 wr,.slice pA pn pc] 60 (0,0)),(p,zo o R.r)]):=hid (HB.o.news (Lu:=[(bd,.cells #[.int .i64 kd,.int .i64 cl,.int .i64 rc,.int .i64 ri,.bool rt,.int .i64 ro,.string s8,.int .i64 ee,.int .i64 hh,.int .i64 rp,.int .i64 ke,.int .i64 ki,.int .i64 wr,.slice pA pn pc] 60 (0,0))]) HB3.o fun q hq=>by
  rw[List.mem_singleton.1 hq];exact⟨by show a.heap.size≤bd;have:=Hbd.o;omega,hbg'⟩)
 have HNo:Hid (∀q∈([(bd,.cells #[.int .i64 kd,.int .i64 cl,.int .i64 rc,.int .i64 ri,.bool rt,.int .i64 ro,.string s8,.int .i64 ee,.int .i64 hh,.int .i64 rp,.int .i64 ke,.int .i64 ki,.int .i64 wr,.slice pA pn pc] 60 (0,0)),(p,zo o R.r)]:List (Nat×Obj)),¬R.has q.1):=hid fun q hq hR=>by
  have hl:=HB.o.ref.lt hR;have hbe:=Hbd.o;rcases List.mem_cons.1 hq with rfl|hq
  ·dsimp only at hl;omega
  ·rw[List.mem_singleton.1 hq]at hR;exact HB.o.apart (List.mem_singleton.2 rfl) hR
 have HS8:=hid (And.intro hs8 hpn)
 have HCl:Hid (∀W:World,W.heap[p]? =some (zo o R.r)→W.heap[bd]? =some (.cells #[.int .i64 kd,.int .i64 cl,.int .i64 rc,.int .i64 ri,.bool rt,.int .i64 ro,.string s8,.int .i64 ee,.int .i64 hh,.int .i64 rp,.int .i64 ke,.int .i64 ki,.int .i64 wr,.slice pA pn pc] 60 (0,0))→W.cell? ⟨p,1,none⟩=some (.pointer (some ⟨o,0,none⟩))∧W.cell? ⟨p,2,none⟩=some (.pointer (some ⟨R.r,0,none⟩))∧W.cell? ⟨bd,1,none⟩=some (.int .i64 cl)∧(W.cell? ⟨bd,7,none⟩=some (.int .i64 ee)∧W.cell? ⟨bd,8,none⟩=some (.int .i64 hh)∧W.cell? ⟨bd,9,none⟩=some (.int .i64 rp)∧W.cell? ⟨bd,10,none⟩=some (.int .i64 ke)∧W.cell? ⟨bd,11,none⟩=some (.int .i64 ki)∧W.cell? ⟨bd,12,none⟩=some (.int .i64 wr))):=hid fun W q1 q2=>⟨(zl q1).2.1,(zl q1).2.2,cell_of_row W bd 1 _ _ _ q2,cell_of_row W bd 7 _ _ _ q2,cell_of_row W bd 8 _ _ _ q2,cell_of_row W bd 9 _ _ _ q2,cell_of_row W bd 10 _ _ _ q2,cell_of_row W bd 11 _ _ _ q2,cell_of_row W bd 12 _ _ _ q2⟩
 have HGp:Hid (w3.heap[p]? =some (zo o R.r)):=hid (HV3.o.get (List.mem_cons_of_mem _ (List.mem_singleton.2 rfl)));have HGb:=hid hbg';have kd0:=cell_of_row w3 bd 0 _ _ _ hbg';clear hbw hbg hbg' hs8 hpn HG1 HG2 HB1 HB2 HW1;have hkx:=HKd.o.1;have HVe:Hid (VD=V):=hid (by
  rw[HVD.o];unfold doD;dsimp only;rw[if_neg (by omega),if_neg (by omega),if_neg (by omega),if_neg (by omega),if_neg (by omega)])
 have b0:(kd==0)=false:=by rw[beq_eq_false_iff_ne];omega
 have b1:(kd==1)=false:=by rw[beq_eq_false_iff_ne];omega
 have b2:(kd==2)=false:=by rw[beq_eq_false_iff_ne];omega
 have b3:(kd==3)=false:=by rw[beq_eq_false_iff_ne];omega
 have b4:(kd==4)=false:=by rw[beq_eq_false_iff_ne];omega
 have b5:(kd==5)=false:=by rw[beq_eq_false_iff_ne];omega
 have b6:(kd==6)=false:=by rw[beq_eq_false_iff_ne];omega
 clear hkx;go_wp2_with fail
 go_ret
 rw[HVe.o];exact⟨rfl,o,x,t,f,(HV3.o.less fun q hq=>List.mem_cons_of_mem _ hq).more (by omega)⟩
end
end
section
open Go.Shelf
attribute [local go_sem] Oper.semAt_some
namespace Gd
theorem part_repN{n m k:Nat}(h:k+m≤n):part (List.replicate n (0:UInt8)) k m=List.replicate m 0:=by
 apply List.ext_getElem?
 intro i;rw[part_get?,List.getElem?_replicate,List.getElem?_replicate];by_cases hi:i<m
 ·rw[if_pos hi,if_pos hi,if_pos (by omega)]
 ·rw[if_neg hi,if_neg hi]
end Gd
theorem JB[zc]{p:Nat}{w a:World}(h:QE p w a):∃(R:RvB) (o x t f:Nat),Bv o x t f R Zo Zo 665100000 w a [(p,zo o R.r)]:=by
 obtain⟨o,x,t,f,r,S,M,wr,w9,hV,⟨hB,hl⟩,hR,rfl,rfl⟩:=h;obtain⟨R,hRr,hC,hge⟩:=Vc hR;have hb9:=hR.2;have hs:Vs o x t f Zo 665100000 w wr []:=by
  refine⟨S,M,hV,Gd.Fils.began hB,fun c c1 c2=> ?_⟩;rw[hl];exact Gd.part_repN (by omega)
 obtain⟨L0,hL0⟩:=nm ([R.r,R.g1,R.g2,R.g3]++(List.range 8).map R.bs);have hm:∀q,R.has q↔q∈L0:=fun q=>by
  rw[hL0];simp only[List.mem_append,List.mem_cons,List.not_mem_nil,or_false,List.mem_map,List.mem_range];constructor
  ·rintro(h|h|h|h|⟨c,hc,h⟩)
   ·exact Or.inl (Or.inl h)
   ·exact Or.inl (Or.inr (Or.inl h))
   ·exact Or.inl (Or.inr (Or.inr (Or.inl h)))
   ·exact Or.inl (Or.inr (Or.inr (Or.inr h)))
   ·exact Or.inr ⟨c,hc,h.symm⟩
  ·rintro((h|h|h|h)|⟨c,hc,h⟩)
   ·exact Or.inl h
   ·exact Or.inr (Or.inl h)
   ·exact Or.inr (Or.inr (Or.inl h))
   ·exact Or.inr (Or.inr (Or.inr (Or.inl h)))
   ·exact Or.inr (Or.inr (Or.inr (Or.inr ⟨c,hc,h.symm⟩)))
 obtain⟨Lr,hLr⟩:∃Lr:List (Nat×Obj),Lr=L0.map fun q=>(q,(w9.heap[q]?).getD (.cells #[] 0 (0,0))):=⟨_,rfl⟩;have hr:∀q,R.has q↔∃o',(q,o')∈Lr:=fun q=>by
  rw[hm,hLr];constructor
  ·intro h;exact⟨_,List.mem_map.2 ⟨q,h,rfl⟩⟩
  ·rintro⟨o',h⟩;obtain⟨q',h1,h2⟩:=List.mem_map.1 h;have:q'=q:=congrArg (·.1) h2
   rw[←this];exact h1
 have h9:=hs.news hb9 (Lu:=Lr) fun p hp=>by
  have hR:=(hr p.1).2 ⟨p.2,hp⟩;refine⟨hge _ hR,?_⟩;rw[hLr]at hp;obtain⟨q',h1,rfl⟩:=List.mem_map.1 hp;obtain⟨C,ty,hg,-⟩:=hC.typ hR;dsimp only at hg⊢;rw[hg];rfl
 have hv:Bv o x t f R Zo Zo 665100000 w w9 []:=⟨Lr,hr,h9,hC⟩;refine⟨R,o,x,t,f,?_⟩;rw[hRr];exact hv.news ((Below.refl _ _).alloc (Nat.le_refl _) _) (Lu:=[(w9.heap.size,zo o r)]) fun p hp=>by
  rw[List.mem_singleton.1 hp];exact⟨Nat.le_refl _,heap_alloc_new w9 _⟩
structure Y4(w:World)(d:Dd):Prop where
 pc:d.pn≤d.pc
 pl:d.pc≤9223372036854775807
 dl:d.r.d.length≤9223372036854775807
 pk:jb w d.pA (min d.pn 300)
def Dds(w:World)(A:Option Addr)(L:List Dd):Prop:=L=[]∨∃b o,A=some ⟨b,o,none⟩∧b<w.heap.size∧∀(j:Nat) (d:Dd),L[j]? =some d→w.rangeAt b (o+j*14) (ddC d).toList
theorem Ju[zc]{o x t f K p:Nat}{R:RvB}{V:Gd.Vl}{w a:World}(h:Bv o x t f R V V K w a [(p,zo o R.r)])(hok:V.Ok)(d:Dd)(hd:Y4 w d)(hK:K<90000000000)(hn:V.n≤100000):
 Calls prog 20 #[.pointer (some ⟨p,0,none⟩),.agg (ddC d)] a fun e b=>e= .returned (.bool true)∧∃o2 x2 t2 f2:Nat,Bv o2 x2 t2 f2 R (doD V d) (doD V d) (K+2000000000) w b [(p,zo o2 R.r)]:=by
 by_cases hx:0≤d.kd∧d.kd≤6
 ·rcases(by omega:d.kd=0∨d.kd=1∨d.kd=2∨d.kd=3∨d.kd=4∨d.kd=5∨d.kd=6)with e|e|e|e|e|e|e
  ·exact Uk h hok d e hd.pc hd.pl hd.dl hd.pk hK hn
  ·exact Uj h hok d e hd.pc hd.pl hd.dl hd.pk hK hn
  ·exact Ui h hok d e hd.pc hd.pl hd.dl hd.pk hK hn
  ·exact Uh h hok d e hd.pc hd.pl hd.dl hd.pk hK hn
  ·exact Ug h hok d e hd.pc hd.pl hd.dl hd.pk hK hn
  ·exact Uf h hok d e hd.pc hd.pl hd.dl hd.pk hK hn
  ·exact Ue h hok d e hd.pc hd.pl hd.dl hd.pk hK hn
 ·exact Ud h hok d hx hd.pc hd.pl hd.dl hd.pk hK hn
end
namespace Gd
theorem scanF_last{L:List UInt8}{n:Nat}:∀{f head:Nat},n<head+f→∀f',scanF L n f' ((scanF L n f head).foldl (fun _ p=>p.2) head)=[]
 |0,head,h,f'=>by
  show scanF L n f' head=[]
  exact scanF_end (by omega)
 |f+1,head,h,f'=>by
  by_cases hh:head<n
  ·cases hd:decR ((L.drop (8+head)).take (n-head))with
   |none=>
    rw[scanF_stop hd];exact scanF_stop hd
   |some q=>
    obtain⟨r,k⟩:=q;rw[scanF_step hh hd,List.foldl_cons];have:=(decR_le hd).1
    exact scanF_last (by omega) f'
  ·rw[scanF_end hh];exact scanF_end hh
def lastH(l:List (Rec×Nat))(h:Nat):Nat:=l.foldl (fun _ p=>p.2) h
theorem scanL_last(L:List UInt8)(ep h:Nat):scanL L ep ((lastH (scanL L ep h) h:Nat):Int)=[]:=by
 by_cases hc:getB L 0 8=true∧endB (endN L/4294967296:Nat) (endN L % 4294967296:Nat)=true∧((endN L/4294967296:Nat):Int)=ep
 ·have hn:endN L % 4294967296≤1016:=by
   have h2:=hc.2.1;unfold endB at h2;simp only[Bool.and_eq_true,decide_eq_true_eq]at h2;omega
  have e1:∀k:Nat,scanL L ep (k:Int)=scanF L (endN L % 4294967296) 1024 k:=fun k=>by
   unfold scanL;rw[if_pos ⟨hc.1,hc.2.1,hc.2.2,by omega⟩,Int.toNat_natCast]
  rw[e1,e1];exact scanF_last (by omega) 1024
 ·have e1:∀k:Int,scanL L ep k=[]:=fun k=>by
   unfold scanL;rw[if_neg fun hh=>hc ⟨hh.1,hh.2.1,hh.2.2.1⟩]
  rw[e1]
theorem Vl.steps_h(c:Nat):∀(l:List (Rec×Nat)) (V:Vl),((V.steps c l).s c).h=lastH l (V.s c).h
 |[],_=>rfl
 |p::l,V=>by
  show(((V.step c p).steps c l).s c).h=lastH l p.2
  rw[Vl.steps_h c l,Vl.step_s];unfold updS;rw[if_pos rfl];rfl
theorem Vl.take_pend(V:Vl)(c:Nat):(V.take c).pend c=[]:=by
 have h1:((V.take c).s c).h=lastH (V.pend c) (V.s c).h:=Vl.steps_h c _ V;have h2:((V.take c).s c).e=(V.s c).e:=Vl.steps_e c c _ V;have h3:(V.take c).lg=V.lg:=Vl.steps_lg c _ V;unfold Vl.pend at h1⊢;rw[h1,h2,h3];exact scanL_last _ _ _
theorem Vl.take_same{V:Vl}{c:Nat}(h:V.pend c=[]):V.take c=V∧V.taken c=[]:=by
 unfold Vl.take Vl.taken;rw[h];exact⟨rfl,rfl⟩
def Vl.Inv(V:Vl):Prop:=∀c,1≤c→c≤8→getB (V.lg c) 0 8=true→endN (V.lg c)/4294967296≤(V.s c).e
theorem pend_late{V:Vl}{c:Nat}(h:getB (V.lg c) 0 8=true→endN (V.lg c)/4294967296<(V.s c).e):V.pend c=[]:=by
 unfold Vl.pend scanL;rw[if_neg];rintro⟨h1,_,h3,_⟩;have:=h h1
 omega
theorem Vl.fence_pend{V:Vl}(h:V.Inv){c:Nat}(c1:1≤c)(c2:c≤8)(he:(V.s c).e<1073741824):(V.fence c).pend c=[]:=by
 refine pend_late fun hg=> ?_;unfold Vl.fence at hg⊢;rw[if_pos he]at hg⊢;have h1:((V.sets c (overS (V.s c))).s c).e=(V.s c).e+1:=by
  show(updS V.s c (overS (V.s c)) c).e=_
  unfold updS;rw[if_pos rfl];rfl
 rw[h1];have:=h c c1 c2 hg
 show endN (V.lg c)/4294967296<_
 omega
theorem Vl.Inv.sets{V:Vl}(h:V.Inv){c:Nat}{s:Slot}(hs:(V.s c).e≤s.e):(V.sets c s).Inv:=fun d d1 d2 hg=>by
 have:=h d d1 d2 hg
 show endN (V.lg d)/4294967296≤(if d=c then s else V.s d).e
 split
 ·rename_i e
  subst e;omega
 ·exact this
theorem Vl.Inv.steps{V:Vl}(h:V.Inv)(c:Nat)(l:List (Rec×Nat)):(V.steps c l).Inv:=fun d d1 d2 hg=>by
 rw[Vl.steps_lg]at hg⊢;rw[Vl.steps_e c d];exact h d d1 d2 hg
theorem Vl.Inv.take{V:Vl}(h:V.Inv)(c:Nat):(V.take c).Inv:=h.steps c _
theorem Vl.Inv.fence{V:Vl}(h:V.Inv)(c:Nat):(V.fence c).Inv:=by
 unfold Vl.fence;split
 ·exact h.sets (by show(V.s c).e≤(V.s c).e+1;omega)
 ·exact h
theorem Vl.Inv.recov{V:Vl}(h:V.Inv):∀k,(V.recov k).1.Inv
 |0=>h
 |k+1=>by
  have ih:=Vl.Inv.recov h k;unfold Vl.recov
  cases hr:Vl.recov k V with
  |mk W b=>
   rw[hr]at ih
   cases b with
   |false=>exact ih
   |true=>exact(ih.take _).fence _
theorem endN_put{L:List UInt8}{x:Nat}(hL:L.length=1024)(hx:x<9223372036854775808):endN (splice L 0 (le x 8))=x:=by
 have hf:0+(le x 8).length≤L.length:=by rw[le_length];omega
 have hsl:=splice_length hf;have hp:((splice L 0 (le x 8)).drop 0).take 8=le x 8:=by
  have:=part_splice_same hf
  rw[le_length]at this;exact this
 have hn:getN (splice L 0 (le x 8)) 0 8=x:=by
  unfold getN;rw[hp];exact unle_le 8 x (by omega)
 have hb:getB (splice L 0 (le x 8)) 0 8=true:=by
  unfold getB;simp only[Bool.and_eq_true,decide_eq_true_eq];refine⟨⟨by omega,by omega⟩,?_⟩;show getN _ 0 8<_
  omega
 unfold endN get;rw[if_pos hb];show((getN _ 0 8:Nat):Int).toNat=x
 rw[hn,Int.toNat_natCast]
theorem Vl.Inv.appD{V:Vl}(h:V.Inv)(hok:V.Ok)(cl:Int)(r:Rec):(V.appD cl r).Inv:=by
 unfold Vl.appD;split
 ·rename_i hh
  obtain⟨hcl,hro⟩:=hh;have hr:=Vl.room_ok hro;intro d d1 d2 _;show endN (if d=cl.toNat then splice (if cl.toNat=cl.toNat then splice (V.lg cl.toNat) (8+V.endOf cl.toNat) (encL r)else V.lg cl.toNat) 0 (le (V.endV cl.toNat r) 8)else if d=cl.toNat then splice (V.lg cl.toNat) (8+V.endOf cl.toNat) (encL r)else V.lg d)/4294967296≤(V.s d).e
  by_cases e:d=cl.toNat
  ·have hl:=hok.log cl.toNat (by omega) (by omega);rw[if_pos e,if_pos rfl,endN_put (by rw[splice_length (by omega)];exact hl) (by unfold Vl.endV;omega),e];unfold Vl.endV;omega
  ·rw[if_neg e,if_neg e];rename_i hg
   exact h d d1 d2 (by
    have:(((V.setLog cl.toNat (8+V.endOf cl.toNat) (encL r)).setLog cl.toNat 0 (le (V.endV cl.toNat r) 8)).lg d)=V.lg d:=by
     show(if d=cl.toNat then _ else if d=cl.toNat then _ else V.lg d)=_
     rw[if_neg e,if_neg e]
    rw[this]at hg;exact hg)
 ·exact h
end Gd
def UP(V:Gd.Vl)(d:Dd):Bool:=decide (d.kd=1)&&(decide (1≤d.cl)&&(decide (d.cl≤8)&&decide (d.e<((V.s d.cl.toNat).e:Int))))
theorem UU{V:Gd.Vl}(h:V.Inv)(hok:V.Ok){d:Dd}(hf:UP V d=false):(doD V d).Inv:=by
 unfold doD;split
 ·exact h.appD hok _ _
 split
 ·rename_i hk
  split
  ·rename_i hh
   have hin:=of_decide_eq_true hh.1;refine h.sets ?_;have hsl:=Dd.may_sl hh.2;have:¬d.e<((V.s d.cl.toNat).e:Int):=fun hlt=>by
    unfold UP at hf;rw[decide_eq_true hk,decide_eq_true hin.1,decide_eq_true hin.2,decide_eq_true hlt]at hf
    cases hf
   show(V.s d.cl.toNat).e≤d.e.toNat
   omega
  ·exact h
 split
 ·split
  ·exact h.take _
  ·exact h
 split
 ·split
  ·exact h.fence _
  ·exact h
 split
 ·exact h.recov 8
 ·exact h
theorem US:Zo.Inv:=fun c _ _ _=>by
 show Gd.endN vF/4294967296≤0
 have:Gd.endN vF=0:=by decide+kernel
 omega
section
open Go.Shelf
attribute [local go_sem] Oper.semAt_some
theorem UR[zc]{o x t f K p:Nat}{R:RvB}{V U:Gd.Vl}{w a:World}(h:Bv o x t f R U V K w a [(p,zo o R.r)])(d:Dd):
 Calls prog 33 #[.pointer (some ⟨p,0,none⟩),.agg (ddC d)] a fun e b=>e= .returned (.bool (UP V d))∧Below a.heap.size a b:=by
 obtain⟨w1,hw1⟩:=nm (a.alloc (.cells (ddC d) 60));obtain⟨bd,hbd⟩:=nm a.heap.size;have hb1:Below a.heap.size a w1:=by rw[hw1];exact(Below.refl _ _).alloc (Nat.le_refl _) _
 have hg1:w1.drew.heap[bd]? =some (.cells (ddC d) 60 (0,0)):=by rw[hw1,hbd];exact heap_alloc_new _ _
 have HB1:=hid (hb1.drew);have HB:=hid ((h.below hb1).below (Below.refl _ _).drew);obtain⟨q,hq⟩:=nm (UP V d);rw[←hq];have HQ:=hid hq;obtain⟨kd,cl,⟨rc,ri,rt,ro,dd⟩,ee,hh,rp,ke,ki,wr,pA,pn,pc⟩:=d;have k0:=cell_of_row w1.drew bd 0 _ _ _ hg1;have k1:=cell_of_row w1.drew bd 1 _ _ _ hg1;have k7:=cell_of_row w1.drew bd 7 _ _ _ hg1;have HW1:=hid hw1.symm;have Hbd:=hid hbd.symm;clear h hq hw1 hbd hb1 hg1;unfold ddC at HW1 k0 k1 k7⊢;dsimp only at HW1 k0 k1 k7⊢;have K0:w1.drew.cell? ⟨bd,0,none⟩=some (.int .i64 kd):=k0;have K1:w1.drew.cell? ⟨bd,1,none⟩=some (.int .i64 cl):=k1;have K7:w1.drew.cell? ⟨bd,7,none⟩=some (.int .i64 ee):=k7;clear k0 k1 k7;by_cases g0:kd=1
 ·subst g0;by_cases g1:1≤cl
  ·by_cases g2:cl≤8
   ·obtain⟨d,hd⟩:∃d:Nat,cl=(d:Int)+1:=⟨(cl-1).toNat,by omega⟩;have hd8:d<8:=by omega
    obtain⟨c1,-,-,a0,-,-,-,-⟩:=HB.o.ref.c4;have hpr:=zl (HB.o.get (k:=p) (List.mem_singleton.2 rfl));have hsl:=HB.o.ref.slot hd8 0 (by omega);subst hd;have hwr:IntKind.i64.wrap ((d:Int)+1-1)=(d:Int):=by rw[IntKind.wrap_i64];omega
    have hwr2:IntKind.i64.wrap (d:Int)=(d:Int):=by rw[IntKind.wrap_i64];omega
    have hd1:(d:Int)<8:=by omega
    have hd0:(0:Int)≤d:=by omega
    have hs0:(w1.drew.cell? ⟨bd,0,none⟩=some (.int .i64 1)∧w1.drew.cell? ⟨bd,1,none⟩=some (.int .i64 ((d:Int)+1))∧w1.drew.cell? ⟨bd,7,none⟩=some (.int .i64 ee)∧w1.drew.cell? ⟨p,2,none⟩=some (.pointer (some ⟨R.r,0,none⟩))∧w1.drew.cell? ⟨R.r,0,none⟩=some (.slice (some ⟨R.g1,0,none⟩) 8 c1)∧w1.drew.cell? ⟨R.g1,d*6,none⟩=some (.int .i64 ((V.s (d+1)).e:Nat))):=⟨K0,K1,K7,hpr.2.2,a0,hsl⟩;obtain⟨ev,hev⟩:∃ev:Int,ev=((V.s (d+1)).e:Nat):=⟨_,rfl⟩;rw[←hev]at hs0;have HEv:=hid hev;clear K0 K1 K7 hpr hsl a0 hev hd8;go_enter func33,ntmps33;go_upto_region 1 with fail
    rw[HW1.o,Hbd.o];refine wp_region_held_drew (S:=(fun W=>W.cell? ⟨bd,0,none⟩=some (.int .i64 1)∧W.cell? ⟨bd,1,none⟩=some (.int .i64 ((d:Int)+1))∧W.cell? ⟨bd,7,none⟩=some (.int .i64 ee)∧W.cell? ⟨p,2,none⟩=some (.pointer (some ⟨R.r,0,none⟩))∧W.cell? ⟨R.r,0,none⟩=some (.slice (some ⟨R.g1,0,none⟩) 8 c1)∧W.cell? ⟨R.g1,d*6,none⟩=some (.int .i64 ev))) (by kernel_rfl) ?_ (fun hHeld=> ?_)
    ·exact hs0
    refine tk 0 ?_;refine tk 1 ?_;refine tk 2 ?_;refine tk 3 ?_;refine tk 4 ?_;refine tk 5 ?_;refine tk 6 ?_;refine tk 7 ?_;refine tk 8 ?_;refine tk 9 ?_;refine tk 10 ?_;refine tk 11 ?_;refine tk 12 ?_;refine tk 13 ?_;refine tk 14 ?_;refine tk 15 ?_;refine tk 16 ?_;refine tk 17 ?_;refine tk 18 ?_;refine tk 19 ?_;refine tk 20 ?_;refine tk 21 ?_;refine tk 22 ?_;refine tk 23 ?_;refine tk 24 ?_;refine tk 25 ?_;refine tk 26 ?_;refine tk 27 ?_;refine tk 28 ?_;refine tk 29 ?_;refine tk 30 ?_;refine tk 31 ?_;refine tk 32 ?_;refine dn ?_
    (try simp only[Exit.then])
    clear hs0;go_wp2_with fail
    go_ret
    refine⟨?_,HB1.o⟩;rw[HQ.o];unfold UP;dsimp only;have e1:((d:Int)+1).toNat=d+1:=by omega
    rw[e1,←HEv.o,decide_eq_true g1,decide_eq_true g2];simp
   ·have hs0:=And.intro K0 (And.intro K1 K7);clear K0 K1 K7;go_enter func33,ntmps33;go_upto_region 1 with fail
    rw[HW1.o,Hbd.o];refine wp_region_held_drew (S:=(fun W=>W.cell? ⟨bd,0,none⟩=some (.int .i64 1)∧W.cell? ⟨bd,1,none⟩=some (.int .i64 cl)∧W.cell? ⟨bd,7,none⟩=some (.int .i64 ee))) (by kernel_rfl) ?_ (fun hHeld=> ?_)
    ·exact hs0
    refine tk 0 ?_;refine tk 1 ?_;refine tk 2 ?_;refine tk 3 ?_;refine tk 4 ?_;refine tk 5 ?_;refine tk 6 ?_;refine tk 7 ?_;refine tk 8 ?_;refine tk 9 ?_;refine tk 10 ?_;refine tk 11 ?_;refine tk 12 ?_;refine tk 13 ?_;refine sk 14 ?_;refine sk 15 ?_;refine sk 16 ?_;refine sk 17 ?_;refine sk 18 ?_;refine sk 19 ?_;refine sk 20 ?_;refine sk 21 ?_;refine sk 22 ?_;refine sk 23 ?_;refine sk 24 ?_;refine sk 25 ?_;refine sk 26 ?_;refine sk 27 ?_;refine sk 28 ?_;refine sk 29 ?_;refine sk 30 ?_;refine tk 31 ?_;refine tk 32 ?_;refine dn ?_
    (try simp only[Exit.then])
    clear hs0;go_wp2_with fail
    go_ret
    refine⟨?_,HB1.o⟩;rw[HQ.o];unfold UP;dsimp only;rw[decide_eq_false (by omega:¬cl≤8)];simp
  ·have hs0:=And.intro K0 (And.intro K1 K7);clear K0 K1 K7;go_enter func33,ntmps33;go_upto_region 1 with fail
   rw[HW1.o,Hbd.o];refine wp_region_held_drew (S:=(fun W=>W.cell? ⟨bd,0,none⟩=some (.int .i64 1)∧W.cell? ⟨bd,1,none⟩=some (.int .i64 cl)∧W.cell? ⟨bd,7,none⟩=some (.int .i64 ee))) (by kernel_rfl) ?_ (fun hHeld=> ?_)
   ·exact hs0
   refine tk 0 ?_;refine tk 1 ?_;refine tk 2 ?_;refine tk 3 ?_;refine tk 4 ?_;refine tk 5 ?_;refine tk 6 ?_;refine tk 7 ?_;refine tk 8 ?_;refine sk 9 ?_;refine sk 10 ?_;refine sk 11 ?_;refine tk 12 ?_;refine tk 13 ?_;refine sk 14 ?_;refine sk 15 ?_;refine sk 16 ?_;refine sk 17 ?_;refine sk 18 ?_;refine sk 19 ?_;refine sk 20 ?_;refine sk 21 ?_;refine sk 22 ?_;refine sk 23 ?_;refine sk 24 ?_;refine sk 25 ?_;refine sk 26 ?_;refine sk 27 ?_;refine sk 28 ?_;refine sk 29 ?_;refine sk 30 ?_;refine tk 31 ?_;refine tk 32 ?_;refine dn ?_
   (try simp only[Exit.then])
   clear hs0;go_wp2_with fail
   go_ret
   refine⟨?_,HB1.o⟩;rw[HQ.o];unfold UP;dsimp only;rw[decide_eq_false (by omega:¬1≤cl)];simp
 ·have g0b:(kd==1)=false:=by simp[g0]
  have hs0:=And.intro K0 (And.intro K1 K7);clear K0 K1 K7;go_enter func33,ntmps33;go_upto_region 1 with fail
  rw[HW1.o,Hbd.o];refine wp_region_held_drew (S:=(fun W=>W.cell? ⟨bd,0,none⟩=some (.int .i64 kd)∧W.cell? ⟨bd,1,none⟩=some (.int .i64 cl)∧W.cell? ⟨bd,7,none⟩=some (.int .i64 ee))) (by kernel_rfl) ?_ (fun hHeld=> ?_)
  ·exact hs0
  refine tk 0 ?_;refine tk 1 ?_;refine tk 2 ?_;refine tk 3 ?_;refine sk 4 ?_;refine sk 5 ?_;refine sk 6 ?_;refine tk 7 ?_;refine tk 8 ?_;refine sk 9 ?_;refine sk 10 ?_;refine sk 11 ?_;refine tk 12 ?_;refine tk 13 ?_;refine sk 14 ?_;refine sk 15 ?_;refine sk 16 ?_;refine sk 17 ?_;refine sk 18 ?_;refine sk 19 ?_;refine sk 20 ?_;refine sk 21 ?_;refine sk 22 ?_;refine sk 23 ?_;refine sk 24 ?_;refine sk 25 ?_;refine sk 26 ?_;refine sk 27 ?_;refine sk 28 ?_;refine sk 29 ?_;refine sk 30 ?_;refine tk 31 ?_;refine tk 32 ?_;refine dn ?_
  (try simp only[Exit.then])
  clear hs0;go_wp2_with fail
  go_ret
  refine⟨?_,HB1.o⟩;rw[HQ.o];unfold UP;dsimp only;rw[decide_eq_false g0];simp
end
theorem UO{w:World}{B e s n:Nat}{u:Value}{xs:List Value}(h:w.ownsRow B e s u n xs)(hn:n=0):∃A c,u= .slice A 0 c:=by
 subst hn;rcases h.2 with⟨h,-⟩|⟨g,cap,cur,h,-⟩
 ·exact⟨_,_,h⟩
 ·exact⟨_,_,h⟩
namespace Gd
theorem Vl.recov_go{V:Vl}{k:Nat}(h:(V.recov k).2=true):V.recov (k+1)=((((V.recov k).1.take (k+1)).fence (k+1)),decide ((((V.recov k).1.take (k+1)).s (k+1)).e<1073741824)):=by
 cases hr:Vl.recov k V with
 |mk W b=>
  rw[hr]at h;have hb:b=true:=h;subst hb;show(match Vl.recov k V with|(V,false)=>(V,false)|(V,true)=>((V.take (k+1)).fence (k+1),decide (((V.take (k+1)).s (k+1)).e<1073741824)))=_
  rw[hr]
theorem Vl.fence_fs(V:Vl)(c:Nat):(V.fence c).fs=V.fs:=by
 unfold Vl.fence;split<;>rfl
theorem Vl.fence_lg(V:Vl)(c:Nat):(V.fence c).lg=V.lg:=by
 unfold Vl.fence;split<;>rfl
theorem Vl.fence_s(V:Vl){c k:Nat}(h:k≠c):(V.fence c).s k=V.s k:=by
 unfold Vl.fence;split
 ·show(if k=c then _ else V.s k)=_
  rw[if_neg h]
 ·rfl
theorem Vl.fence_e(V:Vl){c:Nat}(h:(V.s c).e<1073741824):((V.fence c).s c).e=(V.s c).e+1:=by
 unfold Vl.fence;rw[if_pos h];show(if c=c then overS (V.s c)else V.s c).e=_
 rw[if_pos rfl];rfl
theorem Vl.steps_fs(c:Nat):∀(l:List (Rec×Nat)) (A B:Vl),A.fs=B.fs→(A.steps c l).fs=(B.steps c l).fs
 |[],_,_,h=>h
 |p::l,A,B,h=>by
  show((A.step c p).steps c l).fs=((B.step c p).steps c l).fs
  refine Vl.steps_fs c l _ _ ?_;show(A.setf p.1).fs=(B.setf p.1).fs
  have hg:A.got p.1=B.got p.1:=by
   unfold Vl.got;rw[h]
  unfold Vl.setf;rw[hg];split
  ·show updF A.fs _ _=updF B.fs _ _
   rw[h]
  ·exact h
theorem Vl.take_fs{A B:Vl}{c:Nat}(h1:A.fs=B.fs)(h2:A.s c=B.s c)(h3:A.lg c=B.lg c):(A.take c).fs=(B.take c).fs:=by
 have hp:A.pend c=B.pend c:=by
  unfold Vl.pend;rw[h2,h3]
 unfold Vl.take;rw[hp];exact Vl.steps_fs c _ A B h1
theorem Vl.recov_sees{V:Vl}(h:∀c,1≤c→c≤8→(V.s c).e<1073741824):∀k,k≤8→(V.recov k).2=true∧(V.recov k).1.lg=V.lg∧(∀c,k<c→(V.recov k).1.s c=V.s c)∧(∀c,1≤c→c≤k→((V.recov k).1.s c).e=(V.s c).e+1)
 |0,_=>⟨rfl,rfl,fun _ _=>rfl,fun c h1 h2=>by omega⟩
 |k+1,hk=>by
  obtain⟨i1,i2,i3,i4⟩:=Vl.recov_sees h k (by omega);have hs:=Vl.recov_go i1;rw[hs];have he:(((V.recov k).1.take (k+1)).s (k+1)).e=(V.s (k+1)).e:=by
   have:=Vl.steps_e (k+1) (k+1) ((V.recov k).1.pend (k+1)) (V.recov k).1
   rw[i3 (k+1) (by omega)]at this;exact this
  have hlt:(((V.recov k).1.take (k+1)).s (k+1)).e<1073741824:=by rw[he];exact h (k+1) (by omega) hk
  refine⟨decide_eq_true hlt,?_,fun c hc=> ?_,fun c c1 c2=> ?_⟩
  ·show(((V.recov k).1.take (k+1)).fence (k+1)).lg=_
   rw[Vl.fence_lg];exact(Vl.steps_lg (k+1) _ _).trans i2
  ·show(((V.recov k).1.take (k+1)).fence (k+1)).s c=_
   rw[Vl.fence_s _ (by omega)];exact(Vl.steps_s (k+1) c (by omega) _ _).trans (i3 c (by omega))
  ·show((((V.recov k).1.take (k+1)).fence (k+1)).s c).e=_
   by_cases e:c=k+1
   ·rw[e,Vl.fence_e _ hlt,he]
   ·rw[Vl.fence_s _ e];have:((V.recov k).1.take (k+1)).s c=(V.recov k).1.s c:=Vl.steps_s (k+1) c e _ _
    rw[this];exact i4 c c1 (by omega)
theorem Vl.recov_twice{V:Vl}(hi:V.Inv)(he:∀c,1≤c→c≤8→(V.s c).e<536870912){k:Nat}(hk:k≤8):((V.recov k).1.recov 8).2=true∧(V.recov 8).2=true∧((V.recov k).1.recov 8).1.fs=(V.recov 8).1.fs∧∀c,1≤c→c≤8→((V.recov k).1.recov 8).1.pend c=[]:=by
 have hV:=Vl.recov_sees (V:=V) fun c c1 c2=>by have:=he c c1 c2;omega
 obtain⟨W,hWe⟩:=nm ((V.recov k).1);have hk0:=hV k hk;rw[←hWe]at hk0⊢;obtain⟨-,w2,w3,w4⟩:=hk0;have hWs:∀c,1≤c→c≤8→(W.s c).e<1073741824:=fun c c1 c2=>by
  have:=he c c1 c2
  by_cases e:c≤k
  ·rw[w4 c c1 e];omega
  ·rw[w3 c (by omega)];omega
 have hW:=Vl.recov_sees hWs;have key:∀j,j≤8→(W.recov j).1.fs=(V.recov (max j k)).1.fs:=by
  intro j;induction j with
  |zero=>
   intro _;rw[Nat.zero_max,←hWe];rfl
  |succ j ih=>
   intro hj;have ih:=ih (by omega);obtain⟨b1,b2,b3,b4⟩:=hW j (by omega);have e1:(W.recov (j+1)).1.fs=((W.recov j).1.take (j+1)).fs:=by
    rw[Vl.recov_go b1];exact Vl.fence_fs _ _
   by_cases hjk:j+1≤k
   ·have hp:(W.recov j).1.pend (j+1)=[]:=pend_late fun hg=>by
     rw[b2,w2]at hg⊢;rw[b3 (j+1) (by omega),w4 (j+1) (by omega) hjk];have:=hi (j+1) (by omega) (by omega) hg
     omega
    rw[e1,(Vl.take_same hp).1,ih,show max j k=k by omega,show max (j+1) k=k by omega]
   ·obtain⟨a1,a2,a3,a4⟩:=hV j (by omega);rw[show max j k=j by omega]at ih;rw[show max (j+1) k=j+1 by omega,e1,Vl.recov_go a1];show _=(((V.recov j).1.take (j+1)).fence (j+1)).fs
    rw[Vl.fence_fs];exact Vl.take_fs ih (by rw[b3 (j+1) (by omega),w3 (j+1) (by omega),a3 (j+1) (by omega)]) (by rw[b2,w2,a2])
 have h8:=hW 8 (by omega);refine⟨h8.1,(hV 8 (by omega)).1,?_,fun c c1 c2=>pend_late fun hg=> ?_⟩
 ·rw[key 8 (by omega),show max 8 k=8 by omega]
 ·rw[h8.2.1,w2]at hg⊢;rw[h8.2.2.2 c c1 c2];have:=hi c c1 c2 hg
  by_cases e:c≤k
  ·rw[w4 c c1 e];omega
  ·rw[w3 c (by omega)];omega
end Gd
end Go.Proofs.YtccpdkjonepoiaaGreatDoor
