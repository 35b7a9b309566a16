/- Walk: commonslaw17: does: deeds of kind 4. -/
import Derived.Test.YtccpdkjonepoiaaGreatDoorR35
set_option linter.unusedVariables false
set_option linter.unusedSimpArgs false
set_option linter.unusedSectionVars false
set_option maxHeartbeats 8000000
set_option maxRecDepth 100000
namespace Go.Proofs.YtccpdkjonepoiaaGreatDoor
open Go.RowKit
open Lib(hid)
open Go.Proofs.Tryz
section
open Go.Shelf
attribute [local go_sem] Oper.semAt_some
section
variable {o x t f K n p v r m:Nat} {R:RvB} {V U U2:Gd.Vl} {w a b:World} {Ls Lr:List (Nat×Obj)}
theorem Ug[zc](h:Bv o x t f R V V K w a [(p,zo o R.r)])(hok:V.Ok)(d:Dd)(hkd:d.kd=4)(hpc:d.pn≤d.pc)(hpl:d.pc≤9223372036854775807)(hdl:d.r.d.length≤9223372036854775807)(hk:jb w d.pA (min d.pn 300))(hK:K<90000000000)(hn:V.n≤100000):
 Calls prog 20 #[.pointer (some ⟨p,0,none⟩),.agg (ddC d)] a fun e b=>e= .returned (.bool true)∧∃o2 x2 t2 f2:Nat,Bv o2 x2 t2 f2 R (doD V d) (doD V d) (K+2000000000) w b [(p,zo o2 R.r)]:=by
 obtain⟨w1,hw1⟩:=nm (a.alloc (.cells (ddC d) 60));obtain⟨bd,hbd⟩:=nm a.heap.size;have hb1:Below a.heap.size a w1:=by rw[hw1];exact(Below.refl _ _).alloc (Nat.le_refl _) _
 have hg1:w1.heap[bd]? =some (.cells (ddC d) 60 (0,0)):=by rw[hw1,hbd];exact heap_alloc_new _ _
 have HCu:=hid (qk d w1 hpc hpl hdl);have HB:=hid h;have HOk:=hid hok;have HKd:=hid (And.intro hkd (And.intro hK (And.intro hn hk)));have HW1:=hid hw1.symm;have Hbd:=hid hbd.symm;have HB1:=hid hb1;have HG1:=hid hg1;have hrow:=jF hg1;obtain⟨VD,hVD⟩:=nm (doD V d);rw[←hVD];have HVD:=hid hVD;unfold ddC at HW1;clear h hok hkd hpc hpl hdl hk hK hn hw1 hbd hb1 hg1 hVD;go_enter func20,ntmps20;unfold ddC;go_upto_region 1 with fail
 rw[HW1.o,Hbd.o];go_wp2_with(refine wpList_load_mid rfl 60 _ rfl bd 0 rfl (ddC d).toList _ hrow underlying60 rfl sizeDd ?_)
 refine HCu.o.mono ?_;rintro e w2 ⟨rfl,hb2⟩;have HG2:=hid ((hb2.block bd (za HG1.o)).trans HG1.o);have HB2:=HB1.t hb2;clear hrow hb2 HCu;go_upto_region 2 with(refine wpList_store_mid rfl 60 _ _ rfl bd 0 (ddC d.cut) rfl rfl (zf HG2.o rfl) sizeDd (qs _) ?_;obtain⟨hbw,hbg⟩:=zh HG2.o (vs:=(ddC d.cut).toList) (B:=a.heap.size) rfl (by have:=Hbd.o;omega);generalize (World.setCells _ _ _ _)=w3 at hbw hbg⊢)
 have HB3:=hid (HB2.o.trans hbw);obtain⟨kd,cl,r,ee,hh,rp,ke,ki,wr,pA,pn0,pc⟩:=d;obtain⟨rc,ri,rt,ro,dd⟩:=r;unfold Dd.cut ddC at hbg;dsimp only at hbg HKd HVD;obtain⟨s8,hs8⟩:∃s:ByteArray,s=⟨(dd.take 80).toArray⟩:=⟨_,rfl⟩;obtain⟨pn,hpn⟩:=nm (min pn0 300);have hbg':w3.heap[bd]? =some (.cells #[.int .i64 kd,.int .i64 cl,.int .i64 rc,.int .i64 ri,.bool rt,.int .i64 ro,.string s8,.int .i64 ee,.int .i64 hh,.int .i64 rp,.int .i64 ke,.int .i64 ki,.int .i64 wr,.slice pA pn pc] 60 (0,0)):=by rw[hs8,hpn];exact hbg
 have HV3:Hid (Bv o x t f R V V K w w3 [(bd,.cells #[.int .i64 kd,.int .i64 cl,.int .i64 rc,.int .i64 ri,.bool rt,.int .i64 ro,.string s8,.int .i64 ee,.int .i64 hh,.int .i64 rp,.int .i64 ke,.int .i64 ki,.int .i64 wr,.slice pA pn pc] 60 (0,0)),(p,zo o R.r)]):=hid (HB.o.news (Lu:=[(bd,.cells #[.int .i64 kd,.int .i64 cl,.int .i64 rc,.int .i64 ri,.bool rt,.int .i64 ro,.string s8,.int .i64 ee,.int .i64 hh,.int .i64 rp,.int .i64 ke,.int .i64 ki,.int .i64 wr,.slice pA pn pc] 60 (0,0))]) HB3.o fun q hq=>by
  rw[List.mem_singleton.1 hq];exact⟨by show a.heap.size≤bd;have:=Hbd.o;omega,hbg'⟩)
 have HNo:Hid (∀q∈([(bd,.cells #[.int .i64 kd,.int .i64 cl,.int .i64 rc,.int .i64 ri,.bool rt,.int .i64 ro,.string s8,.int .i64 ee,.int .i64 hh,.int .i64 rp,.int .i64 ke,.int .i64 ki,.int .i64 wr,.slice pA pn pc] 60 (0,0)),(p,zo o R.r)]:List (Nat×Obj)),¬R.has q.1):=hid fun q hq hR=>by
  have hl:=HB.o.ref.lt hR;have hbe:=Hbd.o;rcases List.mem_cons.1 hq with rfl|hq
  ·dsimp only at hl;omega
  ·rw[List.mem_singleton.1 hq]at hR;exact HB.o.apart (List.mem_singleton.2 rfl) hR
 have HS8:=hid (And.intro hs8 hpn)
 have HCl:Hid (∀W:World,W.heap[p]? =some (zo o R.r)→W.heap[bd]? =some (.cells #[.int .i64 kd,.int .i64 cl,.int .i64 rc,.int .i64 ri,.bool rt,.int .i64 ro,.string s8,.int .i64 ee,.int .i64 hh,.int .i64 rp,.int .i64 ke,.int .i64 ki,.int .i64 wr,.slice pA pn pc] 60 (0,0))→W.cell? ⟨p,1,none⟩=some (.pointer (some ⟨o,0,none⟩))∧W.cell? ⟨p,2,none⟩=some (.pointer (some ⟨R.r,0,none⟩))∧W.cell? ⟨bd,1,none⟩=some (.int .i64 cl)∧(W.cell? ⟨bd,7,none⟩=some (.int .i64 ee)∧W.cell? ⟨bd,8,none⟩=some (.int .i64 hh)∧W.cell? ⟨bd,9,none⟩=some (.int .i64 rp)∧W.cell? ⟨bd,10,none⟩=some (.int .i64 ke)∧W.cell? ⟨bd,11,none⟩=some (.int .i64 ki)∧W.cell? ⟨bd,12,none⟩=some (.int .i64 wr))):=hid fun W q1 q2=>⟨(zl q1).2.1,(zl q1).2.2,cell_of_row W bd 1 _ _ _ q2,cell_of_row W bd 7 _ _ _ q2,cell_of_row W bd 8 _ _ _ q2,cell_of_row W bd 9 _ _ _ q2,cell_of_row W bd 10 _ _ _ q2,cell_of_row W bd 11 _ _ _ q2,cell_of_row W bd 12 _ _ _ q2⟩
 have HGp:Hid (w3.heap[p]? =some (zo o R.r)):=hid (HV3.o.get (List.mem_cons_of_mem _ (List.mem_singleton.2 rfl)));have HGb:=hid hbg';have kd0:=cell_of_row w3 bd 0 _ _ _ hbg';clear hbw hbg hbg' hs8 hpn HG1 HG2 HB1 HB2 HW1;obtain rfl:kd=4:=HKd.o.1
 have HVe:Hid (VD=(V.recov 8).1):=hid HVD.o;have hs0:=HCl.o w3.drew HGp.o HGb.o;have h1:=(HV3.o.below (Below.refl _ _).drew).recoverV HOk.o (by have:=HKd.o.2.1;omega) (by have:=HKd.o.2.2.1;omega);have h2:=fun W (hW:RvC R V W)=>Zl hW HOk.o (by have:=HKd.o.2.2.1;omega);obtain⟨E,hE⟩:∃E:Int,E=(if(V.recov 8).2 then 0 else 1):=⟨_,rfl⟩;rw[←hE]at h1 h2;have HS1:=hid h1;have HS2:=hid h2;clear h1 h2 hE;go_upto_region 17 with fail
 refine wp_region_held_drew (S:=(fun W=>W.cell? ⟨p,1,none⟩=some (.pointer (some ⟨o,0,none⟩))∧W.cell? ⟨p,2,none⟩=some (.pointer (some ⟨R.r,0,none⟩))∧W.cell? ⟨bd,1,none⟩=some (.int .i64 cl)∧(W.cell? ⟨bd,7,none⟩=some (.int .i64 ee)∧W.cell? ⟨bd,8,none⟩=some (.int .i64 hh)∧W.cell? ⟨bd,9,none⟩=some (.int .i64 rp)∧W.cell? ⟨bd,10,none⟩=some (.int .i64 ke)∧W.cell? ⟨bd,11,none⟩=some (.int .i64 ki)∧W.cell? ⟨bd,12,none⟩=some (.int .i64 wr)))) (by kernel_rfl) ?_ (fun hHeld=> ?_)
 ·exact hs0
 refine tk 0 ?_;refine tk 1 ?_;refine tk 2 ?_;refine tk 3 ?_;refine tk 5 ?_;refine tk 6 ?_;refine tk 7 ?_;refine tk 8 ?_;refine rd 4 (fun K hK=> ?_);go_simp
 refine HS1.o.mono ?_;rintro e w4 ⟨rfl,h4⟩;have H4:=hid h4;have hs1:=HCl.o w4 (h4.get (List.mem_cons_of_mem _ (List.mem_singleton.2 rfl))) (h4.get (List.mem_cons_self ..));clear h4;try dsimp only
 refine hK.o _ _ hs1 (fun hHeld=> ?_);clear hK K;try simp only[put]
 refine rd 9 (fun K hK=> ?_);go_simp
 refine(HS2.o _ H4.o.ref).mono ?_
 rintro e w5 ⟨rfl,hC5,hO5⟩;have H5:=hid (H4.o.turn hO5 hC5 HNo.o);have hs3:=HCl.o w5 (H5.o.get (List.mem_cons_of_mem _ (List.mem_singleton.2 rfl))) (H5.o.get (List.mem_cons_self ..));clear hC5 hO5;try dsimp only
 refine hK.o _ _ hs3 (fun hHeld=> ?_);clear hK K;try simp only[put]
 refine tk 10 ?_;refine tk 11 ?_;refine dn ?_
 (try simp only[Exit.then])
 clear hs0 hs1 hs3 HS1 HS2 kd0;go_wp2_with fail
 go_ret
 rw[HVe.o];exact⟨rfl,o,x,t,f,(H5.o.less fun q hq=>List.mem_cons_of_mem _ hq).more (by omega)⟩
end
end
section
open Go.Shelf
attribute [local go_sem] Oper.semAt_some
section
variable {o x t f K n p v r m:Nat} {R:RvB} {V U U2:Gd.Vl} {w a b:World} {Ls Lr:List (Nat×Obj)}
theorem Uf[zc](h:Bv o x t f R V V K w a [(p,zo o R.r)])(hok:V.Ok)(d:Dd)(hkd:d.kd=5)(hpc:d.pn≤d.pc)(hpl:d.pc≤9223372036854775807)(hdl:d.r.d.length≤9223372036854775807)(hk:jb w d.pA (min d.pn 300))(hK:K<90000000000)(hn:V.n≤100000):
 Calls prog 20 #[.pointer (some ⟨p,0,none⟩),.agg (ddC d)] a fun e b=>e= .returned (.bool true)∧∃o2 x2 t2 f2:Nat,Bv o2 x2 t2 f2 R (doD V d) (doD V d) (K+2000000000) w b [(p,zo o2 R.r)]:=by
 obtain⟨w1,hw1⟩:=nm (a.alloc (.cells (ddC d) 60));obtain⟨bd,hbd⟩:=nm a.heap.size;have hb1:Below a.heap.size a w1:=by rw[hw1];exact(Below.refl _ _).alloc (Nat.le_refl _) _
 have hg1:w1.heap[bd]? =some (.cells (ddC d) 60 (0,0)):=by rw[hw1,hbd];exact heap_alloc_new _ _
 have HCu:=hid (qk d w1 hpc hpl hdl);have HB:=hid h;have HOk:=hid hok;have HKd:=hid (And.intro hkd (And.intro hK (And.intro hn hk)));have HW1:=hid hw1.symm;have Hbd:=hid hbd.symm;have HB1:=hid hb1;have HG1:=hid hg1;have hrow:=jF hg1;obtain⟨VD,hVD⟩:=nm (doD V d);rw[←hVD];have HVD:=hid hVD;unfold ddC at HW1;clear h hok hkd hpc hpl hdl hk hK hn hw1 hbd hb1 hg1 hVD;go_enter func20,ntmps20;unfold ddC;go_upto_region 1 with fail
 rw[HW1.o,Hbd.o];go_wp2_with(refine wpList_load_mid rfl 60 _ rfl bd 0 rfl (ddC d).toList _ hrow underlying60 rfl sizeDd ?_)
 refine HCu.o.mono ?_;rintro e w2 ⟨rfl,hb2⟩;have HG2:=hid ((hb2.block bd (za HG1.o)).trans HG1.o);have HB2:=HB1.t hb2;clear hrow hb2 HCu;go_upto_region 2 with(refine wpList_store_mid rfl 60 _ _ rfl bd 0 (ddC d.cut) rfl rfl (zf HG2.o rfl) sizeDd (qs _) ?_;obtain⟨hbw,hbg⟩:=zh HG2.o (vs:=(ddC d.cut).toList) (B:=a.heap.size) rfl (by have:=Hbd.o;omega);generalize (World.setCells _ _ _ _)=w3 at hbw hbg⊢)
 have HB3:=hid (HB2.o.trans hbw);obtain⟨kd,cl,r,ee,hh,rp,ke,ki,wr,pA,pn0,pc⟩:=d;obtain⟨rc,ri,rt,ro,dd⟩:=r;unfold Dd.cut ddC at hbg;dsimp only at hbg HKd HVD;obtain⟨s8,hs8⟩:∃s:ByteArray,s=⟨(dd.take 80).toArray⟩:=⟨_,rfl⟩;obtain⟨pn,hpn⟩:=nm (min pn0 300);have hbg':w3.heap[bd]? =some (.cells #[.int .i64 kd,.int .i64 cl,.int .i64 rc,.int .i64 ri,.bool rt,.int .i64 ro,.string s8,.int .i64 ee,.int .i64 hh,.int .i64 rp,.int .i64 ke,.int .i64 ki,.int .i64 wr,.slice pA pn pc] 60 (0,0)):=by rw[hs8,hpn];exact hbg
 have HV3:Hid (Bv o x t f R V V K w w3 [(bd,.cells #[.int .i64 kd,.int .i64 cl,.int .i64 rc,.int .i64 ri,.bool rt,.int .i64 ro,.string s8,.int .i64 ee,.int .i64 hh,.int .i64 rp,.int .i64 ke,.int .i64 ki,.int .i64 wr,.slice pA pn pc] 60 (0,0)),(p,zo o R.r)]):=hid (HB.o.news (Lu:=[(bd,.cells #[.int .i64 kd,.int .i64 cl,.int .i64 rc,.int .i64 ri,.bool rt,.int .i64 ro,.string s8,.int .i64 ee,.int .i64 hh,.int .i64 rp,.int .i64 ke,.int .i64 ki,.int .i64 wr,.slice pA pn pc] 60 (0,0))]) HB3.o fun q hq=>by
  rw[List.mem_singleton.1 hq];exact⟨by show a.heap.size≤bd;have:=Hbd.o;omega,hbg'⟩)
 have HNo:Hid (∀q∈([(bd,.cells #[.int .i64 kd,.int .i64 cl,.int .i64 rc,.int .i64 ri,.bool rt,.int .i64 ro,.string s8,.int .i64 ee,.int .i64 hh,.int .i64 rp,.int .i64 ke,.int .i64 ki,.int .i64 wr,.slice pA pn pc] 60 (0,0)),(p,zo o R.r)]:List (Nat×Obj)),¬R.has q.1):=hid fun q hq hR=>by
  have hl:=HB.o.ref.lt hR;have hbe:=Hbd.o;rcases List.mem_cons.1 hq with rfl|hq
  ·dsimp only at hl;omega
  ·rw[List.mem_singleton.1 hq]at hR;exact HB.o.apart (List.mem_singleton.2 rfl) hR
 have HS8:=hid (And.intro hs8 hpn)
 have HCl:Hid (∀W:World,W.heap[p]? =some (zo o R.r)→W.heap[bd]? =some (.cells #[.int .i64 kd,.int .i64 cl,.int .i64 rc,.int .i64 ri,.bool rt,.int .i64 ro,.string s8,.int .i64 ee,.int .i64 hh,.int .i64 rp,.int .i64 ke,.int .i64 ki,.int .i64 wr,.slice pA pn pc] 60 (0,0))→W.cell? ⟨p,1,none⟩=some (.pointer (some ⟨o,0,none⟩))∧W.cell? ⟨p,2,none⟩=some (.pointer (some ⟨R.r,0,none⟩))∧W.cell? ⟨bd,1,none⟩=some (.int .i64 cl)∧(W.cell? ⟨bd,7,none⟩=some (.int .i64 ee)∧W.cell? ⟨bd,8,none⟩=some (.int .i64 hh)∧W.cell? ⟨bd,9,none⟩=some (.int .i64 rp)∧W.cell? ⟨bd,10,none⟩=some (.int .i64 ke)∧W.cell? ⟨bd,11,none⟩=some (.int .i64 ki)∧W.cell? ⟨bd,12,none⟩=some (.int .i64 wr))):=hid fun W q1 q2=>⟨(zl q1).2.1,(zl q1).2.2,cell_of_row W bd 1 _ _ _ q2,cell_of_row W bd 7 _ _ _ q2,cell_of_row W bd 8 _ _ _ q2,cell_of_row W bd 9 _ _ _ q2,cell_of_row W bd 10 _ _ _ q2,cell_of_row W bd 11 _ _ _ q2,cell_of_row W bd 12 _ _ _ q2⟩
 have HGp:Hid (w3.heap[p]? =some (zo o R.r)):=hid (HV3.o.get (List.mem_cons_of_mem _ (List.mem_singleton.2 rfl)));have HGb:=hid hbg';have kd0:=cell_of_row w3 bd 0 _ _ _ hbg';clear hbw hbg hbg' hs8 hpn HG1 HG2 HB1 HB2 HW1;obtain rfl:kd=5:=HKd.o.1
 have HVe:Hid (VD=V):=hid HVD.o;have HA:=hid ((HV3.o.less (Ls':=[(p,zo o R.r)]) fun q hq=>List.mem_cons_of_mem _ hq).again (pn:=pn) (pc:=pc) (pA:=pA) (fun q hq=>by cases hq) (by
  have h:=HKd.o.2.2.2;rw[←HS8.o.2]at h;refine h.imp id fun⟨b,q,h1,h2,h3⟩=>⟨b,q,h1,Nat.lt_of_lt_of_le h2 HV3.o.belowW.size,fun j hj=> ?_⟩;obtain⟨y,hy⟩:=h3 j hj;exact⟨y,(HV3.o.belowW.cell (p:=⟨b,q+j,none⟩) h2).trans hy⟩) (by
  intro h0 b q e;have h:=HKd.o.2.2.2;rw[←HS8.o.2]at h;rcases h with h|⟨b',q',h1,h2,-⟩
  ·exact absurd h h0
  ·rw[e]at h1;have e2:b=b':=by injection h1 with h1;injection h1
   omega) (by have:=HS8.o.2;omega) (by have:=HKd.o.2.1;omega))
 have k13:=cell_of_row w3 bd 13 _ _ _ HGb.o;go_wp2_with fail
 refine HA.o.mono ?_;rintro e w4 ⟨rfl,o2,x2,t2,f2,h4⟩;have H4:=hid h4;clear h4 k13 HA;go_wp2_with fail
 go_ret
 rw[HVe.o];exact⟨rfl,o2,x2,t2,f2,H4.o.more (by omega)⟩
end
end
section
open Go.Shelf
attribute [local go_sem] Oper.semAt_some
section
variable {o x t f K n p v r m:Nat} {R:RvB} {V U U2:Gd.Vl} {w a b:World} {Ls Lr:List (Nat×Obj)}
theorem Ue[zc](h:Bv o x t f R V V K w a [(p,zo o R.r)])(hok:V.Ok)(d:Dd)(hkd:d.kd=6)(hpc:d.pn≤d.pc)(hpl:d.pc≤9223372036854775807)(hdl:d.r.d.length≤9223372036854775807)(hk:jb w d.pA (min d.pn 300))(hK:K<90000000000)(hn:V.n≤100000):
 Calls prog 20 #[.pointer (some ⟨p,0,none⟩),.agg (ddC d)] a fun e b=>e= .returned (.bool true)∧∃o2 x2 t2 f2:Nat,Bv o2 x2 t2 f2 R (doD V d) (doD V d) (K+2000000000) w b [(p,zo o2 R.r)]:=by
 obtain⟨w1,hw1⟩:=nm (a.alloc (.cells (ddC d) 60));obtain⟨bd,hbd⟩:=nm a.heap.size;have hb1:Below a.heap.size a w1:=by rw[hw1];exact(Below.refl _ _).alloc (Nat.le_refl _) _
 have hg1:w1.heap[bd]? =some (.cells (ddC d) 60 (0,0)):=by rw[hw1,hbd];exact heap_alloc_new _ _
 have HCu:=hid (qk d w1 hpc hpl hdl);have HB:=hid h;have HOk:=hid hok;have HKd:=hid (And.intro hkd (And.intro hK (And.intro hn hk)));have HW1:=hid hw1.symm;have Hbd:=hid hbd.symm;have HB1:=hid hb1;have HG1:=hid hg1;have hrow:=jF hg1;obtain⟨VD,hVD⟩:=nm (doD V d);rw[←hVD];have HVD:=hid hVD;unfold ddC at HW1;clear h hok hkd hpc hpl hdl hk hK hn hw1 hbd hb1 hg1 hVD;go_enter func20,ntmps20;unfold ddC;go_upto_region 1 with fail
 rw[HW1.o,Hbd.o];go_wp2_with(refine wpList_load_mid rfl 60 _ rfl bd 0 rfl (ddC d).toList _ hrow underlying60 rfl sizeDd ?_)
 refine HCu.o.mono ?_;rintro e w2 ⟨rfl,hb2⟩;have HG2:=hid ((hb2.block bd (za HG1.o)).trans HG1.o);have HB2:=HB1.t hb2;clear hrow hb2 HCu;go_upto_region 2 with(refine wpList_store_mid rfl 60 _ _ rfl bd 0 (ddC d.cut) rfl rfl (zf HG2.o rfl) sizeDd (qs _) ?_;obtain⟨hbw,hbg⟩:=zh HG2.o (vs:=(ddC d.cut).toList) (B:=a.heap.size) rfl (by have:=Hbd.o;omega);generalize (World.setCells _ _ _ _)=w3 at hbw hbg⊢)
 have HB3:=hid (HB2.o.trans hbw);obtain⟨kd,cl,r,ee,hh,rp,ke,ki,wr,pA,pn0,pc⟩:=d;obtain⟨rc,ri,rt,ro,dd⟩:=r;unfold Dd.cut ddC at hbg;dsimp only at hbg HKd HVD;obtain⟨s8,hs8⟩:∃s:ByteArray,s=⟨(dd.take 80).toArray⟩:=⟨_,rfl⟩;obtain⟨pn,hpn⟩:=nm (min pn0 300);have hbg':w3.heap[bd]? =some (.cells #[.int .i64 kd,.int .i64 cl,.int .i64 rc,.int .i64 ri,.bool rt,.int .i64 ro,.string s8,.int .i64 ee,.int .i64 hh,.int .i64 rp,.int .i64 ke,.int .i64 ki,.int .i64 wr,.slice pA pn pc] 60 (0,0)):=by rw[hs8,hpn];exact hbg
 have HV3:Hid (Bv o x t f R V V K w w3 [(bd,.cells #[.int .i64 kd,.int .i64 cl,.int .i64 rc,.int .i64 ri,.bool rt,.int .i64 ro,.string s8,.int .i64 ee,.int .i64 hh,.int .i64 rp,.int .i64 ke,.int .i64 ki,.int .i64 wr,.slice pA pn pc] 60 (0,0)),(p,zo o R.r)]):=hid (HB.o.news (Lu:=[(bd,.cells #[.int .i64 kd,.int .i64 cl,.int .i64 rc,.int .i64 ri,.bool rt,.int .i64 ro,.string s8,.int .i64 ee,.int .i64 hh,.int .i64 rp,.int .i64 ke,.int .i64 ki,.int .i64 wr,.slice pA pn pc] 60 (0,0))]) HB3.o fun q hq=>by
  rw[List.mem_singleton.1 hq];exact⟨by show a.heap.size≤bd;have:=Hbd.o;omega,hbg'⟩)
 have HNo:Hid (∀q∈([(bd,.cells #[.int .i64 kd,.int .i64 cl,.int .i64 rc,.int .i64 ri,.bool rt,.int .i64 ro,.string s8,.int .i64 ee,.int .i64 hh,.int .i64 rp,.int .i64 ke,.int .i64 ki,.int .i64 wr,.slice pA pn pc] 60 (0,0)),(p,zo o R.r)]:List (Nat×Obj)),¬R.has q.1):=hid fun q hq hR=>by
  have hl:=HB.o.ref.lt hR;have hbe:=Hbd.o;rcases List.mem_cons.1 hq with rfl|hq
  ·dsimp only at hl;omega
  ·rw[List.mem_singleton.1 hq]at hR;exact HB.o.apart (List.mem_singleton.2 rfl) hR
 have HS8:=hid (And.intro hs8 hpn)
 have HCl:Hid (∀W:World,W.heap[p]? =some (zo o R.r)→W.heap[bd]? =some (.cells #[.int .i64 kd,.int .i64 cl,.int .i64 rc,.int .i64 ri,.bool rt,.int .i64 ro,.string s8,.int .i64 ee,.int .i64 hh,.int .i64 rp,.int .i64 ke,.int .i64 ki,.int .i64 wr,.slice pA pn pc] 60 (0,0))→W.cell? ⟨p,1,none⟩=some (.pointer (some ⟨o,0,none⟩))∧W.cell? ⟨p,2,none⟩=some (.pointer (some ⟨R.r,0,none⟩))∧W.cell? ⟨bd,1,none⟩=some (.int .i64 cl)∧(W.cell? ⟨bd,7,none⟩=some (.int .i64 ee)∧W.cell? ⟨bd,8,none⟩=some (.int .i64 hh)∧W.cell? ⟨bd,9,none⟩=some (.int .i64 rp)∧W.cell? ⟨bd,10,none⟩=some (.int .i64 ke)∧W.cell? ⟨bd,11,none⟩=some (.int .i64 ki)∧W.cell? ⟨bd,12,none⟩=some (.int .i64 wr))):=hid fun W q1 q2=>⟨(zl q1).2.1,(zl q1).2.2,cell_of_row W bd 1 _ _ _ q2,cell_of_row W bd 7 _ _ _ q2,cell_of_row W bd 8 _ _ _ q2,cell_of_row W bd 9 _ _ _ q2,cell_of_row W bd 10 _ _ _ q2,cell_of_row W bd 11 _ _ _ q2,cell_of_row W bd 12 _ _ _ q2⟩
 have HGp:Hid (w3.heap[p]? =some (zo o R.r)):=hid (HV3.o.get (List.mem_cons_of_mem _ (List.mem_singleton.2 rfl)));have HGb:=hid hbg';have kd0:=cell_of_row w3 bd 0 _ _ _ hbg';clear hbw hbg hbg' hs8 hpn HG1 HG2 HB1 HB2 HW1;obtain rfl:kd=6:=HKd.o.1
 have HVe:Hid (VD=V):=hid HVD.o;have hs0:=HCl.o w3.drew HGp.o HGb.o;have h1:=(HV3.o.below (Below.refl _ _).drew).setany (⟨6,cl,⟨rc,ri,rt,ro,dd⟩,ee,hh,rp,ke,ki,wr,pA,pn0,pc⟩:Dd);unfold jr at h1;dsimp only at h1;have HS1:=hid h1;clear h1;go_upto_region 21 with fail
 refine wp_region_held_drew (S:=(fun W=>W.cell? ⟨p,1,none⟩=some (.pointer (some ⟨o,0,none⟩))∧W.cell? ⟨p,2,none⟩=some (.pointer (some ⟨R.r,0,none⟩))∧W.cell? ⟨bd,1,none⟩=some (.int .i64 cl)∧(W.cell? ⟨bd,7,none⟩=some (.int .i64 ee)∧W.cell? ⟨bd,8,none⟩=some (.int .i64 hh)∧W.cell? ⟨bd,9,none⟩=some (.int .i64 rp)∧W.cell? ⟨bd,10,none⟩=some (.int .i64 ke)∧W.cell? ⟨bd,11,none⟩=some (.int .i64 ki)∧W.cell? ⟨bd,12,none⟩=some (.int .i64 wr)))) (by kernel_rfl) ?_ (fun hHeld=> ?_)
 ·exact hs0
 refine tk 0 ?_;refine tk 1 ?_;refine tk 2 ?_;refine tk 3 ?_;refine tk 4 ?_;refine tk 5 ?_;refine tk 6 ?_;refine tk 7 ?_;refine rd 8 (fun K hK=> ?_);go_simp
 refine HS1.o.mono ?_;rintro e w4 ⟨⟨E,rfl⟩,h4⟩;have H4:=hid h4;have hs1:=HCl.o w4 (h4.get (List.mem_cons_of_mem _ (List.mem_singleton.2 rfl))) (h4.get (List.mem_cons_self ..));clear h4;try dsimp only
 refine hK.o _ _ hs1 (fun hHeld=> ?_);clear hK K;try simp only[put]
 refine dn ?_
 (try simp only[Exit.then])
 obtain⟨q1,-,-,-⟩:=hs1;obtain⟨v0,-,-⟩:=zl H4.o.vol;have HDr:=hid H4.o.drop;clear hs0 HS1 kd0;go_wp2_with fail
 refine HDr.o.mono ?_;rintro e w5 ⟨rfl,h5⟩;have H5:=hid h5;clear h5 HDr q1 v0;go_wp2_with fail
 go_ret
 rw[HVe.o];exact⟨rfl,o,x,t,f,(H5.o.less fun q hq=>List.mem_cons_of_mem _ hq).more (by omega)⟩
end
end
section
open Go.Shelf
attribute [local go_sem] Oper.semAt_some
section
variable {o x t f K n p v r m:Nat} {R:RvB} {V U U2:Gd.Vl} {w a b:World} {Ls Lr:List (Nat×Obj)}
theorem Ud[zc](h:Bv o x t f R V V K w a [(p,zo o R.r)])(hok:V.Ok)(d:Dd)(hkd:¬(0≤d.kd∧d.kd≤6))(hpc:d.pn≤d.pc)(hpl:d.pc≤9223372036854775807)(hdl:d.r.d.length≤9223372036854775807)(hk:jb w d.pA (min d.pn 300))(hK:K<90000000000)(hn:V.n≤100000):
 Calls prog 20 #[.pointer (some ⟨p,0,none⟩),.agg (ddC d)] a fun e b=>e= .returned (.bool true)∧∃o2 x2 t2 f2:Nat,Bv o2 x2 t2 f2 R (doD V d) (doD V d) (K+2000000000) w b [(p,zo o2 R.r)]:=by
 obtain⟨w1,hw1⟩:=nm (a.alloc (.cells (ddC d) 60));obtain⟨bd,hbd⟩:=nm a.heap.size;have hb1:Below a.heap.size a w1:=by rw[hw1];exact(Below.refl _ _).alloc (Nat.le_refl _) _
 have hg1:w1.heap[bd]? =some (.cells (ddC d) 60 (0,0)):=by rw[hw1,hbd];exact heap_alloc_new _ _
 have HCu:=hid (qk d w1 hpc hpl hdl);have HB:=hid h;have HOk:=hid hok;have HKd:=hid (And.intro hkd (And.intro hK (And.intro hn hk)));have HW1:=hid hw1.symm;have Hbd:=hid hbd.symm;have HB1:=hid hb1;have HG1:=hid hg1;have hrow:=jF hg1;obtain⟨VD,hVD⟩:=nm (doD V d);rw[←hVD];have HVD:=hid hVD;unfold ddC at HW1;clear h hok hkd hpc hpl hdl hk hK hn hw1 hbd hb1 hg1 hVD;go_enter func20,ntmps20;unfold ddC;go_upto_region 1 with fail
 rw[HW1.o,Hbd.o];go_wp2_with(refine wpList_load_mid rfl 60 _ rfl bd 0 rfl (ddC d).toList _ hrow underlying60 rfl sizeDd ?_)
 refine HCu.o.mono ?_;rintro e w2 ⟨rfl,hb2⟩;have HG2:=hid ((hb2.block bd (za HG1.o)).trans HG1.o);have HB2:=HB1.t hb2;clear hrow hb2 HCu;go_upto_region 2 with(refine wpList_store_mid rfl 60 _ _ rfl bd 0 (ddC d.cut) rfl rfl (zf HG2.o rfl) sizeDd (qs _) ?_;obtain⟨hbw,hbg⟩:=zh HG2.o (vs:=(ddC d.cut).toList) (B:=a.heap.size) rfl (by have:=Hbd.o;omega);generalize (World.setCells _ _ _ _)=w3 at hbw hbg⊢)
 have HB3:=hid (HB2.o.trans hbw);obtain⟨kd,cl,r,ee,hh,rp,ke,ki,wr,pA,pn0,pc⟩:=d;obtain⟨rc,ri,rt,ro,dd⟩:=r;unfold Dd.cut ddC at hbg;dsimp only at hbg HKd HVD;obtain⟨s8,hs8⟩:∃s:ByteArray,s=⟨(dd.take 80).toArray⟩:=⟨_,rfl⟩;obtain⟨pn,hpn⟩:=nm (min pn0 300);have hbg':w3.heap[bd]? =some (.cells #[.int .i64 kd,.int .i64 cl,.int .i64 rc,.int .i64 ri,.bool rt,.int .i64 ro,.string s8,.int .i64 ee,.int .i64 hh,.int .i64 rp,.int .i64 ke,.int .i64 ki,.int .i64 wr,.slice pA pn pc] 60 (0,0)):=by rw[hs8,hpn];exact hbg
 have HV3:Hid (Bv o x t f R V V K w w3 [(bd,.cells #[.int .i64 kd,.int .i64 cl,.int .i64 rc,.int .i64 ri,.bool rt,.int .i64 ro,.string s8,.int .i64 ee,.int .i64 hh,.int .i64 rp,.int .i64 ke,.int .i64 ki,.int .i64 wr,.slice pA pn pc] 60 (0,0)),(p,zo o R.r)]):=hid (HB.o.news (Lu:=[(bd,.cells #[.int .i64 kd,.int .i64 cl,.int .i64 rc,.int .i64 ri,.bool rt,.int .i64 ro,.string s8,.int .i64 ee,.int .i64 hh,.int .i64 rp,.int .i64 ke,.int .i64 ki,.int .i64 wr,.slice pA pn pc] 60 (0,0))]) HB3.o fun q hq=>by
  rw[List.mem_singleton.1 hq];exact⟨by show a.heap.size≤bd;have:=Hbd.o;omega,hbg'⟩)
 have HNo:Hid (∀q∈([(bd,.cells #[.int .i64 kd,.int .i64 cl,.int .i64 rc,.int .i64 ri,.bool rt,.int .i64 ro,.string s8,.int .i64 ee,.int .i64 hh,.int .i64 rp,.int .i64 ke,.int .i64 ki,.int .i64 wr,.slice pA pn pc] 60 (0,0)),(p,zo o R.r)]:List (Nat×Obj)),¬R.has q.1):=hid fun q hq hR=>by
  have hl:=HB.o.ref.lt hR;have hbe:=Hbd.o;rcases List.mem_cons.1 hq with rfl|hq
  ·dsimp only at hl;omega
  ·rw[List.mem_singleton.1 hq]at hR;exact HB.o.apart (List.mem_singleton.2 rfl) hR
 have HS8:=hid (And.intro hs8 hpn)
 have HCl:Hid (∀W:World,W.heap[p]? =some (zo o R.r)→W.heap[bd]? =some (.cells #[.int .i64 kd,.int .i64 cl,.int .i64 rc,.int .i64 ri,.bool rt,.int .i64 ro,.string s8,.int .i64 ee,.int .i64 hh,.int .i64 rp,.int .i64 ke,.int .i64 ki,.int .i64 wr,.slice pA pn pc] 60 (0,0))→W.cell? ⟨p,1,none⟩=some (.pointer (some ⟨o,0,none⟩))∧W.cell? ⟨p,2,none⟩=some (.pointer (some ⟨R.r,0,none⟩))∧W.cell? ⟨bd,1,none⟩=some (.int .i64 cl)∧(W.cell? ⟨bd,7,none⟩=some (.int .i64 ee)∧W.cell? ⟨bd,8,none⟩=some (.int .i64 hh)∧W.cell? ⟨bd,9,none⟩=some (.int .i64 rp)∧W.cell? ⟨bd,10,none⟩=some (.int .i64 ke)∧W.cell? ⟨bd,11,none⟩=some (.int .i64 ki)∧W.cell? ⟨bd,12,none⟩=some (.int .i64 wr))):=hid fun W q1 q2=>⟨(zl q1).2.1,(zl q1).2.2,cell_of_row W bd 1 _ _ _ q2,cell_of_row W bd 7 _ _ _ q2,cell_of_row W bd 8 _ _ _ q2,cell_of_row W bd 9 _ _ _ q2,cell_of_row W bd 10 _ _ _ q2,cell_of_row W bd 11 _ _ _ q2,cell_of_row W bd 12 _ _ _ q2⟩
 have HGp:Hid (w3.heap[p]? =some (zo o R.r)):=hid (HV3.o.get (List.mem_cons_of_mem _ (List.mem_singleton.2 rfl)));have HGb:=hid hbg';have kd0:=cell_of_row w3 bd 0 _ _ _ hbg';clear hbw hbg hbg' hs8 hpn HG1 HG2 HB1 HB2 HW1;have hkx:=HKd.o.1;have HVe:Hid (VD=V):=hid (by
  rw[HVD.o];unfold doD;dsimp only;rw[if_neg (by omega),if_neg (by omega),if_neg (by omega),if_neg (by omega),if_neg (by omega)])
 have b0:(kd==0)=false:=by rw[beq_eq_false_iff_ne];omega
 have b1:(kd==1)=false:=by rw[beq_eq_false_iff_ne];omega
 have b2:(kd==2)=false:=by rw[beq_eq_false_iff_ne];omega
 have b3:(kd==3)=false:=by rw[beq_eq_false_iff_ne];omega
 have b4:(kd==4)=false:=by rw[beq_eq_false_iff_ne];omega
 have b5:(kd==5)=false:=by rw[beq_eq_false_iff_ne];omega
 have b6:(kd==6)=false:=by rw[beq_eq_false_iff_ne];omega
 clear hkx;go_wp2_with fail
 go_ret
 rw[HVe.o];exact⟨rfl,o,x,t,f,(HV3.o.less fun q hq=>List.mem_cons_of_mem _ hq).more (by omega)⟩
end
end
section
open Go.Shelf
attribute [local go_sem] Oper.semAt_some
namespace Gd
theorem part_repN{n m k:Nat}(h:k+m≤n):part (List.replicate n (0:UInt8)) k m=List.replicate m 0:=by
 apply List.ext_getElem?
 intro i;rw[part_get?,List.getElem?_replicate,List.getElem?_replicate];by_cases hi:i<m
 ·rw[if_pos hi,if_pos hi,if_pos (by omega)]
 ·rw[if_neg hi,if_neg hi]
end Gd
theorem JB[zc]{p:Nat}{w a:World}(h:QE p w a):∃(R:RvB) (o x t f:Nat),Bv o x t f R Zo Zo 665100000 w a [(p,zo o R.r)]:=by
 obtain⟨o,x,t,f,r,S,M,wr,w9,hV,⟨hB,hl⟩,hR,rfl,rfl⟩:=h;obtain⟨R,hRr,hC,hge⟩:=Vc hR;have hb9:=hR.2;have hs:Vs o x t f Zo 665100000 w wr []:=by
  refine⟨S,M,hV,Gd.Fils.began hB,fun c c1 c2=> ?_⟩;rw[hl];exact Gd.part_repN (by omega)
 obtain⟨L0,hL0⟩:=nm ([R.r,R.g1,R.g2,R.g3]++(List.range 8).map R.bs);have hm:∀q,R.has q↔q∈L0:=fun q=>by
  rw[hL0];simp only[List.mem_append,List.mem_cons,List.not_mem_nil,or_false,List.mem_map,List.mem_range];constructor
  ·rintro(h|h|h|h|⟨c,hc,h⟩)
   ·exact Or.inl (Or.inl h)
   ·exact Or.inl (Or.inr (Or.inl h))
   ·exact Or.inl (Or.inr (Or.inr (Or.inl h)))
   ·exact Or.inl (Or.inr (Or.inr (Or.inr h)))
   ·exact Or.inr ⟨c,hc,h.symm⟩
  ·rintro((h|h|h|h)|⟨c,hc,h⟩)
   ·exact Or.inl h
   ·exact Or.inr (Or.inl h)
   ·exact Or.inr (Or.inr (Or.inl h))
   ·exact Or.inr (Or.inr (Or.inr (Or.inl h)))
   ·exact Or.inr (Or.inr (Or.inr (Or.inr ⟨c,hc,h.symm⟩)))
 obtain⟨Lr,hLr⟩:∃Lr:List (Nat×Obj),Lr=L0.map fun q=>(q,(w9.heap[q]?).getD (.cells #[] 0 (0,0))):=⟨_,rfl⟩;have hr:∀q,R.has q↔∃o',(q,o')∈Lr:=fun q=>by
  rw[hm,hLr];constructor
  ·intro h;exact⟨_,List.mem_map.2 ⟨q,h,rfl⟩⟩
  ·rintro⟨o',h⟩;obtain⟨q',h1,h2⟩:=List.mem_map.1 h;have:q'=q:=congrArg (·.1) h2
   rw[←this];exact h1
 have h9:=hs.news hb9 (Lu:=Lr) fun p hp=>by
  have hR:=(hr p.1).2 ⟨p.2,hp⟩;refine⟨hge _ hR,?_⟩;rw[hLr]at hp;obtain⟨q',h1,rfl⟩:=List.mem_map.1 hp;obtain⟨C,ty,hg,-⟩:=hC.typ hR;dsimp only at hg⊢;rw[hg];rfl
 have hv:Bv o x t f R Zo Zo 665100000 w w9 []:=⟨Lr,hr,h9,hC⟩;refine⟨R,o,x,t,f,?_⟩;rw[hRr];exact hv.news ((Below.refl _ _).alloc (Nat.le_refl _) _) (Lu:=[(w9.heap.size,zo o r)]) fun p hp=>by
  rw[List.mem_singleton.1 hp];exact⟨Nat.le_refl _,heap_alloc_new w9 _⟩
structure Y4(w:World)(d:Dd):Prop where
 pc:d.pn≤d.pc
 pl:d.pc≤9223372036854775807
 dl:d.r.d.length≤9223372036854775807
 pk:jb w d.pA (min d.pn 300)
def Dds(w:World)(A:Option Addr)(L:List Dd):Prop:=L=[]∨∃b o,A=some ⟨b,o,none⟩∧b<w.heap.size∧∀(j:Nat) (d:Dd),L[j]? =some d→w.rangeAt b (o+j*14) (ddC d).toList
theorem Ju[zc]{o x t f K p:Nat}{R:RvB}{V:Gd.Vl}{w a:World}(h:Bv o x t f R V V K w a [(p,zo o R.r)])(hok:V.Ok)(d:Dd)(hd:Y4 w d)(hK:K<90000000000)(hn:V.n≤100000):
 Calls prog 20 #[.pointer (some ⟨p,0,none⟩),.agg (ddC d)] a fun e b=>e= .returned (.bool true)∧∃o2 x2 t2 f2:Nat,Bv o2 x2 t2 f2 R (doD V d) (doD V d) (K+2000000000) w b [(p,zo o2 R.r)]:=by
 by_cases hx:0≤d.kd∧d.kd≤6
 ·rcases(by omega:d.kd=0∨d.kd=1∨d.kd=2∨d.kd=3∨d.kd=4∨d.kd=5∨d.kd=6)with e|e|e|e|e|e|e
  ·exact Uk h hok d e hd.pc hd.pl hd.dl hd.pk hK hn
  ·exact Uj h hok d e hd.pc hd.pl hd.dl hd.pk hK hn
  ·exact Ui h hok d e hd.pc hd.pl hd.dl hd.pk hK hn
  ·exact Uh h hok d e hd.pc hd.pl hd.dl hd.pk hK hn
  ·exact Ug h hok d e hd.pc hd.pl hd.dl hd.pk hK hn
  ·exact Uf h hok d e hd.pc hd.pl hd.dl hd.pk hK hn
  ·exact Ue h hok d e hd.pc hd.pl hd.dl hd.pk hK hn
 ·exact Ud h hok d hx hd.pc hd.pl hd.dl hd.pk hK hn
end
end Go.Proofs.YtccpdkjonepoiaaGreatDoor
