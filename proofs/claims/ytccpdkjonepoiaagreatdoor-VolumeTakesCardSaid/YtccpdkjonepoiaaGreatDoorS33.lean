/- Walks: commonsref17: Take. -/
import Derived.Test.YtccpdkjonepoiaaGreatDoorS32
set_option linter.unusedVariables false
set_option linter.unusedSimpArgs false
set_option linter.unusedSectionVars false
set_option maxHeartbeats 8000000
set_option maxRecDepth 100000
namespace Go.Proofs.YtccpdkjonepoiaaGreatDoor
open Go.RowKit
open Lib(hid)
open Go.Proofs.Tryz
section
open Go.Shelf
attribute [local go_sem] Oper.semAt_some
section
variable {R:RvB} {V:Gd.Vl} {w w' a b:World}
theorem yy{F:Nat→Prop}{B e k m:Nat}{v:Value}{xs:List Value}(h:a.ownsRow B e k v m xs)(hB:∀q,B≤q→¬F q)(hO:zi F a b):b.ownsRow B e k v m xs:=
 zT h fun q _ hq hg=>hO.block q (za hg) (hB q (zE h q hq).1)
theorem X4{F:Nat→Prop}{B:Nat}{u v:Value}{l:List (Gd.Rec×Nat)}(h:jx B a u v l)(hB:∀q,B≤q→¬F q)(hO:zi F a b):jx B b u v l:=⟨yy h.1 hB hO,yy h.2 hB hO⟩
def RkI(R:RvB)(V:Gd.Vl)(c:Nat)(l:List (Gd.Rec×Nat))(w1:World)(k:Nat)(v:Value)(a:World):Prop:=
 RvC R (V.steps c (l.take k)) a∧zi R.has w1 a∧a.ownsRow w1.heap.size 57 5 v (Gd.Vl.outs c V (l.take k)).length (jd (Gd.Vl.outs c V (l.take k)))
def RkM(R:RvB)(V:Gd.Vl)(c:Nat)(l:List (Gd.Rec×Nat))(r:Gd.Rec)(w1:World)(k:Nat)(v:Value)(a:World):Prop:=
 RvC R ((V.steps c (l.take k)).setf r) a∧zi R.has w1 a∧a.ownsRow w1.heap.size 57 5 v (Gd.Vl.outs c V (l.take (k+1))).length (jd (Gd.Vl.outs c V (l.take (k+1))))
theorem VO{c k:Nat}{l:List (Gd.Rec×Nat)}{r:Gd.Rec}{en:Nat}{w1:World}{v:Value}(h:RkI R V c l w1 k v a)(hp:l[k]? =some (r,en))(hg:(V.steps c (l.take k)).got r=false)(hb:Below a.heap.size a b):RkM R V c l r w1 k v b:=by
 have e2:Gd.Vl.outs c V (l.take (k+1))=Gd.Vl.outs c V (l.take k):=by rw[jN hp,Gd.Vl.outs_snoc,hg];simp
 have e1:(V.steps c (l.take k)).setf r=V.steps c (l.take k):=by
  unfold Gd.Vl.setf;rw[if_neg (by rw[hg];decide)]
 refine⟨by rw[e1];exact h.1.below hb,h.2.1.trans (zg hb R.has) fun _ _ e=>e,?_⟩;rw[e2];exact zx h.2.2 hb
theorem V4{c k g cap:Nat}{l:List (Gd.Rec×Nat)}{r:Gd.Rec}{en:Nat}{w1 a1:World}{v:Value}(hp:l[k]? =some (r,en))(hg:(V.steps c (l.take k)).got r=true)(hC:RvC R ((V.steps c (l.take k)).setf r) a)(hO:zi R.has w1 a)(hR:∀q,R.has q→q<w1.heap.size)(hv:a.ownsRow w1.heap.size 57 5 v (Gd.Vl.outs c V (l.take k)).length (jd (Gd.Vl.outs c V (l.take k))))(hb:Below a.heap.size a a1)
 (h6:b.ownsRow w1.heap.size 57 5 (.slice (some ⟨g,0,none⟩) ((Gd.Vl.outs c V (l.take k)).length+1) cap) ((Gd.Vl.outs c V (l.take k)).length+1) (jd (Gd.Vl.outs c V (l.take k))++(zN r).toList))(h7:a1.grownBy b v.ownBlock):RkM R V c l r w1 k (.slice (some ⟨g,0,none⟩) ((Gd.Vl.outs c V (l.take k)).length+1) cap) b:=by
 have e2:Gd.Vl.outs c V (l.take (k+1))=Gd.Vl.outs c V (l.take k)++[r]:=by rw[jN hp,Gd.Vl.outs_snoc,hg];rfl
 have hO2:zi (fun q=>v.ownBlock=some q) a b:=(zg hb _).trans (zK h7 fun q e=>e) fun _ _ e=>e;have hne:∀q,v.ownBlock=some q→w1.heap.size≤q:=fun q e=>(zE hv q e).1;refine⟨hC.only hO2 fun q hq e=> ?_,hO.trans (G:=fun q=>v.ownBlock=some q) hO2 fun q hq e=> ?_,?_⟩
 ·have:=hne q e
  have:=hR q hq
  omega
 ·have:=hne q e
  omega
 ·rw[e2,List.length_append,List.length_singleton,xe];exact h6
theorem uP(h:RvC R V w)(hok:V.Ok)(c:Int)(d:Nat)(hcd:c=(d:Int)+1)(hd:d<8)(hn:V.n≤1000000):
 Calls prog 59 #[.pointer (some ⟨R.r,0,none⟩),.int .i64 c] w fun e w'=>∃u,e= .returned (.tuple #[u,.int .i64 0])∧w'.ownsRow w.heap.size 57 5 u (V.taken (d+1)).length (jd (V.taken (d+1)))∧RvC R (V.take (d+1)) w'∧zi R.has w w':=by
 have hfew:(V.pend (d+1)).length≤59:=Gd.scanL_few _ _ _;have HPe:=hid (yw h hok c d hcd hd);have HF:Hid (∀p∈V.pend (d+1),p.1.may=true∧p.2≤1016):=hid fun p hp=>Gd.scanL_mem hp;unfold Gd.Vl.take Gd.Vl.taken;obtain⟨l,hl⟩:=nm (V.pend (d+1));rw[←hl]at hfew HPe HF⊢;have HRl:Hid (∀q,R.has q→q<w.heap.size):=hid fun q hq=>h.lt hq;have H:=hid h;have HOk:=hid hok;have HD:=hid hd;have HN:=hid hn;have hwr:IntKind.i64.wrap (c-1)=(d:Int):=by rw[IntKind.wrap_i64];omega
 have hd1:(d:Int)<8:=by omega
 have hd0:(0:Int)≤d:=by omega
 have hc1:¬c<1:=by omega
 have hc8:¬8<c:=by omega
 clear h hok hcd hd hn hl;obtain⟨i0,hi,hz0,hz1,hz2⟩:=info_parts infoRec;go_enter func59,ntmps59;go_wp2_with fail
 refine HPe.o.mono ?_;rintro e w1 ⟨u,v,rfl,hs1,hb1⟩;have HS1:=hid hs1;have HB1:=hid hb1;have H1:=hid (H.o.below hb1);obtain⟨bu,cu,bv,cv,rfl,rfl,-⟩:=qX hs1;obtain⟨n,hn⟩:=nm l.length;rw[←hn]at hfew;rw[←hn];have Hn:=hid hn;clear hs1 hb1 hn HPe;go_upto_region 6 with fail
 go_loopw[8,9] (fun z i wr=>∃k:Nat,i= .int .i64 k∧k≤n∧Hid (RkI R V (d+1) l w1 k z wr)) (fun _ i _=>n-(intOf i).toNat)
 case atStart=>exact⟨0,rfl,by omega,hid ⟨H1.o,zi.refl _ _,World.ownsRow_nil _ _ _ _⟩⟩
 case round=>
  obtain⟨k,rfl,hkn,HI⟩:=hrel;by_cases hlt:k<n
  ·obtain⟨p,hp⟩:∃p,l[k]? =some p:=⟨_,List.getElem?_eq_getElem (by have:=Hn.o;omega)⟩;have HP:=hid hp;have HScan:Hid (∀W,zi R.has w1 W→jx w.heap.size W (.slice bu n cu) (.slice bv n cv) l):=hid fun W hW=>by
    have:=X4 HS1.o (F:=R.has) (fun q hq e=>by have:=HRl.o q e;omega) hW
    rw[Hn.o];exact this
   obtain⟨bu2,cu2,bv2,cv2,eu,ev,hget⟩:=qX (HScan.o wr HI.o.2.1);rw[←Hn.o]at eu ev
   cases eu
   cases ev
   obtain⟨qu,qv,rfl,rfl,hql,hru,hcv⟩:=hget k p hp;obtain⟨r,en⟩:=p;have hmay:=(HF.o _ (List.mem_of_getElem? hp)).1;have hen:=(HF.o _ (List.mem_of_getElem? hp)).2;have hcall:=Gd.may_rec hmay;dsimp only at hru hcv hmay hen hcall;have HMay:=hid (And.intro hmay (And.intro hen hcall));obtain⟨s8,hs8⟩:∃s:ByteArray,s=⟨r.d.toArray⟩:=⟨_,rfl⟩;have hrv:(zN r)=#[.int .i64 r.call,.int .i64 r.inode,.bool r.tr,.int .i64 r.off,.string s8]:=by rw[hs8];rfl
   have HRv:=hid hrv;have HS8:=hid hs8;obtain⟨rc,hrc⟩:=nm r.call;obtain⟨ri,hri⟩:=nm r.inode;obtain⟨rt,hrt⟩:=nm r.tr;obtain⟨ro,hro⟩:=nm r.off;rw[←hrc,←hri,←hrt,←hro]at HRv;have HRc:=hid (And.intro hrc (And.intro hri (And.intro hrt hro)));have HTr:Hid (∀W,zi R.has w1 W→(W.cell? ⟨qu,k*5,none⟩=some (.int .i64 rc)∧W.cell? ⟨qu,k*5+1,none⟩=some (.int .i64 ri)∧W.cell? ⟨qu,k*5+2,none⟩=some (.bool rt)∧W.cell? ⟨qu,k*5+3,none⟩=some (.int .i64 ro)∧W.cell? ⟨qu,k*5+4,none⟩=some (.string s8))∧W.cell? ⟨qv,k,none⟩=some (.int .i64 en)∧W.rangeAt qu (k*5) [.int .i64 rc,.int .i64 ri,.bool rt,.int .i64 ro,.string s8]):=hid fun W hW=>by
    obtain⟨bu3,cu3,bv3,cv3,eu3,ev3,hget3⟩:=qX (HScan.o W hW);rw[←Hn.o]at eu3 ev3
    cases eu3
    cases ev3
    obtain⟨qu3,qv3,x1,x2,x3,x4,x5⟩:=hget3 k _ HP.o
    cases x1
    cases x2
    rw[HRv.o]at x4;exact⟨⟨x4 0 _ rfl,x4 1 _ rfl,x4 2 _ rfl,x4 3 _ rfl,x4 4 _ rfl⟩,x5,x4⟩
   obtain⟨Vk,hVk⟩:=nm (V.steps (d+1) (l.take k));have HVk:=hid hVk;have hI1:=HI.o.1;rw[←hVk]at hI1;have HI1:=hid hI1;have HOkk:Hid Vk.Ok:=hid (by rw[hVk];exact Gd.Vl.Ok.steps (by omega) (by have:=HD.o;omega) _ HOk.o fun q hq=>HF.o q (List.mem_of_mem_take hq));have HNk:Hid (Vk.n≤1000059):=hid (by rw[hVk,Gd.Vl.steps_n,List.length_take];have:=HN.o;omega);have h1:(k:Int)<n:=by omega
   have h0:(0:Int)≤k:=by omega
   obtain⟨⟨-,p1,-,-,-⟩,-⟩:=HTr.o wr HI.o.2.1;obtain⟨q,hq⟩:=nm (ri-2);have hqw:IntKind.i64.wrap (ri-2)=q:=by rw[IntKind.wrap_i64,hq,hri];omega
   have HQ:=hid hq;clear hp hget hmay hen hcall hs8 hrv hrc hri hrt hro hVk hI1 hlt hcv hru hq;go_upto_region 9 with fail
   obtain⟨inb,hinb⟩:=nm (decide (0≤q∧q<4));have HIn:=hid hinb;clear p1 hqw;go_cut[42] from 37 to 43 (fun z wx=>z= .bool inb∧wx=wr)
   case first=>
    by_cases hq0:0≤q
    ·by_cases hq4:q<4
     ·rw[decide_eq_true ⟨hq0,hq4⟩]at hinb;subst hinb;go_wp2_with fail
      go_meet
      exact⟨rfl,rfl⟩
     ·rw[decide_eq_false fun h=>hq4 h.2]at hinb;subst hinb;go_wp2_with fail
      go_meet
      exact⟨rfl,rfl⟩
    ·rw[decide_eq_false fun h=>hq0 h.1]at hinb;subst hinb;go_wp2_with fail
     go_meet
     exact⟨rfl,rfl⟩
   case rest=>
   obtain⟨rfl,hwc⟩:=hcut;subst wc;clear hinb;go_upto_if 42 with fail
   go_cut[8] from 43 to 74 (fun z wx=>Hid (RkM R V (d+1) l r w1 k z wx))
   case first=>
    cases inb with
    |false=>
     have hgot:Vk.got r=false:=by
      cases hh:Vk.got r with
      |false=>rfl
      |true=>
       have h1:=(Gd.Vl.got_ok hh).1;have h2:¬(0≤q∧q<4):=of_decide_eq_false HIn.o.symm;rw[HQ.o,HRc.o.2.1]at h2;omega
     have HM:=hid (VO HI.o HP.o (by rw[←HVk.o];exact hgot) (Below.refl _ _));clear hgot;go_wp2_with fail
     go_meet
     exact HM
    |true=>
     have hq2:0≤q∧q<4:=of_decide_eq_true HIn.o.symm;obtain⟨j,hj⟩:∃j:Nat,q=j:=⟨q.toNat,by omega⟩;subst hj;have j4:j<4:=by omega
     have j0:(0:Int)≤j:=by omega
     have j4i:(j:Int)<4:=by omega
     have hrj:r.inode.toNat=j+2:=by have:=HQ.o;have:=HRc.o.2.1;omega
     have HRj:=hid (And.intro hrj j4);have hsz:=HOkk.o.file (j+2) (by omega) (by omega);obtain⟨c1,c2,c3,-,-,a2,-,-⟩:=HI1.o.c4;have f0:=HI1.o.file j4;have hlt2:=And.intro (HI1.o.lt R.has_r) (HI1.o.lt R.has_2);obtain⟨st,hst⟩:∃st:ByteArray,st=⟨(Vk.fs (j+2)).toArray⟩:=⟨_,rfl⟩;rw[←hst]at f0;obtain⟨out,E,hcg⟩:∃out E,Gd.chgR (Vk.fs (j+2)) r=(out,E):=⟨_,_,rfl⟩;have HCg:=hid hcg;have HCh:Hid (Calls prog 111 #[.string st,.agg #[.int .i64 rc,.int .i64 ri,.bool rt,.int .i64 ro,.string s8]] wr.drew fun e w'=>e= .returned (.tuple #[.string ⟨out.toArray⟩,.int .i64 E])∧Below wr.drew.heap.size wr.drew w'):=hid (by
      have:=Fl.rchange_any st rc ri rt ro s8 wr.drew (by rw[hst];show(Vk.fs (j+2)).toArray.size≤300;rw[List.size_toArray];omega) (by rw[HS8.o];show r.d.toArray.size≤80;rw[List.size_toArray];have:=HMay.o.2.2;omega)
      have e1:Fp.chg st.data.toList rc ri rt ro s8.data.toList=(out,E):=by
       rw[←hcg,hst,HS8.o,HRc.o.1,HRc.o.2.1,HRc.o.2.2.1,HRc.o.2.2.2];rfl
      rw[e1]at this;exact this)
     have hS:∀W:World,Below wr.heap.size wr W→W.cell? ⟨R.r,2,none⟩=some (.slice (some ⟨R.g2,0,none⟩) 4 c2)∧W.cell? ⟨R.g2,j,none⟩=some (.string st)∧W.cell? ⟨qu,k*5,none⟩=some (.int .i64 rc)∧W.cell? ⟨qu,k*5+1,none⟩=some (.int .i64 ri)∧W.cell? ⟨qu,k*5+2,none⟩=some (.bool rt)∧W.cell? ⟨qu,k*5+3,none⟩=some (.int .i64 ro)∧W.cell? ⟨qu,k*5+4,none⟩=some (.string s8):=fun W hW=>⟨(hW.cell (p:=⟨R.r,2,none⟩) hlt2.1).trans a2,(hW.cell (p:=⟨R.g2,j,none⟩) hlt2.2).trans f0,(HTr.o W (HI.o.2.1.trans (zg hW R.has) fun _ _ e=>e)).1⟩;have hs0:=hS wr.drew (Below.refl _ _).drew;have HS:=hid hS;clear hS a2 f0 hlt2 hst hcg hsz hrj hq2;go_upto_region 10 with fail
     refine wp_region_held_drew (S:=(fun W=>W.cell? ⟨R.r,2,none⟩=some (.slice (some ⟨R.g2,0,none⟩) 4 c2)∧W.cell? ⟨R.g2,j,none⟩=some (.string st)∧W.cell? ⟨qu,k*5,none⟩=some (.int .i64 rc)∧W.cell? ⟨qu,k*5+1,none⟩=some (.int .i64 ri)∧W.cell? ⟨qu,k*5+2,none⟩=some (.bool rt)∧W.cell? ⟨qu,k*5+3,none⟩=some (.int .i64 ro)∧W.cell? ⟨qu,k*5+4,none⟩=some (.string s8))) (by kernel_rfl) ?_ (fun hHeld=> ?_)
     ·exact hs0
     refine tk 0 ?_;refine tk 1 ?_;refine tk 2 ?_;refine tk 3 ?_;refine tk 4 ?_;refine tk 5 ?_;refine tk 6 ?_;refine tk 7 ?_;refine tk 8 ?_;refine tk 9 ?_;refine tk 10 ?_;refine rd 11 (fun K hK=> ?_);go_simp
     refine HCh.o.mono ?_;rintro e w5 ⟨rfl,hb5⟩;have HB5:=hid ((Below.refl wr.heap.size wr).drew.trans hb5);have hs5:=HS.o w5 HB5.o;clear hb5;try dsimp only
     refine hK.o _ _ hs5 (fun hHeld=> ?_);clear hK K;try simp only[put]
     refine tk 12 ?_;refine tk 13 ?_;refine tk 14 ?_;refine tk 15 ?_;refine tk 16 ?_;refine dn ?_
     (try simp only[Exit.then])
     clear hs0 HCh;by_cases hE:E=0
     ·subst hE;have hgot:Vk.got r=true:=by
       have h1:=HQ.o;have h2:=HRc.o.2.1;unfold Gd.Vl.got;rw[HRj.o.1,HCg.o,decide_eq_true (show 2≤r.inode∧r.inode≤5 by omega)];rfl
      have HGo:=hid hgot;obtain⟨a2,f0,-⟩:=hs5;have ff:w5.frozen? ⟨R.g2,j,none⟩=false:=by
       obtain⟨C,hC,-⟩:=(HI1.o.below HB5.o).fl;exact frozen_of_row w5 R.g2 _ _ _ hC
      clear hgot;go_upto_region 13 with fail
      obtain⟨w6,hw6⟩:=nm (w5.setCell ⟨R.g2,j,none⟩ (.string ⟨out.toArray⟩));rw[←hw6];have H6:Hid (RvC R (Vk.setf r) w6):=hid (by
       have h:=(HI1.o.below HB5.o).setFile HRj.o.2 out;rw[←hw6]at h;unfold Gd.Vl.setf;rw[if_pos HGo.o,HRj.o.1,HCg.o];exact h)
      have HO5:Hid (zi R.has wr w6):=hid ((zg HB5.o R.has).trans (by rw[hw6];exact zq _ _ _ R.has_2) fun _ _ e=>e);have HO6:Hid (zi R.has w1 w6):=hid (HI.o.2.1.trans HO5.o fun _ _ e=>e);have hrow6:=yy HI.o.2.2 (F:=R.has) (fun q hq e=>by have:=HRl.o q e;have:=HB1.o.size;omega) HO5.o;have hru6:=(HTr.o w6 HO6.o).2.2;have hM:(Gd.Vl.outs (d+1) V (l.take k)).length≤59:=by
       have:=yF (d+1) (l.take k) V
       rw[List.length_take]at this;omega
      have HBs:Hid (w1.heap.size≤w6.heap.size):=hid HO6.o.size;clear hw6 a2 f0 ff;go_wp2_with(first|(refine wpList_load_mid rfl 57 _ rfl qu (k*5) rfl [.int .i64 rc,.int .i64 ri,.bool rt,.int .i64 ro,.string s8] _ hru6 underlying57 rfl sizeRec ?_)|(at_builtin;refine wpList_append_lies _ rfl _ _ 81 rfl w1.heap.size 57 i0 _ 5 48 underlying81 hi hz0 hz1 hz2 rfl (by decide) u8 _ (jd (Gd.Vl.outs (d+1) V (l.take k))) rfl (zx hrow6 ((Below.refl _ _).alloc (Nat.le_refl _) _)) ⟨w6.heap.size,0,none⟩ 1 1 [.int .i64 rc,.int .i64 ri,.bool rt,.int .i64 ro,.string s8] rfl rfl (xn w6 _ _ _ _ _ _) (by intro u hu;simp at hu;rcases hu with rfl|rfl|rfl|rfl|rfl<;>rfl) (by decide) (by unfold maxLen;omega) (by omega) (by have:=HBs.o;simp;omega) _ rfl ?_;intro g cap w12 g1 g2 g3 g4))
      go_meet
      refine hid (V4 HP.o (by rw[←HVk.o];exact HGo.o) (by rw[←HVk.o];exact H6.o) HO6.o (fun q hq=>Nat.lt_of_lt_of_le (HRl.o q hq) HB1.o.size) hrow6 ((Below.refl _ _).alloc (Nat.le_refl _) _) ?_ g2);rw[HRv.o];exact g1
     ·have hEb:(E==0)=false:=by simpa using hE
      have hE1:¬E=0:=hE;have hgot:Vk.got r=false:=by
       cases hh:Vk.got r with
       |false=>rfl
       |true=>
        have:=(Gd.Vl.got_ok hh).2
        rw[HRj.o.1,HCg.o]at this;exact absurd this hE
      have HM:=hid (VO HI.o HP.o (by rw[←HVk.o];exact hgot) HB5.o);clear hgot hE hs5;go_wp2_with fail
      go_meet
      exact HM
   case rest=>
   obtain⟨wq,rfl⟩:=nm wc;have HM:=hcut;have HC0:Hid (RvC R (Vk.setf r) wq):=hid (by rw[HVk.o];exact HM.o.1);have hse:=(Vk.setf_s r).1;obtain⟨c1,c2,c3,a0,-,-,-,-⟩:=HC0.o.c4;obtain⟨-,b1,-,bf1⟩:=HC0.o.s2 HD.o;have ph:=(HTr.o wq HM.o.2.1).2.1;have hRr:∀(W:World) (i:Nat) (x:Value),RvC R (Vk.setf r) W∨(∃U,RvC R U W)→(W.setCell ⟨R.g1,i,none⟩ x).drew.cell? ⟨R.r,0,none⟩=W.cell? ⟨R.r,0,none⟩:=fun W i x hU=>by
    obtain⟨U,hU⟩:∃U,RvC R U W:=hU.elim (fun h=>⟨_,h⟩) id;obtain⟨x1,x2,x3,hx⟩:=hU.obj;obtain⟨C,hC,-⟩:=hU.sl;exact World.cell?_of_block (w:=W) (a:=⟨R.r,0,none⟩) (Go.heap_setCell_other W ⟨R.g1,i,none⟩ R.r x fun e=>zX hx hC (by decide) e)
   have hs0:wq.drew.cell? ⟨R.r,0,none⟩=some (.slice (some ⟨R.g1,0,none⟩) 8 c1)∧wq.drew.cell? ⟨qv,k,none⟩=some (.int .i64 en):=⟨a0,ph⟩;obtain⟨w7,hw7⟩:=nm ((wq.setCell ⟨R.g1,d*6+1,none⟩ (.int .i64 en)).drew);have HO7:Hid (zi R.has wq w7):=hid (by rw[hw7];exact(zq wq ⟨R.g1,d*6+1,none⟩ (.int .i64 en) R.has_1).trans (zg (Below.refl _ _).drew R.has) fun _ _ e=>e);have HO71:Hid (zi R.has w1 w7):=hid (HM.o.2.1.trans HO7.o fun _ _ e=>e);have hs1:(wq.setCell ⟨R.g1,d*6+1,none⟩ (.int .i64 en)).drew.cell? ⟨R.r,0,none⟩=some (.slice (some ⟨R.g1,0,none⟩) 8 c1)∧(wq.setCell ⟨R.g1,d*6+1,none⟩ (.int .i64 en)).drew.cell? ⟨qv,k,none⟩=some (.int .i64 en):=⟨(hRr wq _ _ (Or.inl HC0.o)).trans a0,by rw[←hw7];exact(HTr.o w7 HO71.o).2.1⟩;have H7:Hid (RvC R {Vk.setf r with s:=Gd.updS (Vk.setf r).s (d+1) {(Vk.setf r).s (d+1)with h:=en}} w7):=hid (by
    rw[hw7];exact(HC0.o.setField HD.o (show 1<6 by omega) (.int .i64 en) {(Vk.setf r).s (d+1)with h:=en} rfl).below (Below.refl _ _).drew)
   have hs2:w7.drew.cell? ⟨R.r,0,none⟩=some (.slice (some ⟨R.g1,0,none⟩) 8 c1)∧w7.drew.cell? ⟨qu,k*5,none⟩=some (.int .i64 rc):=⟨by rw[hw7];exact hs1.1,(HTr.o w7 HO71.o).1.1⟩;obtain⟨-,b5,-,bf5⟩:=H7.o.s4 HD.o;obtain⟨w8,hw8⟩:=nm ((w7.setCell ⟨R.g1,d*6+5,none⟩ (.int .i64 rc)).drew);have HO8:Hid (zi R.has w7 w8):=hid (by rw[hw8];exact(zq w7 ⟨R.g1,d*6+5,none⟩ (.int .i64 rc) R.has_1).trans (zg (Below.refl _ _).drew R.has) fun _ _ e=>e);have HO81:Hid (zi R.has w1 w8):=hid (HO71.o.trans HO8.o fun _ _ e=>e);have hs3:(w7.setCell ⟨R.g1,d*6+5,none⟩ (.int .i64 rc)).drew.cell? ⟨R.r,0,none⟩=some (.slice (some ⟨R.g1,0,none⟩) 8 c1)∧(w7.setCell ⟨R.g1,d*6+5,none⟩ (.int .i64 rc)).drew.cell? ⟨qu,k*5,none⟩=some (.int .i64 rc):=⟨(hRr w7 _ _ (Or.inr ⟨_,H7.o⟩)).trans hs2.1,by rw[←hw8];exact(HTr.o w8 HO81.o).1.1⟩;have hcn:((r.call.toNat:Nat):Int)=rc:=by rw[HRc.o.1];have:=HMay.o.2.2;omega
   have H8:Hid (RvC R {Vk.setf r with s:=Gd.updS (Gd.updS (Vk.setf r).s (d+1) {(Vk.setf r).s (d+1)with h:=en}) (d+1) {(Vk.setf r).s (d+1)with h:=en,w:=r.call.toNat}} w8):=hid (by
    rw[hw8];refine(H7.o.setField HD.o (show 5<6 by omega) (.int .i64 rc) {(Vk.setf r).s (d+1)with h:=en,w:=r.call.toNat} ?_).below (Below.refl _ _).drew
    unfold zm Gd.updS;dsimp only;rw[if_pos rfl,hcn];rfl)
   clear hRr a0 ph hse hcn;go_upto_region 14 with fail
   refine wp_region_held_drew (S:=(fun W=>W.cell? ⟨R.r,0,none⟩=some (.slice (some ⟨R.g1,0,none⟩) 8 c1)∧W.cell? ⟨qv,k,none⟩=some (.int .i64 en))) (by kernel_rfl) ?_ (fun hHeld=> ?_)
   ·exact hs0
   refine tk 0 ?_;refine tk 1 ?_;refine tk 2 ?_;refine tk 3 ?_;refine tk 4 ?_;refine tk 5 ?_;refine tk 6 ?_;refine tk 7 ?_;refine tk 8 ?_;refine tk 9 ?_;refine tk 10 ?_;refine tk 11 ?_;refine rd 12 (fun K hK=> ?_);go_simp
   try dsimp only
   refine hK.o _ _ hs1 (fun hHeld=> ?_);clear hK K;try simp only[put]
   refine dn ?_
   (try simp only[Exit.then])
   rw[←hw7];clear hw7 hs0 hs1 b1 bf1;go_upto_region 15 with fail
   refine wp_region_held_drew (S:=(fun W=>W.cell? ⟨R.r,0,none⟩=some (.slice (some ⟨R.g1,0,none⟩) 8 c1)∧W.cell? ⟨qu,k*5,none⟩=some (.int .i64 rc))) (by kernel_rfl) ?_ (fun hHeld=> ?_)
   ·exact hs2
   refine tk 0 ?_;refine tk 1 ?_;refine tk 2 ?_;refine tk 3 ?_;refine tk 4 ?_;refine tk 5 ?_;refine tk 6 ?_;refine tk 7 ?_;refine tk 8 ?_;refine tk 9 ?_;refine tk 10 ?_;refine tk 11 ?_;refine tk 12 ?_;refine rd 13 (fun K hK=> ?_);go_simp
   try dsimp only
   refine hK.o _ _ hs3 (fun hHeld=> ?_);clear hK K;try simp only[put]
   refine dn ?_
   (try simp only[Exit.then])
   rw[←hw8];clear hw8 hs2 hs3 b5 bf5;obtain⟨c1,c2,c3,-,a1,-,-,af⟩:=H8.o.c4;dsimp only at a1;obtain⟨n0,hn0⟩:=nm ((Vk.setf r).n);have hN:n0≤1000059:=by rw[hn0,(Vk.setf_s r).2.1];exact HNk.o
   rw[←hn0]at a1;have HN0:=hid hn0;clear hn0;go_upto_region 7 with fail
   obtain⟨w9,hw9⟩:=nm (w8.setCell ⟨R.r,1,none⟩ (.int .i64 ((n0:Int)+1)));rw[←hw9];have H9:=hid (H8.o.setN (n0+1));rw[show((n0+1:Nat):Int)=(n0:Int)+1 by omega,←hw9]at H9;have HO9:Hid (zi R.has wq w9):=hid ((HO7.o.trans HO8.o fun _ _ e=>e).trans (by rw[hw9];exact zq _ _ _ R.has_r) fun _ _ e=>e);clear hw9 a1 af;go_wp2;go_roundw
   case rel=>
    refine⟨k+1,by go_num,by omega,hid ⟨?_,HM.o.2.1.trans HO9.o fun _ _ e=>e,yy HM.o.2.2 (F:=R.has) (fun q hq e=>by have:=HRl.o q e;have:=HB1.o.size;omega) HO9.o⟩⟩;rw[jN HP.o,Gd.Vl.steps_snoc,←HVk.o];refine H9.o.as ?_ (fun c h1 h2=> ?_) (fun _ _ _=>rfl) fun _ _ _=>rfl
    ·show(Vk.setf r).n+1=n0+1
     rw[HN0.o]
    ·rw[Vk.step_s (d+1) (r,en)];have hse:=(Vk.setf_s r).1;show(if c=d+1 then Gd.tookS (Vk.s (d+1)) (r,en)else Vk.s c)=if c=d+1 then _ else if c=d+1 then _ else(Vk.setf r).s c
     by_cases e:c=d+1
     ·rw[if_pos e,if_pos e,hse];rfl
     ·rw[if_neg e,if_neg e,if_neg e,hse]
   case measure=>simp[intOf];omega
  ·obtain rfl:k=n:=by omega
   have h1:¬(k:Int)<k:=by omega
   have hlk:l.take k=l:=List.take_of_length_le (by have:=Hn.o;omega);obtain⟨i1,i2,i3⟩:=HI.o;rw[hlk]at i1 i3;have HFin:=hid (And.intro (yz i3 HB1.o.size) (And.intro i1 ((zg HB1.o R.has).trans i2 fun _ _ e=>e)));clear hlt hlk i1 i2 i3;go_wp2_with fail
   go_ret2
   exact⟨_,rfl,HFin.o.1,HFin.o.2.1,HFin.o.2.2⟩
end
end
section
open Go.Shelf
attribute [local go_sem] Oper.semAt_some
namespace Gd
def Vl.endOf(V:Vl)(c:Nat):Nat:=if getB (V.lg c) 0 8=true∧endN (V.lg c)/4294967296=(V.s c).e then endN (V.lg c) % 4294967296 else 0
def Vl.room(V:Vl)(c:Nat)(r:Rec):Bool:=r.may&&endB (V.s c).e ((V.endOf c+(encL r).length:Nat):Int)
def Vl.endV(V:Vl)(c:Nat)(r:Rec):Nat:=(V.s c).e*4294967296+(V.endOf c+(encL r).length)
theorem Vl.room_ok{V:Vl}{c:Nat}{r:Rec}(h:V.room c r=true):r.may=true∧(V.s c).e≤1073741824∧V.endOf c+(encL r).length≤1016:=by
 unfold Vl.room at h;rw[Bool.and_eq_true]at h;have h2:=(qI _ _).mp h.2;exact⟨h.1,by omega,by omega⟩
end Gd
section
variable {R:RvB} {V:Gd.Vl} {w w':World}
theorem Zl(h:RvC R V w)(hok:V.Ok)(hn:V.n≤900000):
 Calls prog 39 #[.pointer (some ⟨R.r,0,none⟩)] w fun e w'=>e= .returned (.int .i64 (if(V.recov 8).2 then 0 else 1))∧RvC R (V.recov 8).1 w'∧zi R.has w w':=by
 have H:=hid h;have HOk:=hid hok;obtain⟨E,hE⟩:∃E:Int,E=(if(V.recov 8).2 then 0 else 1):=⟨_,rfl⟩;rw[←hE];have HE:=hid hE;clear h hok hE;go_enter func39,ntmps39;go_upto_region 2 with fail
 go_loopw[3] (fun z wr=>∃k:Nat,z= .int .i64 ((k:Int)+1)∧k≤8∧Hid ((V.recov k).2=true)∧Hid (RvC R (V.recov k).1 wr∧zi R.has w wr)) (fun z _=>9-(intOf z).toNat)
 case atStart=>exact⟨0,rfl,by omega,hid rfl,hid ⟨H.o,zi.refl _ _⟩⟩
 case round=>
  obtain⟨k,rfl,hk,HT,HV⟩:=hrel;by_cases hlt:k<8
  ·have h1:(k:Int)+1≤8:=by omega
   have hn1:=V.recov_n k;have hn2:=(V.recov k).1.take_n (k+1);have hokt:=(HOk.o.recov k (by omega)).take (c:=k+1) (by omega) (by omega);have HTk:=hid (uP HV.o.1 (HOk.o.recov k (by omega)) ((k:Int)+1) k rfl hlt (by omega));have HFe:=hid (fun W (hW:RvC R ((V.recov k).1.take (k+1)) W)=>vP hW hokt (by omega) (k+1) (by omega) (by omega));have hsu:=V.recov_succ k HT.o;have HSu:=hid hsu;obtain⟨Vk,hVk⟩:=nm ((V.recov k).1.take (k+1));rw[←hVk]at HTk HFe HSu;have hlt8:=hid hlt;rw[show((k+1:Nat):Int)=(k:Int)+1 by omega]at HFe;clear hlt hn1 hn2 hsu hVk hokt;go_wp2_with fail
   refine HTk.o.mono ?_;rintro e w1 ⟨u,rfl,-,hv1,ho1⟩;have HO1:=hid (HV.o.2.trans ho1 fun _ _ e=>e);have HFf:=hid (HFe.o w1 hv1);clear hv1 ho1 HTk HFe;by_cases he:(Vk.s (k+1)).e<1073741824
   ·rw[if_pos he]at HFf;rw[decide_eq_true he]at HSu;clear he;go_wp2_with fail
    refine HFf.o.mono ?_;rintro e w2 ⟨rfl,hv2,ho2⟩;have HV2:=hid (And.intro hv2 (HO1.o.trans ho2 fun _ _ e=>e));clear hv2 ho2 HFf;go_wp2_with fail
    go_roundw
    case rel=>
     refine⟨k+1,by go_num,by have:=hlt8.o;omega,hid (by rw[HSu.o]),hid ?_⟩;rw[HSu.o];exact HV2.o
    case measure=>simp[intOf];have:=hlt8.o;omega
   ·rw[if_neg he]at HFf;rw[decide_eq_false he]at HSu;clear he;go_wp2_with fail
    refine HFf.o.mono ?_;rintro e w2 ⟨rfl,hv2,ho2⟩;have HV2:=hid (And.intro hv2 (HO1.o.trans ho2 fun _ _ e=>e));clear hv2 ho2 HFf;go_wp2_with fail
    go_ret
    have h8:=V.recov_stop (k:=k+1) (by rw[HSu.o]) (7-k);rw[show k+1+(7-k)=8 by have:=hlt8.o;omega,HSu.o]at h8;refine⟨by rw[HE.o,h8];rfl,?_⟩;rw[h8];exact HV2.o
  ·obtain rfl:k=8:=by omega
   clear hlt;go_wp2_with fail
   go_ret
   exact⟨by rw[HE.o,HT.o];rfl,HV.o⟩
theorem jW{fn:Func}{a b c d:Tmp}(h:fn.results=#[.tmp a,.tmp b,.tmp c,.tmp d])(tmps:Array Value)(P:Program)(w:World):(results fn tmps).run P w= .ok (.tuple #[tmps.getD a undef,tmps.getD b undef,tmps.getD c undef,tmps.getD d undef]) w:=by
 simp[results,h]
theorem JM(c:Int)(r:Gd.Rec)(hr:r.d.length≤1000)(hno:¬((1≤c∧c≤8)∧r.may=true))(q:Nat)(w:World):
 Calls prog 108 #[.pointer (some ⟨q,0,none⟩),.int .i64 c,qq r] w fun e w'=>e= .returned (.tuple #[.int .i64 0,.slice none 0 0,.int .i64 0,.bool false])∧Below w.heap.size w w':=by
 obtain⟨s8,hs8⟩:∃s:ByteArray,s=⟨r.d.toArray⟩:=⟨_,rfl⟩;have HEn:Hid (∀W,Calls prog 143 #[.agg #[.int .i64 r.call,.int .i64 r.inode,.bool r.tr,.int .i64 r.off,.string s8]] W fun e w'=>∃u,e= .returned (.tuple #[u,.int .i64 (if r.may then 0 else 1)])∧Below W.heap.size W w'):=hid fun W=>by
  rw[hs8];by_cases hm:r.may=true
  ·rw[hm];exact(ZU r hm W).mono fun e w' ⟨u,he,_,hb⟩=>⟨u,he,hb⟩
  ·rw[if_neg hm];exact(Ve r hr hm W).mono fun e w' ⟨he,hb⟩=>⟨_,he,hb⟩
 obtain⟨m,hm⟩:=nm r.may;rw[←hm]at HEn hno;unfold qq Fl.recV;rw[←hs8];obtain⟨rc,hrc⟩:=nm r.call;obtain⟨ri,hri⟩:=nm r.inode;obtain⟨rt,hrt⟩:=nm r.tr;obtain⟨ro,hro⟩:=nm r.off;rw[←hrc,←hri,←hrt,←hro]at HEn⊢;clear hs8 hm hrc hri hrt hro hr;obtain⟨w1,hw1⟩:=nm (w.alloc (.cells #[.int .i64 rc,.int .i64 ri,.bool rt,.int .i64 ro,.string s8] 57));obtain⟨b,hb⟩:=nm w.heap.size;have hb1:Below w.heap.size w w1:=by rw[hw1];exact(Below.refl _ _).alloc (Nat.le_refl _) _
 have hg1:w1.heap[b]? =some (.cells #[.int .i64 rc,.int .i64 ri,.bool rt,.int .i64 ro,.string s8] 57 (0,0)):=by rw[hw1,hb];exact heap_alloc_new _ _
 have HB1:=hid hb1;have HW1:=hid hw1.symm;have Hb:=hid hb.symm;have HE1:=hid (HEn.o w1);have k0:=cell_of_row w1 b 0 _ _ _ hg1;have k1:=cell_of_row w1 b 1 _ _ _ hg1;have k2:=cell_of_row w1 b 2 _ _ _ hg1;have k3:=cell_of_row w1 b 3 _ _ _ hg1;have k4:=cell_of_row w1 b 4 _ _ _ hg1;clear hw1 hb hb1 hg1 HEn
 cases m with
 |false=>
  rw[if_neg (by decide)]at HE1;clear hno;go_enter func108,ntmps108;go_upto_region 1 with fail
  rw[HW1.o,Hb.o];go_wp2_with fail
  refine HE1.o.mono ?_;rintro e w2 ⟨u,rfl,hb2⟩;have HB2:=HB1.t hb2;clear k0 k1 k2 k3 k4 hb2 HE1;go_wp2_with fail
  ((try simp only[Exit.inBlock,Exit.then]);refine bodyPost_ret (jW rfl _ _ _) rfl ?_)
  exact⟨rfl,HB2.o⟩
 |true=>
  rw[if_pos rfl]at HE1;by_cases h1:c<1
  ·clear hno;go_enter func108,ntmps108;go_upto_region 1 with fail
   rw[HW1.o,Hb.o];go_wp2_with fail
   refine HE1.o.mono ?_;rintro e w2 ⟨u,rfl,hb2⟩;have HB2:=HB1.t hb2;clear k0 k1 k2 k3 k4 hb2 HE1;go_wp2_with fail
   ((try simp only[Exit.inBlock,Exit.then]);refine bodyPost_ret (jW rfl _ _ _) rfl ?_)
   exact⟨rfl,HB2.o⟩
  ·have h8:8<c:=by
    apply Classical.byContradiction
    intro h;exact hno ⟨⟨by omega,by omega⟩,rfl⟩
   clear hno;go_enter func108,ntmps108;go_upto_region 1 with fail
   rw[HW1.o,Hb.o];go_wp2_with fail
   refine HE1.o.mono ?_;rintro e w2 ⟨u,rfl,hb2⟩;have HB2:=HB1.t hb2;clear k0 k1 k2 k3 k4 hb2 HE1;go_wp2_with fail
   ((try simp only[Exit.inBlock,Exit.then]);refine bodyPost_ret (jW rfl _ _ _) rfl ?_)
   exact⟨rfl,HB2.o⟩
def yP(V:Gd.Vl)(c:Nat)(r:Gd.Rec)(w:World)(e:Ending)(w':World):Prop:=
 if V.room c r=true then ∃u,e= .returned (.tuple #[.int .i64 ((8+V.endOf c:Nat):Int),u,.int .i64 (V.endV c r),.bool true])∧zA w' w.heap.size u (Gd.encL r)∧Below w.heap.size w w'
 else e= .returned (.tuple #[.int .i64 0,.slice none 0 0,.int .i64 0,.bool false])∧Below w.heap.size w w'
theorem ZV(h:RvC R V w)(hok:V.Ok)(c:Int)(d:Nat)(hcd:c=(d:Int)+1)(hd:d<8)(r:Gd.Rec)(hm:r.may=true):
 Calls prog 108 #[.pointer (some ⟨R.r,0,none⟩),.int .i64 c,qq r] w (yP V (d+1) r w):=by
 have hl:=hok.log (d+1) (by omega) (by omega);have hmy:=(hok.may (d+1) (by omega) (by omega)).e;have hel:=Gd.encL_length r;have hrd:=(Gd.may_rec hm).2.2.2.2.2.2;have hup:=Gd.up8_le (17+r.d.length);obtain⟨s8,hs8⟩:∃s:ByteArray,s=⟨r.d.toArray⟩:=⟨_,rfl⟩;have HEn:Hid (∀W,Calls prog 143 #[.agg #[.int .i64 r.call,.int .i64 r.inode,.bool r.tr,.int .i64 r.off,.string s8]] W fun e w'=>∃u,e= .returned (.tuple #[u,.int .i64 0])∧zA w' W.heap.size u (Gd.encL r)∧Below W.heap.size W w'):=hid fun W=>by
  rw[hs8];exact ZU r hm W
 unfold qq Fl.recV;rw[←hs8];obtain⟨A,hA⟩:=nm (yP V (d+1) r w);rw[←hA];obtain⟨rc,hrc⟩:=nm r.call;obtain⟨ri,hri⟩:=nm r.inode;obtain⟨rt,hrt⟩:=nm r.tr;obtain⟨ro,hro⟩:=nm r.off;rw[←hrc,←hri,←hrt,←hro]at HEn⊢;clear hs8 hrc hri hrt hro;obtain⟨w1,hw1⟩:=nm (w.alloc (.cells #[.int .i64 rc,.int .i64 ri,.bool rt,.int .i64 ro,.string s8] 57));obtain⟨b,hb⟩:=nm w.heap.size;have hb1:Below w.heap.size w w1:=by rw[hw1];exact(Below.refl _ _).alloc (Nat.le_refl _) _
 have hg1:w1.heap[b]? =some (.cells #[.int .i64 rc,.int .i64 ri,.bool rt,.int .i64 ro,.string s8] 57 (0,0)):=by rw[hw1,hb];exact heap_alloc_new _ _
 have HB1:=hid hb1;have HW1:=hid hw1.symm;have Hb:=hid hb.symm;have HE1:=hid (HEn.o w1);have H1:=hid (h.below hb1);have k0:=cell_of_row w1 b 0 _ _ _ hg1;have k1:=cell_of_row w1 b 1 _ _ _ hg1;have k2:=cell_of_row w1 b 2 _ _ _ hg1;have k3:=cell_of_row w1 b 3 _ _ _ hg1;have k4:=cell_of_row w1 b 4 _ _ _ hg1;have hwr:IntKind.i64.wrap (c-1)=(d:Int):=by rw[IntKind.wrap_i64];omega
 have hd1:(d:Int)<8:=by omega
 have hd0:(0:Int)≤d:=by omega
 have hc1:¬c<1:=by omega
 have hc8:¬8<c:=by omega
 have HD:=hid hd;have HL:=hid (And.intro hl (And.intro hmy hm));have HA:=hid hA;have HEl:Hid ((Gd.encL r).length≤200):=hid (by omega);clear hw1 hb hb1 hg1 HEn h hok hl hmy hel hrd hup hd hcd hA hm;go_enter func108,ntmps108;go_upto_region 1 with fail
 rw[HW1.o,Hb.o];go_wp2_with fail
 refine HE1.o.mono ?_;rintro e w2 ⟨u,rfl,ho2,hb2⟩;have HB2:=HB1.t hb2;have HO2:=hid ho2;have H2:=hid (H1.o.below hb2);obtain⟨A0,cu,rfl⟩:=qE ho2;obtain⟨ne,hne⟩:=nm ((Gd.encL r).length);rw[←hne]at HO2 HEl⊢;have HNe:=hid hne;clear k0 k1 k2 k3 k4 hb2 HE1 ho2 hne;obtain⟨c1,c2,c3,a0,-,-,a3,-⟩:=H2.o.c4;obtain⟨b0,-,-,-⟩:=H2.o.s2 HD.o;have g0:=H2.o.log HD.o;have HGt:=hid (yA _ (V.lg (d+1)) ((0:Nat):Int) 8 (Or.inr (Or.inr (Or.inr rfl))) (zu (by omega)) w2 (H2.o.bytes HD.o HL.o.1).at_ (by rw[HL.o.1];omega));obtain⟨gb,hgb⟩:=nm (Gd.getB (V.lg (d+1)) ((0:Nat):Int) 8);obtain⟨x,hx⟩:∃x:Nat,Gd.get (V.lg (d+1)) ((0:Nat):Int) 8=(x:Int)∧x<9223372036854775808∧x=Gd.endN (V.lg (d+1)):=by
  unfold Gd.endN;show ∃x:Nat,Gd.get (V.lg (d+1)) ((0:Nat):Int) 8=(x:Int)∧x<9223372036854775808∧x=(Gd.get (V.lg (d+1)) ((0:Nat):Int) 8).toNat
  unfold Gd.get;by_cases hg:Gd.getB (V.lg (d+1)) ((0:Nat):Int) 8=true
  ·have h63:Gd.getN (V.lg (d+1)) 0 8<9223372036854775808:=by
    unfold Gd.getB at hg;simp only[Bool.and_eq_true,decide_eq_true_eq]at hg;exact hg.2
   rw[if_pos hg];exact⟨Gd.getN (V.lg (d+1)) 0 8,rfl,h63,rfl⟩
  ·rw[if_neg hg];exact⟨0,rfl,by omega,rfl⟩
 obtain⟨hx1,hx2,hx3⟩:=hx;rw[hx1,←hgb]at HGt;obtain⟨p,hp⟩:=nm (x/4294967296);obtain⟨n,hn⟩:=nm (x % 4294967296);have hdv:(x:Int)/4294967296=(p:Int):=by omega
 have hrm:(x:Int) % 4294967296=(n:Int):=by omega
 have hp31:p<2147483648:=by omega
 obtain⟨e0,he0⟩:=nm ((V.s (d+1)).e);rw[←he0]at b0;obtain⟨en,hen⟩:=nm (V.endOf (d+1));have hen2:en=if gb=true∧p=e0 then n else 0:=by
  rw[hen,hgb,he0,hp,hn,hx3];rfl
 have HV:=hid (And.intro he0 hen);have hen32:en<4294967296:=by
  rw[hen2];split<;>omega
 have hnb:n<4294967296:=by omega
 clear hgb hx1 hx2 hx3 hp hn he0 hen;go_upto_region 6 with(go_at_call 66;refine HGt.o.mono ?_;rintro e w3 ⟨rfl,rfl⟩)
 obtain⟨w4,rfl⟩:=nm w3;obtain⟨qb,hqb⟩:=nm ((gb&&decide (p=e0)));have hen3:en=if qb=true then n else 0:=by
  rw[hen2,hqb];by_cases h1:gb=true∧p=e0
  ·rw[if_pos h1,if_pos (by rw[h1.1,decide_eq_true h1.2];rfl)]
  ·rw[if_neg h1,if_neg fun h=>h1 (by rw[Bool.and_eq_true,decide_eq_true_eq]at h;exact h)]
 clear a3 g0 HGt;go_cut[57] from 43 to 58 (fun z wx=>z= .bool qb∧wx=w4)
 case first=>
  cases gb with
  |false=>
   subst hqb;go_wp2_with fail
   go_meet
   exact⟨rfl,rfl⟩
  |true=>
   by_cases hpe:p=e0
   ·have hpb:((p:Int)==(e0:Int))=true:=by rw[hpe];simp
    rw[decide_eq_true hpe]at hqb;subst hqb;clear hpe;go_wp2_with fail
    go_meet
    exact⟨rfl,rfl⟩
   ·have hpb:((p:Int)==(e0:Int))=false:=by
     rw[beq_eq_false_iff_ne];omega
    rw[decide_eq_false hpe]at hqb;subst hqb;clear hpe;go_wp2_with fail
    go_meet
    exact⟨rfl,rfl⟩
 case rest=>
 obtain⟨rfl,hwc⟩:=hcut;subst wc;clear hqb hen2;go_upto_if 57 with fail
 go_cut[12] from 58 to 60 (fun z wx=>z= .int .i64 en∧wx=w4)
 case first=>
  cases qb with
  |true=>
   rw[if_pos rfl]at hen3;go_wp2_with fail
   go_meet
   exact⟨by rw[hen3];first|rfl|rw[hrm],rfl⟩
  |false=>
   rw[if_neg (by decide)]at hen3;subst hen3;go_wp2_with fail
   go_meet
   exact⟨rfl,rfl⟩
 case rest=>
 obtain⟨rfl,hwc⟩:=hcut;subst wc;clear hen3 hnb hdv hrm hp31;have HEn:=hid (ZT (e0:Int) ((en:Int)+ne) (zu (by have:=HL.o.2.1;have:=HV.o.1;omega)) (by
  have:=zu (n:=en+ne) (by have:=HEl.o;omega)
  rw[show((en+ne:Nat):Int)=(en:Int)+ne by omega]at this;exact this) w4)
 have hne:=HEl.o;have hRm:V.room (d+1) r=Gd.endB e0 ((en:Int)+ne):=by
  unfold Gd.Vl.room;rw[HL.o.2.2,Bool.true_and,←HV.o.1,←HV.o.2,←HNe.o,show((en+ne:Nat):Int)=(en:Int)+ne by omega]
 obtain⟨zv,hzv⟩:=nm ((if Gd.endB e0 ((en:Int)+ne)then(e0:Int)*4294967296+((en:Int)+ne)else-1));rw[←hzv]at HEn;by_cases hrm:Gd.endB e0 ((en:Int)+ne)=true
 ·rw[if_pos hrm]at hzv;have hz0:¬zv<0:=by omega
  have hRt:V.room (d+1) r=true:=hRm.trans hrm;have HZv:Hid (zv=((V.endV (d+1) r:Nat):Int)):=hid (by
   rw[hzv];unfold Gd.Vl.endV;rw[←HV.o.1,←HV.o.2,←HNe.o];omega)
  have HRt:=hid hRt;clear hzv hRm hrm hRt;go_wp2_with(go_at_call 144;(with_reducible refine HEn.o.mono ?_);rintro e w5 ⟨rfl,rfl⟩)
  ((try simp only[Exit.inBlock,Exit.then]);refine bodyPost_ret (jW rfl _ _ _) rfl ?_)
  rw[HA.o];unfold yP;rw[if_pos HRt.o,←HV.o.2,←HZv.o];refine⟨.slice A0 ne cu,?_,?_,HB2.o⟩
  ·rw[show((8+en:Nat):Int)=8+(en:Int) by omega];rfl
  ·have:=HO2.o
   rw[HNe.o]at this⊢;exact this.mono HB1.o.size
 ·rw[if_neg hrm]at hzv;subst hzv;have hRt:¬V.room (d+1) r=true:=by rw[hRm];exact hrm
  have HRt:=hid hRt;clear hRm hrm hRt;go_wp2_with(go_at_call 144;(with_reducible refine HEn.o.mono ?_);rintro e w5 ⟨rfl,rfl⟩)
  ((try simp only[Exit.inBlock,Exit.then]);refine bodyPost_ret (jW rfl _ _ _) rfl ?_)
  rw[HA.o];unfold yP;rw[if_neg HRt.o];exact⟨rfl,HB2.o⟩
end
end
section
open Go.Shelf
attribute [local go_sem] Oper.semAt_some
structure Dd where
 kd:Int
 cl:Int
 r:Gd.Rec
 e:Int
 h:Int
 rp:Int
 ke:Int
 ki:Int
 wr:Int
 pA:Option Addr
 pn:Nat
 pc:Nat
def ddC(d:Dd):Array Value:=#[.int .i64 d.kd,.int .i64 d.cl,.int .i64 d.r.call,.int .i64 d.r.inode,.bool d.r.tr,.int .i64 d.r.off,.string ⟨d.r.d.toArray⟩,.int .i64 d.e,.int .i64 d.h,.int .i64 d.rp,.int .i64 d.ke,.int .i64 d.ki,.int .i64 d.wr,.slice d.pA d.pn d.pc]
def Dd.cut(d:Dd):Dd:={d with r:={d.r with d:=d.r.d.take 80},pn:=min d.pn 300}
theorem qs(d:Dd):(ddC d).all (·.oneCell')=true:=by
 refine all_oneCell_toArray fun v hv=> ?_;simp only[List.mem_cons,List.mem_nil_iff,or_false]at hv;rcases hv with rfl|rfl|rfl|rfl|rfl|rfl|rfl|rfl|rfl|rfl|rfl|rfl|rfl|rfl<;>rfl
theorem sizeDd:(prog.info? 60).map (fun i=>i.size)=some 14:=by kernel_rfl
def ddZ:Array Value:=#[.int .i64 0,.int .i64 0,.int .i64 0,.int .i64 0,.bool false,.int .i64 0,.string ⟨#[]⟩,.int .i64 0,.int .i64 0,.int .i64 0,.int .i64 0,.int .i64 0,.int .i64 0,.slice none 0 0]
theorem jF{w:World}{b t:Nat}{C:Array Value}(h:w.heap[b]? =some (.cells C t (0,0))):w.rangeAt b 0 C.toList:=fun j v hj=>by
 rw[Nat.zero_add];exact(cell_of_row w b j _ _ _ h).trans (by simpa using hj)
theorem VG(l:List UInt8)(h:80≤l.length):(⟨l.toArray⟩:ByteArray).extract 0 80=⟨(l.take 80).toArray⟩:=va (by
 rw[Lib.extract_data];show(l.drop 0).take (80-0)=l.take 80
 rw[List.drop_zero])
def DcI(w:World)(b:Nat)(d:Dd)(a:World):Prop:=Below w.heap.size w a∧a.heap[b]? =some (.cells (ddC d) 60 (0,0))∧a.heap[b+1]? =some (.cells ddZ 60 (0,0))
theorem DcI.turn{w a:World}{b i:Nat}{d d':Dd}{v:Value}(h:DcI w b d a)(hb:b=w.heap.size)(hC:ddC d'=(ddC d).setIfInBounds i v):DcI w b d' (a.setCell ⟨b,i,none⟩ v):=by
 obtain⟨h1,h2,h3⟩:=h;refine⟨h1.setCell (by show w.heap.size≤b;omega) v,?_,?_⟩
 ·rw[hC];exact Go.heap_setCell_same a b i _ _ _ h2
 ·exact(Go.heap_setCell_other a ⟨b,i,none⟩ (b+1) v fun e=>by have e2:b+1=b:=e;omega).trans h3
theorem qk(d:Dd)(w:World)(hpc:d.pn≤d.pc)(hpl:d.pc≤9223372036854775807)(hdl:d.r.d.length≤9223372036854775807):Calls prog 21 #[.agg (ddC d)] w fun e w'=>e= .returned (.agg (ddC d.cut))∧Below w.heap.size w w':=by
 obtain⟨b,hb⟩:=nm w.heap.size;obtain⟨w2,hw2⟩:=nm ((w.alloc (.cells (ddC d) 60)).alloc (.cells ddZ 60));have hb1:Below w.heap.size w (w.alloc (.cells (ddC d) 60)):=(Below.refl _ _).alloc (Nat.le_refl _) _;have hb2:Below w.heap.size w w2:=by rw[hw2];exact hb1.alloc hb1.size _
 have hg2:w2.heap[b+1]? =some (.cells ddZ 60 (0,0)):=by
  rw[hw2,hb];have:=heap_alloc_new (w.alloc (.cells (ddC d) 60)) (.cells ddZ 60)
  simpa using this
 have hr2:w2.heap[b]? =some (.cells (ddC d) 60 (0,0)):=by
  rw[hw2,hb];exact(((Below.refl _ _).alloc (Nat.le_refl _) _).block w.heap.size (by simp)).trans (heap_alloc_new w _)
 have HW2:=hid hw2.symm;have Hb:=hid hb.symm;have HI2:Hid (DcI w b d w2):=hid ⟨hb2,hr2,hg2⟩;have HBe:=hid hb;have c6:=cell_of_row w2 b 6 _ _ _ hr2;have f6:=frozen_of_row w2 b 6 _ _ hr2;unfold ddC ddZ at HW2;clear hw2 hb hb1 hb2 hg2 hr2;go_enter func21,ntmps21;unfold ddC;go_upto_region 1 with fail
 rw[HW2.o,Hb.o];obtain⟨s8,hs8⟩:∃s:ByteArray,s=⟨d.r.d.toArray⟩:=⟨_,rfl⟩;have hsz:s8.size=d.r.d.length:=by rw[hs8];show d.r.d.toArray.size=_;rw[List.size_toArray]
 have c6':w2.cell? ⟨b,6,none⟩=some (.string s8):=by rw[hs8];exact c6
 have HS8:=hid (And.intro hs8 hsz);clear c6 hs8 hsz;go_upto_if 7 with fail
 obtain⟨q,hq⟩:=nm (decide ((80:Int)<s8.size));rw[←hq];have HQ:=hid hq;clear hq;go_cut[] from 8 to 14 (fun wx=>Hid (DcI w b {d with r:={d.r with d:=d.r.d.take 80}} wx))
 case first=>
  cases q with
  |true=>
   have h80i:(80:Int)<s8.size:=of_decide_eq_true HQ.o.symm;have h80j:(80:Int)≤s8.size:=by omega
   have HH:=hid h80i;go_wp2_with fail
   go_meet
   refine hid (HI2.o.turn HBe.o ?_);have h:=HS8.o;have hh:=HH.o;have hl:=h.2;rw[h.1,VG d.r.d (by omega)];rfl
  |false=>
   have h80i:¬(80:Int)<s8.size:=of_decide_eq_false HQ.o.symm;have HE:Hid (d.r.d.take 80=d.r.d):=hid (List.take_of_length_le (by have:=HS8.o.2;omega));go_wp2_with fail
   go_meet
   rw[HE.o];exact HI2
 case rest=>
 obtain⟨w3,rfl⟩:=nm wc;have HI3:=hcut;clear c6' f6 HQ;have c13:=cell_of_row w3 b 13 _ _ _ HI3.o.2.1;have f13:=frozen_of_row w3 b 13 _ _ HI3.o.2.1;have c13':w3.cell? ⟨b,13,none⟩=some (.slice d.pA d.pn d.pc):=c13;clear c13;go_upto_if 17 with fail
 obtain⟨q2,hq⟩:=nm (decide ((300:Int)<d.pn));rw[←hq];have HQ:=hid hq;clear hq;go_cut[] from 18 to 22 (fun wx=>Hid (DcI w b d.cut wx))
 case first=>
  cases q2 with
  |true=>
   have h300i:(300:Int)<d.pn:=of_decide_eq_true HQ.o.symm;have h300j:(300:Int)≤d.pc:=by omega
   have HH:=hid h300i;go_wp2_with fail
   go_meet
   refine hid (HI3.o.turn HBe.o ?_);unfold Dd.cut;rw[show min d.pn 300=300 by have:=HH.o;omega];rfl
  |false=>
   have h300i:¬(300:Int)<d.pn:=of_decide_eq_false HQ.o.symm;have HE:Hid (min d.pn 300=d.pn):=hid (by omega);go_wp2_with fail
   go_meet
   unfold Dd.cut;rw[HE.o];exact HI3
 case rest=>
 obtain⟨w4,rfl⟩:=nm wc;have HI4:=hcut;have hrow:=jF HI4.o.2.1;clear c13' f13;go_wp2_with(first|(refine wpList_load_mid rfl 60 _ rfl b 0 rfl (ddC d.cut).toList _ hrow underlying60 rfl sizeDd ?_)|(refine wpList_store_mid rfl 60 _ _ rfl (b+1) 0 (ddC d.cut) rfl rfl (zf HI4.o.2.2 rfl) sizeDd (qs _) ?_;obtain⟨hbw,hbg⟩:=zh HI4.o.2.2 (vs:=(ddC d.cut).toList) (B:=w.heap.size) rfl (by have:=HBe.o;omega);generalize (World.setCells _ _ _ _)=wf at hbw hbg⊢))
 refine bodyPost_ret (results_cell_row rfl _ _ (b+1) 60 (ddC d.cut) (0,0) _ rfl hbg underlying60 rfl sizeDd) rfl ?_;exact⟨rfl,HI4.o.1.trans hbw⟩
end
section
open Go.Shelf
attribute [local go_sem] Oper.semAt_some
namespace Gd
def Vl.appD(V:Vl)(cl:Int)(r:Rec):Vl:=if(1≤cl∧cl≤8)∧V.room cl.toNat r=true then(V.setLog cl.toNat (8+V.endOf cl.toNat) (encL r)).setLog cl.toNat 0 (le (V.endV cl.toNat r) 8)else V
theorem Vl.Ok.appD{V:Vl}(h:V.Ok)(cl:Int)(r:Rec):(V.appD cl r).Ok:=by
 unfold Vl.appD;split
 ·rename_i hh
  have:=(Vl.room_ok hh.2).2.2
  exact(h.setLog (by omega)).setLog (by rw[le_length];omega)
 ·exact h
theorem Vl.appD_n(V:Vl)(cl:Int)(r:Rec):(V.appD cl r).n=V.n:=by
 unfold Vl.appD;split<;>rfl
theorem put_le(n:Nat):put [] (n:Int) 8=le n 8:=by
 unfold put fitsB;rw[show(decide (0≤(n:Int))&&(decide (8=8)||decide ((n:Int)<((256^8:Nat):Int))))=true by simp];rfl
end Gd
theorem Qo{w:World}{B:Nat}{A:Option Addr}{cp n:Nat}{L:List UInt8}(h:zA w B (.slice A n cp) L)(hn:n=L.length):uB w A L:=by
 obtain⟨A',c',hv,hc⟩:=h.at_;have e1:A=A':=by injection hv
 subst e1;rcases hc with⟨_,h0,_⟩|hc
 ·exact Or.inl h0
 ·exact Or.inr hc
section
variable {o x t f K n p v r:Nat} {R:RvB} {V U:Gd.Vl} {w a b:World} {Ls:List (Nat×Obj)}
theorem Bv.lasting[zc](h:Bv o x t f R V U K w a Ls)(hok:V.Ok)(hp:(p,zo v r)∈Ls){c at_:Nat}(c1:1≤c)(c2:c≤8)(A:Option Addr)(L:List UInt8)(cp:Nat)(hb:uB a A L)(hap:L≠[]→∀g o,A=some ⟨g,o,none⟩→g<w.heap.size∨∃o',(g,o')∈Ls)(ha:at_+L.length≤1024)(hK:K<900000000000):
 Calls prog 13 #[.pointer (some ⟨p,0,none⟩),.int .i64 ((6784+(1024*(c-1)+at_):Nat):Int),.slice A L.length cp] a fun e b=>e= .returned (.tuple #[])∧Bv o x t f R (V.setLog c at_ L) U (K+20000) w b Ls:=by
 obtain⟨Lr,h1,h2,h3⟩:=h;refine(h2.lasting hok (List.mem_append_right _ hp) c1 c2 A L cp hb (fun h0 g o hA=>(hap h0 g o hA).imp id fun⟨o',ho⟩=>⟨o',List.mem_append_right _ ho⟩) ha hK).mono ?_
 rintro e b ⟨he,hv⟩;exact⟨he,Bv.carry h1 h2 h3 hv⟩
theorem Bv.append[zc](h:Bv o x t f R V V K w a [(p,zo o R.r)])(hok:V.Ok)(cl:Int)(r:Gd.Rec)(hr:r.d.length≤1000)(hK:K<800000000000):
 Calls prog 57 #[.pointer (some ⟨p,0,none⟩),.int .i64 cl,qq r] a fun e b=>e= .returned (.tuple #[])∧Bv o x t f R (V.appD cl r) (V.appD cl r) (K+40000) w b [(p,zo o R.r)]:=by
 obtain⟨s8,hs8⟩:∃s:ByteArray,s=⟨r.d.toArray⟩:=⟨_,rfl⟩;obtain⟨rm,hrm⟩:=nm (decide ((1≤cl∧cl≤8)∧V.room cl.toNat r=true));obtain⟨Bx,hBx⟩:∃C:Array Value,C=#[.int .i64 r.call,.int .i64 r.inode,.bool r.tr,.int .i64 r.off,.string s8]:=⟨_,rfl⟩;have HAp:Hid (∀W,RvC R V W→Calls prog 108 #[.pointer (some ⟨R.r,0,none⟩),.int .i64 cl,.agg #[.int .i64 r.call,.int .i64 r.inode,.bool r.tr,.int .i64 r.off,.string s8]] W fun e w'=>∃m u n':Value,e= .returned (.tuple #[m,u,n',.bool rm])∧Below W.heap.size W w'∧(rm=true→m= .int .i64 ((8+V.endOf cl.toNat:Nat):Int)∧n'= .int .i64 (V.endV cl.toNat r)∧zA w' W.heap.size u (Gd.encL r))):=hid fun W hW=>by
  rw[hs8];by_cases hin:(1≤cl∧cl≤8)∧r.may=true
  ·obtain⟨d,hd⟩:∃d:Nat,cl=(d:Int)+1:=⟨(cl-1).toNat,by omega⟩;have hcd:cl.toNat=d+1:=by omega
   refine(ZV hW hok cl d hd (by omega) r hin.2).mono ?_
   intro e w' he;unfold yP at he;rw[←hcd]at he;by_cases hro:V.room cl.toNat r=true
   ·rw[if_pos hro]at he;obtain⟨u,h1,h2,h3⟩:=he;rw[decide_eq_true ⟨hin.1,hro⟩]at hrm;rw[hrm];exact⟨_,u,_,h1,h3,fun _=>⟨rfl,rfl,h2⟩⟩
   ·rw[if_neg hro]at he;rw[decide_eq_false fun h=>hro h.2]at hrm;rw[hrm];exact⟨_,_,_,he.1,he.2,fun h=>by cases h⟩
  ·refine(JM cl r hr hin R.r W).mono ?_
   rintro e w' ⟨he,hb⟩;rw[decide_eq_false fun h=>hin ⟨h.1,(Gd.Vl.room_ok h.2).1⟩]at hrm;rw[hrm];exact⟨_,_,_,he,hb,fun h=>by cases h⟩
 unfold qq Fl.recV;rw[←hs8];have HRm:=hid hrm;have HE:Hid (rm=false→V.appD cl r=V):=hid fun h=>by
  unfold Gd.Vl.appD;rw[h]at hrm;rw[if_neg (of_decide_eq_false hrm.symm)]
 have HE2:Hid (rm=true→(1≤cl∧cl≤8)∧V.room cl.toNat r=true∧V.appD cl r=(V.setLog cl.toNat (8+V.endOf cl.toNat) (Gd.encL r)).setLog cl.toNat 0 (Gd.le (V.endV cl.toNat r) 8)):=hid fun h=>by
  rw[h]at hrm;have hh:=of_decide_eq_true hrm.symm;unfold Gd.Vl.appD;rw[if_pos hh];exact⟨hh.1,hh.2,rfl⟩
 obtain⟨rc,hrc⟩:=nm r.call;obtain⟨ri,hri⟩:=nm r.inode;obtain⟨rt,hrt⟩:=nm r.tr;obtain⟨ro,hro⟩:=nm r.off;rw[←hrc,←hri,←hrt,←hro]at HAp⊢;obtain⟨w1,hw1⟩:=nm (a.alloc (.cells #[.int .i64 rc,.int .i64 ri,.bool rt,.int .i64 ro,.string s8] 57));obtain⟨bb,hbb⟩:=nm a.heap.size;have hb1:Below a.heap.size a w1:=by rw[hw1];exact(Below.refl _ _).alloc (Nat.le_refl _) _
 have hg1:w1.heap[bb]? =some (.cells #[.int .i64 rc,.int .i64 ri,.bool rt,.int .i64 ro,.string s8] 57 (0,0)):=by rw[hw1,hbb];exact heap_alloc_new _ _
 have hB1:=(h.below hb1).below (Below.refl _ _).drew;have HBv:=hid hB1;have HA1:=hid (HAp.o w1.drew hB1.ref);have hpg:=hB1.get (k:=p) (List.mem_singleton.2 rfl);have hlt:=And.intro (za hpg) (show bb<w1.drew.heap.size from za hg1);have hS:∀W:World,Below w1.drew.heap.size w1.drew W→W.cell? ⟨p,2,none⟩=some (.pointer (some ⟨R.r,0,none⟩))∧W.cell? ⟨bb,0,none⟩=some (.int .i64 rc)∧W.cell? ⟨bb,1,none⟩=some (.int .i64 ri)∧W.cell? ⟨bb,2,none⟩=some (.bool rt)∧W.cell? ⟨bb,3,none⟩=some (.int .i64 ro)∧W.cell? ⟨bb,4,none⟩=some (.string s8):=fun W hW=>by
  have e1:=(hW.block p hlt.1).trans hpg;have e2:W.heap[bb]? =some (.cells #[.int .i64 rc,.int .i64 ri,.bool rt,.int .i64 ro,.string s8] 57 (0,0)):=(hW.block bb hlt.2).trans hg1;exact⟨(zl e1).2.2,cell_of_row W bb 0 _ _ _ e2,cell_of_row W bb 1 _ _ _ e2,cell_of_row W bb 2 _ _ _ e2,cell_of_row W bb 3 _ _ _ e2,cell_of_row W bb 4 _ _ _ e2⟩
 have hs0:=hS w1.drew (Below.refl _ _);have HS:=hid hS;have HW1:=hid hw1.symm;have Hbb:=hid hbb.symm;have HOk:=hid hok;have HK:=hid hK;clear h hok hrm hBx hs8 hrc hri hrt hro hw1 hbb hb1 hg1 hB1 hpg hlt hS HAp hr hK;go_enter func57,ntmps57;go_upto_region 1 with fail
 rw[HW1.o,Hbb.o];refine wp_region_held_drew (S:=(fun W=>W.cell? ⟨p,2,none⟩=some (.pointer (some ⟨R.r,0,none⟩))∧W.cell? ⟨bb,0,none⟩=some (.int .i64 rc)∧W.cell? ⟨bb,1,none⟩=some (.int .i64 ri)∧W.cell? ⟨bb,2,none⟩=some (.bool rt)∧W.cell? ⟨bb,3,none⟩=some (.int .i64 ro)∧W.cell? ⟨bb,4,none⟩=some (.string s8))) (by kernel_rfl) ?_ (fun hHeld=> ?_)
 ·exact hs0
 refine tk 0 ?_;refine tk 1 ?_;refine tk 2 ?_;refine tk 3 ?_;refine tk 4 ?_;refine tk 5 ?_;refine rd 6 (fun K hK=> ?_);go_simp
 refine HA1.o.mono ?_;rintro e w2 ⟨m,u,n',rfl,hb2,hgo⟩;have HB2:=hid hb2;have HGo:=hid hgo;have hs1:=HS.o w2 hb2;clear hb2 hgo;try dsimp only
 refine hK.o _ _ hs1 (fun hHeld=> ?_);clear hK K;try simp only[put]
 refine tk 7 ?_;refine tk 8 ?_;refine tk 9 ?_;refine tk 10 ?_;refine tk 11 ?_;refine tk 12 ?_;refine tk 13 ?_;refine tk 14 ?_;refine tk 15 ?_;refine dn ?_
 (try simp only[Exit.then])
 obtain⟨q2,-,-,-,-,-⟩:=hs1;clear hs0 HS HA1
 cases rm with
 |false=>
  have HN:=hid (HBv.o.below HB2.o);clear q2;go_wp2_with fail
  ((try simp only[Exit.inBlock,Exit.then]);refine bodyPost_ret (results_none rfl _ _ _) rfl ?_)
  rw[HE.o trivial];exact⟨rfl,HN.o.more (by omega)⟩
 |true=>
  obtain⟨rfl,rfl,ho2⟩:=HGo.o rfl;obtain⟨hcl,hro,hEq⟩:=HE2.o rfl;obtain⟨d,hd⟩:∃d:Nat,cl=(d:Int)+1:=⟨(cl-1).toNat,by omega⟩;have hcd:cl.toNat=d+1:=by omega
  have hd8:d<8:=by omega
  rw[hcd]at hro hEq⊢;obtain⟨-,hE30,hr16⟩:=Gd.Vl.room_ok hro;obtain⟨en,hen⟩:=nm (V.endOf (d+1));obtain⟨ev,hev⟩:=nm (V.endV (d+1) r);have hev63:ev<9223372036854775808:=by
   rw[hev];unfold Gd.Vl.endV;omega
  obtain⟨L,hL⟩:=nm (Gd.encL r);rw[←hL]at hr16 ho2 hEq;rw[←hen]at hr16 hEq⊢;rw[←hev]at hEq⊢;have HEq:=hid hEq;obtain⟨A,cu,rfl⟩:=qE ho2;obtain⟨Lu,hu1,hu2,hu3,hu4⟩:=xB ho2;have hN:=HBv.o.news HB2.o (Lu:=Lu) fun q hq=>⟨(hu1 q hq).1,(hu1 q hq).2.1⟩;have HN:=hid hN;have HUn:Hid (∀q∈Lu++[(p,zo o R.r)],¬R.has q.1):=hid fun q hq hR=>by
   rcases List.mem_append.1 hq with hq|hq
   ·have h1:=(hu1 q hq).1;have h2:=HBv.o.ref.lt hR;omega
   ·rw[List.mem_singleton.1 hq]at hR;exact hN.apart (List.mem_append_right _ (List.mem_singleton.2 rfl)) hR
  have HOn:Hid (∀W,(∀q∈Lu,W.heap[q.1]? =some q.2)→zA W w1.drew.heap.size (.slice A L.length cu) L):=hid hu4;have HU2:Hid (∀g o',A=some ⟨g,o',none⟩→∃ob,(g,ob)∈Lu):=hid fun g o' e=>by
   obtain⟨C,hC⟩:=hu2 g (by rw[e];rfl);exact⟨_,hC⟩
  have HLa:=hid (hN.lasting (at_:=8+en) (c:=d+1) HOk.o (List.mem_append_right _ (List.mem_singleton.2 rfl)) (by omega) (by omega) A L cu (Qo ho2 rfl) (fun _ g o' e=>by
   obtain⟨ob,h⟩:=HU2.o g o' e;exact Or.inr ⟨_,List.mem_append_left _ h⟩) (by omega) (by have:=HK.o;omega))
  rw[show((6784+(1024*(d+1-1)+(8+en)):Nat):Int)=6784+1024*(d:Int)+(8+(en:Int)) by omega]at HLa;have HR:=hid (And.intro hd8 (And.intro hr16 hd));have hwr:IntKind.i64.wrap (cl-1)=(d:Int):=by rw[IntKind.wrap_i64];omega
  have hd1:(d:Int)<8:=by omega
  have hd0:(0:Int)≤d:=by omega
  have hen2:(en:Int)≤1016:=by omega
  have HEv:=hid hev63;rw[show((8+en:Nat):Int)=8+(en:Int) by omega];clear hcl hro hEq hcd hE30 hr16 hen hev hL ho2 hu1 hu2 hu3 hu4 hN hev63 hd hd8;go_wp2_with fail
  with_reducible refine HLa.o.mono ?_
  rintro e w3 ⟨rfl,h3⟩;have HOk1:Hid ((V.setLog (d+1) (8+en) L).Ok):=hid (HOk.o.setLog (by have:=HR.o.2.1;omega));have HB3:=hid h3;have HO3:=hid (HOn.o w3 fun q hq=>h3.get (List.mem_append_left _ hq));have q3:=(zl (h3.get (k:=p) (List.mem_append_right _ (List.mem_singleton.2 rfl)))).2.2;have hWr:=vO h3.ref HOk.o cl d HR.o.2.2 HR.o.1 (8+en) (.slice A L.length cu) L HO3.o.at_ (fun g hg hR=>by
   obtain⟨g',o',e⟩:∃g' o',A=some ⟨g',o',none⟩:=by
    obtain⟨A',c',hv,hc⟩:=HO3.o.at_;have e1:A=A':=by injection hv
    subst e1;rcases hc with⟨e,_⟩|⟨b',o',e,_⟩
    ·rw[e]at hg;cases hg
    ·exact⟨b',o',e⟩
   rw[e]at hg;have e2:g'=g:=by injection hg
   obtain⟨ob,hob⟩:=HU2.o g' o' e;exact HUn.o _ (List.mem_append_left _ hob) (by rw[e2];exact hR)) (by have:=HR.o.2.1;omega)
  rw[show((8+en:Nat):Int)=8+(en:Int) by omega]at hWr;have HWr:=hid hWr;clear h3 q2 HLa hWr;go_wp2_with fail
  with_reducible refine HWr.o.mono ?_
  rintro e w4 ⟨rfl,hC4,hO4⟩;have HB4:=hid (HB3.o.turn hO4 hC4 HUn.o);have HPt:=hid (ZS (.slice none 0 0) [] (ev:Int) 8 (Or.inr (Or.inr (Or.inr rfl))) (zu (by have:=HEv.o;omega)) w4 ⟨none,0,rfl,Or.inl ⟨rfl,rfl,rfl⟩⟩ (by simp));rw[Gd.put_le]at HPt;clear hC4 hO4 q3 HWr;go_wp2_with fail
  refine HPt.o.mono ?_;rintro e w5 ⟨u5,rfl,ho5,hb5⟩;have hl5:(Gd.le ev 8).length=8:=Gd.le_length _ _;obtain⟨A5,cu5,rfl⟩:=qE ho5;obtain⟨Lw,hu1,hu2,hu3,hu4⟩:=xB ho5;have hN:=(HB4.o.less (Ls':=[(p,zo o R.r)]) fun q hq=>List.mem_append_right _ hq).news hb5 (Lu:=Lw) fun q hq=>⟨(hu1 q hq).1,(hu1 q hq).2.1⟩;have HUn5:Hid (∀q∈Lw++[(p,zo o R.r)],¬R.has q.1):=hid fun q hq hR=>by
   rcases List.mem_append.1 hq with hq|hq
   ·have h1:=(hu1 q hq).1;have h2:=HB4.o.ref.lt hR;omega
   ·rw[List.mem_singleton.1 hq]at hR;exact hN.apart (List.mem_append_right _ (List.mem_singleton.2 rfl)) hR
  have HOn5:Hid (∀W,(∀q∈Lw,W.heap[q.1]? =some q.2)→zA W w4.heap.size (.slice A5 (Gd.le ev 8).length cu5) (Gd.le ev 8)):=hid hu4;have HU5:Hid (∀g o',A5=some ⟨g,o',none⟩→∃ob,(g,ob)∈Lw):=hid fun g o' e=>by
   obtain⟨C,hC⟩:=hu2 g (by rw[e];rfl);exact⟨_,hC⟩
  have HLb:=hid (hN.lasting (at_:=0) (c:=d+1) HOk1.o (List.mem_append_right _ (List.mem_singleton.2 rfl)) (by omega) (by have:=HR.o.1;omega) A5 (Gd.le ev 8) cu5 (Qo ho5 rfl) (fun _ g o' e=>by
   obtain⟨ob,h⟩:=HU5.o g o' e;exact Or.inr ⟨_,List.mem_append_left _ h⟩) (by omega) (by have:=HK.o;omega))
  rw[show((6784+(1024*(d+1-1)+0):Nat):Int)=6784+1024*(d:Int) by omega]at HLb;obtain⟨Lv,hLv⟩:=nm (Gd.le ev 8);rw[←hLv]at HLb hl5 HOn5 HEq⊢;rw[hl5]at HLb;have HL5:=hid hl5;clear hu1 hu2 hu3 hu4 hN ho5 hb5 HPt hLv;go_wp2_with fail
  with_reducible refine HLb.o.mono ?_
  rintro e w6 ⟨rfl,h6⟩;have HB6:=hid h6;have HO6:=hid (HOn5.o w6 fun q hq=>h6.get (List.mem_append_left _ hq));have q6:=(zl (h6.get (k:=p) (List.mem_append_right _ (List.mem_singleton.2 rfl)))).2.2;have HWr6:=hid (vO h6.ref HOk1.o cl d HR.o.2.2 HR.o.1 0 (.slice A5 Lv.length cu5) Lv HO6.o.at_ (fun g hg hR=>by
   obtain⟨g',o',e⟩:∃g' o',A5=some ⟨g',o',none⟩:=by
    obtain⟨A',c',hv,hc⟩:=HO6.o.at_;have e1:A5=A':=by injection hv
    subst e1;rcases hc with⟨e,_⟩|⟨b',o',e,_⟩
    ·rw[e]at hg;cases hg
    ·exact⟨b',o',e⟩
   rw[e]at hg;have e2:g'=g:=by injection hg
   obtain⟨ob,hob⟩:=HU5.o g' o' e;exact HUn5.o _ (List.mem_append_left _ hob) (by rw[e2];exact hR)) (by omega))
  rw[HL5.o,show((0:Nat):Int)=0 from rfl]at HWr6;clear h6 HLb;go_wp2_with fail
  with_reducible refine HWr6.o.mono ?_
  rintro e w7 ⟨rfl,hC7,hO7⟩;have HB7:=hid (HB6.o.turn hO7 hC7 HUn5.o);clear hC7 hO7 q6 HWr6;go_wp2;go_end0
  refine⟨rfl,?_⟩;rw[HEq.o];exact(HB7.o.less fun q hq=>List.mem_append_right _ hq).more (by omega)
end
end
end Go.Proofs.YtccpdkjonepoiaaGreatDoor
