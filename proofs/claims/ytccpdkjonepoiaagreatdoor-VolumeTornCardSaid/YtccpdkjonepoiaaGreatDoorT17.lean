/- Walks: plog.Redo's closure, over any patches. -/
import Derived.Test.YtccpdkjonepoiaaGreatDoorT16
set_option linter.unusedVariables false
set_option linter.unusedSimpArgs false
set_option linter.unusedSectionVars false
set_option maxHeartbeats 8000000
set_option maxRecDepth 100000
namespace Go.Proofs.YtccpdkjonepoiaaGreatDoor
open Go.RowKit
open Lib(hid)
open Go.Proofs.Tryz
section
open Go.Shelf
attribute [local go_sem] Oper.semAt_some
theorem JS{m sb lb ab n K:Nat}{S:List UInt8}(a:Nat)(v:Value)(b:List UInt8)(w:World)(h:qm w m sb lb ab n S K)(hb:zr w v b)(ha:a<4294967296)(hk:b.length≤100000)(hak:S.length<a+b.length):
 Calls prog 25 #[.pointer (some ⟨m,0,none⟩),.int .i64 a,v] w fun e w'=>e= .returned (.int .i64 1)∧w'=w:=by
 obtain⟨A,c,rfl,hA⟩:=hb;have HW:=hid (j6 (a:Int) (b.length:Int) (zu (by omega)) (zu (by omega)) w h);have hwb:(decide (0≤(a:Int))&&(decide (0≤(b.length:Int))&&decide ((a:Int)+(b.length:Nat)≤S.length)))=false:=by
  rw[Bool.eq_false_iff];intro e;simp only[Bool.and_eq_true,decide_eq_true_eq]at e;omega
 rw[hwb]at HW;obtain⟨N,hN⟩:=nm b.length;rw[←hN]at HW hak hk⊢;clear h hA hN hwb hak;go_enter func25,ntmps25;go_wp2_with(go_at_call 68;refine HW.o.mono ?_;rintro e w2 ⟨rfl,rfl⟩)
 go_ret
 exact⟨rfl,rfl⟩
theorem JT{m sb lb ab n K:Nat}{S:List UInt8}(a:Nat)(v:Value)(b:List UInt8)(w:World)(h:qm w m sb lb ab n S K)(hb:zr w v b)(hap:∀q,v.ownBlock=some q→q≠sb∧q≠ab)(ha:a<4294967296)(hk:b.length≤100000):
 Calls prog 25 #[.pointer (some ⟨m,0,none⟩),.int .i64 a,v] w fun e w'=>∃(E:Int) (S2:List UInt8),e= .returned (.int .i64 E)∧(E=0→a+b.length≤S.length)∧S2.length=S.length∧zZ w' m sb lb ab n S2 K (fun j=>E=0∧jL a b.length j)∧zi (fun k=>k=sb∨k=ab) w w':=by
 by_cases hf:a+b.length≤S.length
 ·refine(xR a v b w h hb hap hf hk).mono ?_
  rintro e w' ⟨rfl,hM,hO⟩;exact⟨0,_,rfl,fun _=>hf,Gd.splice_length hf,hM.wide fun j _ e=>⟨rfl,e.elim (fun e=>e.elim) id⟩,hO⟩
 ·refine(JS a v b w h hb ha hk (by omega)).mono ?_
  rintro e w' ⟨rfl,rfl⟩;exact⟨1,S,rfl,fun e=>absurd e (by decide),rfl,h.wide fun j _ e=>e.elim,zi.refl _ _⟩
theorem Q4{g m sb lb ab n Kn B bm bl c:Nat}{S:List UInt8}(v:Value)(P:List Gd.Pa)(w:World)(h:qm w m sb lb ab n S Kn)(hL:zW w g m 2688 4096)(hB:yN m sb lb ab g B)(hv:JC w v P)(hvb:∀q,v.ownBlock=some q→B≤q∧q≠bm)(hp2:∀p∈P,Gd.PaMay p)(hn:P.length≤64)
 (hbm:zd w bm 3 #[.int .i64 c])(hbl:zd w bl 102 #[.pointer (some ⟨g,0,none⟩)])(hm:B≤bm∧B≤bl∧bl≠bm)(hc:c≤1000)(hK:Kn<800000000000):
 Calls prog 86 #[v,.pointer (some ⟨bm,0,none⟩),.pointer (some ⟨bl,0,none⟩)] w fun e w'=>e= .returned (.tuple #[])∧(∃S2:List UInt8,S2.length=S.length∧qm w' m sb lb ab n S2 (Kn+20000*P.length))∧zi (fun k=>zL sb lb ab k∨k=bm) w w'∧zd w' bm 3 #[.int .i64 (c+1:Nat)]:=by
 obtain⟨A,cap,rfl,hrow⟩:=hv;have x0:=cell_of_row w bm 0 _ _ _ hbm;have x1:=frozen_of_row w bm 0 _ _ hbm;obtain⟨w1,hw1⟩:=nm (w.setCell ⟨bm,0,none⟩ (.int .i64 ((c:Int)+1)));have hO1:zi (fun k=>k=bm) w w1:=by rw[hw1];exact zq w _ _ rfl
 have hM1:qm w1 m sb lb ab n S Kn:=h.keep fun k hk=>hO1.block k (h.lts k hk) fun e=>by
  subst e;rcases hk with e|e|e|e
  ·have:=hB.m;omega
  ·have:=hB.sb;omega
  ·have:=hB.lb;omega
  ·have:=hB.ab;omega
 have hL1:zW w1 g m 2688 4096:=hL.keep hO1 fun e=>by have:=hB.g;omega
 have hbl1:zd w1 bl 102 #[.pointer (some ⟨g,0,none⟩)]:=(hO1.block bl hbl.lt hm.2.2).trans hbl;have hbm1:zd w1 bm 3 #[.int .i64 (c+1:Nat)]:=by
  rw[hw1];exact Go.heap_setCell_same _ _ 0 _ _ _ hbm
 have hrow1:(A=none∧P=[])∨∃b,A=some ⟨b,0,none⟩∧b<w1.heap.size∧B≤b∧∀(k:Nat) (p:Gd.Pa),P[k]? =some p→w1.cell? ⟨b,k*2,none⟩=some (.int .i64 p.1)∧w1.cell? ⟨b,k*2+1,none⟩=some (.string ⟨p.2.toArray⟩):=by
  rcases hrow with h0|⟨b,rfl,hb,hcl⟩
  ·exact Or.inl h0
  ·obtain⟨h1,h2⟩:=hvb b rfl;exact Or.inr ⟨b,rfl,Nat.lt_of_lt_of_le hb hO1.size,h1,fun k p hp=>⟨(hO1.cell (p:=⟨b,k*2,none⟩) hb h2).trans (hcl k p hp).1,(hO1.cell (p:=⟨b,k*2+1,none⟩) hb h2).trans (hcl k p hp).2⟩⟩
 have HM1:=hid hM1;have HL1:=hid hL1;have Hbl:=hid hbl1;have Hbm:=hid hbm1;have HR:=hid hrow1;have HB:=hid hB;have Hm:=hid hm;have HP:=hid hp2;have HO1:=hid hO1;have HW1:=hid hw1;obtain⟨r,hr⟩:=nm P.length;rw[←hr]at hn⊢;have Hr:=hid hr;have hS1:=h.len;have hS2:=h.small;have HS:Hid (S.length≤1048576):=hid (by omega);have hc1:(c:Int)≤1000:=by omega
 clear h hL hB hvb hp2 hbm hbl hm hw1 hO1 hM1 hL1 hbl1 hbm1 hrow hrow1 hr hS1 hS2;go_enter func86,ntmps86;go_upto_region 2 with fail
 rw[←HW1.o];clear x0 x1;go_loopw[10] (fun z wr=>∃i:Nat,z= .int .i64 i∧i≤r∧Hid (∃S1:List UInt8,S1.length=S.length∧qm wr m sb lb ab n S1 (Kn+20000*i))∧Hid (zi (zL sb lb ab) w1 wr)) (fun z _=>r-(intOf z).toNat)
 case atStart=>exact⟨0,rfl,by omega,hid ⟨S,rfl,HM1.o⟩,hid (zi.refl _ _)⟩
 case round=>
  obtain⟨i,rfl,hi,HMe,HO⟩:=hrel;obtain⟨S1,hS1,hM1⟩:=HMe.o;have HM:=hid hM1;have HS1:=hid hS1;clear hM1 hS1;by_cases hlt:i<r
  ·obtain⟨p,hp⟩:∃p,P[i]? =some p:=⟨_,List.getElem?_eq_getElem (by have:=Hr.o;omega)⟩;rcases HR.o with⟨_,h0⟩|⟨b,rfl,hbl,hbB,hcell⟩
   ·rw[h0]at hp;simp at hp
   obtain⟨q0,q1⟩:=hcell i p hp;have r0:=(HO.o.cell (p:=⟨b,i*2,none⟩) hbl (HB.o.mem3 hbB)).trans q0;have r1:=(HO.o.cell (p:=⟨b,i*2+1,none⟩) hbl (HB.o.mem3 hbB)).trans q1;have h1:(i:Int)<r:=by omega
   have h0:(0:Int)≤i:=by omega
   have HX:=hid hp;have Hpm:=hid (List.mem_of_getElem? hp);clear hp hcell q0 q1 hlt;go_upto_region 4 with fail
   obtain⟨s,hs⟩:∃s:ByteArray,s=⟨p.2.toArray⟩:=⟨_,rfl⟩;obtain⟨q,hq⟩:=nm p.1;rw[←hs,←hq];obtain⟨wz,hwz⟩:=nm (wr.alloc (.cells #[.int .i64 q,.string s] 122));rw[←hwz];have hbz:Below wr.heap.size wr wz:=by rw[hwz];exact(Below.refl _ _).alloc (Nat.le_refl _) _
   have hz:zd wz wr.heap.size 122 #[.int .i64 q,.string s]:=by rw[hwz];exact heap_alloc_new _ _
   obtain⟨px,hpx⟩:=nm wr.heap.size;rw[←hpx]at hz⊢;have hbd:Below wr.heap.size wr wz.drew:=hbz.trans (((Below.refl wz.heap.size wz).drew).mono hbz.size);have hMd:=HM.o.below hbd;have hOd:zi (zL sb lb ab) w1 wz.drew:=HO.o.trans (zg hbd _) fun _ _ e=>e;have hbld:zd wz.drew bl 102 #[.pointer (some ⟨g,0,none⟩)]:=(hOd.block bl Hbl.o.lt (HB.o.mem3 Hm.o.2.1)).trans Hbl.o;have hgd:zW wz.drew g m 2688 4096:=HL1.o.keep hOd (HL1.o.apartX HM1.o);have hzd:zd wz.drew px 122 #[.int .i64 q,.string s]:=((Below.refl wz.heap.size wz).drew.block px hz.lt).trans hz;obtain⟨v2,wm,hcv,hb2,hbel,hob,-⟩:=yS wz.drew p.2;rw[←hs]at hcv;have hMm:=hMd.below hbel;have hblm:zd wm bl 102 #[.pointer (some ⟨g,0,none⟩)]:=(hbel.block bl hbld.lt).trans hbld;have hgm:zW wm g m 2688 4096:=(hbel.block g (za hgd)).trans hgd
   have hzm:zd wm px 122 #[.int .i64 q,.string s]:=(hbel.block px hzd.lt).trans hzd;have HSt:=hid (JT q v2 p.2 wm hMm hb2 (fun j hj=>by
    rw[hob]at hj
    cases hj
    have h1:=hMd.lts sb (by simp);have h2:=hMd.lts ab (by simp);omega) (by rw[hq];exact(HP.o p Hpm.o).1) (by have:=(HP.o p Hpm.o).2;omega))
   have HOm:Hid (zi (zL sb lb ab) w1 wm):=hid (hOd.trans (zg hbel _) fun _ _ e=>e);have Hzm:=hid hzm;have d0:=cell_of_row wz.drew _ 0 _ _ _ hbld;obtain⟨d1,-,-⟩:=zl hgd;have d2:=cell_of_row wz.drew _ 0 _ _ _ hzd;have d3:=cell_of_row wz.drew _ 1 _ _ _ hzd;have e0:=cell_of_row wm _ 0 _ _ _ hblm;obtain⟨e1,-,-⟩:=zl hgm;have e2:=cell_of_row wm _ 0 _ _ _ hzm;have e3:=cell_of_row wm _ 1 _ _ _ hzm;have HQ:=hid (And.intro hq hs);have HPx:=hid hpx;have hs1:=And.intro d0 (And.intro d1 (And.intro d2 d3));have hs2:=And.intro e0 (And.intro e1 (And.intro e2 e3));have HT5:Hid (∀w5,zi (fun k=>k=sb∨k=ab) wm w5→w5.cell? ⟨bl,0,none⟩=some (.pointer (some ⟨g,0,none⟩))∧w5.cell? ⟨g,0,none⟩=some (.pointer (some ⟨m,0,none⟩))∧w5.cell? ⟨px,0,none⟩=some (.int .i64 q)∧w5.cell? ⟨px,1,none⟩=some (.string s)):=hid fun w5 hO5=>by
    have hsb:=hMm.lts sb (by simp);have hab:=hMm.lts ab (by simp);have h3:∀k,k=sb∨k=ab→zL sb lb ab k:=fun k e=>e.elim (fun e=>Or.inl e) fun e=>Or.inr (Or.inr e);have hpn:¬zL sb lb ab px:=HB.o.mem3 (by have:=HO.o.size;have:=HR.o;rw[hpx];omega);have y1:=cell_of_row w5 _ 0 _ _ _ ((hO5.block bl hblm.lt fun e=>HB.o.mem3 Hm.o.2.1 (h3 _ e)).trans hblm);obtain⟨y2,-,-⟩:=zl ((hO5.block g (za hgm) fun e=>HL1.o.apartX HM1.o (h3 _ e)).trans hgm);have hz5:=(hO5.block px hzm.lt fun e=>hpn (h3 _ e)).trans hzm;exact⟨y1,y2,cell_of_row w5 _ 0 _ _ _ hz5,cell_of_row w5 _ 1 _ _ _ hz5⟩
   clear hbz hz hbd hMd hOd hbld hgd hzd hb2 hbel hob hMm hblm hgm hzm hq hs hpx hwz r0 r1;go_cut[10,24] from 10 to 35 (fun s10 s24 wx=>∃(gd:Bool) (S6:List UInt8),s10= .int .i64 i∧s24= .bool gd∧Hid ((gd=true→q+p.2.length≤S1.length)∧S6.length=S1.length∧zZ wx m sb lb ab n S6 (Kn+20000*i) (fun j=>gd=true∧jL q p.2.length j))∧Hid (zi (fun k=>k=sb∨k=ab) wm wx))
   case first=>
    refine wp_region_held_drew (S:=(fun W=>W.cell? ⟨bl,0,none⟩=some (.pointer (some ⟨g,0,none⟩))∧W.cell? ⟨g,0,none⟩=some (.pointer (some ⟨m,0,none⟩))∧W.cell? ⟨px,0,none⟩=some (.int .i64 q)∧W.cell? ⟨px,1,none⟩=some (.string s))) (by kernel_rfl) ?_ (fun hHeld=> ?_)
    ·exact hs1
    refine tk 0 ?_;refine tk 1 ?_;refine tk 2 ?_;refine tk 3 ?_;refine tk 4 ?_;refine tk 5 ?_;refine tk 6 ?_;refine tk 7 ?_;refine rd 8 (fun K hK=> ?_);go_simp
    try dsimp only
    refine hK.o _ _ hs2 (fun hHeld=> ?_);clear hK K;try simp only[put]
    refine rd 9 (fun K hK=> ?_);go_simp
    refine HSt.o.mono ?_;rintro e w5 ⟨E5,S5,rfl,hE5,hS5,hM5,hO5⟩;have HM5:Hid (((E5==0)=true→q+p.2.length≤S1.length)∧S5.length=S1.length∧zZ w5 m sb lb ab n S5 (Kn+20000*i) (fun j=>(E5==0)=true∧jL q p.2.length j)):=hid ⟨fun e=>hE5 (by simpa using e),hS5,hM5.wide fun j _ e=>⟨by simpa using e.1,e.2⟩⟩;have HO5:=hid hO5;have hs5:=HT5.o w5 hO5;clear hE5 hS5 hM5 hO5;try dsimp only
    refine hK.o _ _ hs5 (fun hHeld=> ?_);clear hK K;try simp only[put]
    refine tk 10 ?_;refine dn ?_
    (try simp only[Exit.then])
    clear hs5 hs1 hs2;go_wp2;go_meet
    exact⟨E5==0,S5,rfl,rfl,HM5,HO5⟩
   case rest=>
    obtain⟨gd,S6,rfl,rfl,HM6,HO6⟩:=hcut;obtain⟨w6,rfl⟩:=nm wc
    cases gd with
    |false=>
     have HO9:Hid (zi (zL sb lb ab) w1 w6):=hid (HOm.o.trans (HO6.o.mono (G:=zL sb lb ab) fun _ _ e=>e.elim (fun e=>Or.inl e) fun e=>Or.inr (Or.inr e)) fun _ _ e=>e);have HM9:Hid (∃S1:List UInt8,S1.length=S.length∧qm w6 m sb lb ab n S1 (Kn+20000*(i+1))):=hid ⟨S6,HM6.o.2.1.trans HS1.o,(HM6.o.2.2.more (by omega)).wide fun j _ e=>by cases e.1⟩;clear HT5 HSt hcv hs1 hs2 d0 d1 d2 d3 e0 e1 e2 e3;go_wp2;go_roundw
     case rel=>exact⟨i+1,by go_num,by omega,HM9,HO9⟩
     case measure=>simp[intOf];omega
    |true=>
     have hb6:=(Below.refl w6.heap.size w6).drew;have hs6:=HT5.o w6 HO6.o;have hl6:bl<w6.heap.size∧g<w6.heap.size∧px<w6.heap.size:=by
      have h1:=HO6.o.size;have h2:=HOm.o.size;have h3:=Hbl.o.lt;have h4:=za HL1.o;have h5:=Hzm.o.lt;omega
     have hs7:w6.drew.cell? ⟨bl,0,none⟩=some (.pointer (some ⟨g,0,none⟩))∧w6.drew.cell? ⟨g,0,none⟩=some (.pointer (some ⟨m,0,none⟩))∧w6.drew.cell? ⟨px,0,none⟩=some (.int .i64 q)∧w6.drew.cell? ⟨px,1,none⟩=some (.string s):=
      ⟨(hb6.cell (p:=⟨bl,0,none⟩) hl6.1).trans hs6.1,(hb6.cell (p:=⟨g,0,none⟩) hl6.2.1).trans hs6.2.1,(hb6.cell (p:=⟨px,0,none⟩) hl6.2.2).trans hs6.2.2.1,(hb6.cell (p:=⟨px,1,none⟩) hl6.2.2).trans hs6.2.2.2⟩
     have hM7:=HM6.o.2.2.below hb6;have hsz:s.size=p.2.length:=by rw[HQ.o.2];simp[ByteArray.size]
     have HFl:=hid (yK q s.size w6.drew hM7 (fun j hj=>by rw[hsz];exact qp hj.2) (by rw[HM6.o.2.1,hsz];exact HM6.o.1 (by first|trivial|rfl)) (by have:=(HP.o p Hpm.o).2;omega) (by omega));have HO7:Hid (zi (zL sb lb ab) w1 w6.drew):=hid ((HOm.o.trans (HO6.o.mono (G:=zL sb lb ab) fun _ _ e=>e.elim (fun e=>Or.inl e) fun e=>Or.inr (Or.inr e)) fun _ _ e=>e).trans (zg hb6 _) fun _ _ e=>e);have HT8:Hid (∀w8,zi (fun k=>k=ab) w6.drew w8→w8.cell? ⟨bl,0,none⟩=some (.pointer (some ⟨g,0,none⟩))∧w8.cell? ⟨g,0,none⟩=some (.pointer (some ⟨m,0,none⟩))∧w8.cell? ⟨px,0,none⟩=some (.int .i64 q)∧w8.cell? ⟨px,1,none⟩=some (.string s)):=hid fun w8 hO8=>by
      have h3:∀k,k=ab→zL sb lb ab k:=fun k e=>Or.inr (Or.inr e);have hpn:¬zL sb lb ab px:=HB.o.mem3 (by have:=HO.o.size;have:=HR.o;rw[HPx.o];omega);exact⟨(hO8.cell (p:=⟨bl,0,none⟩) (Nat.lt_of_lt_of_le hl6.1 hb6.size) fun e=>HB.o.mem3 Hm.o.2.1 (h3 _ e)).trans hs7.1,(hO8.cell (p:=⟨g,0,none⟩) (Nat.lt_of_lt_of_le hl6.2.1 hb6.size) fun e=>HL1.o.apartX HM1.o (h3 _ e)).trans hs7.2.1,(hO8.cell (p:=⟨px,0,none⟩) (Nat.lt_of_lt_of_le hl6.2.2 hb6.size) fun e=>hpn (h3 _ e)).trans hs7.2.2.1,(hO8.cell (p:=⟨px,1,none⟩) (Nat.lt_of_lt_of_le hl6.2.2 hb6.size) fun e=>hpn (h3 _ e)).trans hs7.2.2.2⟩
     clear hb6 hs6 hl6 hM7 hsz HT5 HSt hcv hs1 hs2 d0 d1 d2 d3 e0 e1 e2 e3;go_upto_region 5 with fail
     refine wp_region_held_drew (S:=(fun W=>W.cell? ⟨bl,0,none⟩=some (.pointer (some ⟨g,0,none⟩))∧W.cell? ⟨g,0,none⟩=some (.pointer (some ⟨m,0,none⟩))∧W.cell? ⟨px,0,none⟩=some (.int .i64 q)∧W.cell? ⟨px,1,none⟩=some (.string s))) (by kernel_rfl) ?_ (fun hHeld=> ?_)
     ·exact hs7
     refine tk 0 ?_;refine tk 1 ?_;refine tk 2 ?_;refine tk 3 ?_;refine tk 4 ?_;refine tk 5 ?_;refine tk 6 ?_;refine tk 7 ?_;refine tk 8 ?_;refine rd 9 (fun K hK=> ?_);go_simp
     refine HFl.o.mono ?_;rintro e w8 ⟨rfl,hM8,hO8⟩;have HM8:=hid hM8;have HO8:=hid hO8;have hs8:=HT8.o w8 hO8;clear hM8 hO8;try dsimp only
     refine hK.o _ _ hs8 (fun hHeld=> ?_);clear hK K;try simp only[put]
     refine dn ?_
     (try simp only[Exit.then])
     have HM9:Hid (∃S1:List UInt8,S1.length=S.length∧qm w8 m sb lb ab n S1 (Kn+20000*(i+1))):=hid (by
      have:=HM8.o
      rw[show Kn+20000*(i+1)=Kn+20000*i+20000 by omega];exact⟨S6,HM6.o.2.1.trans HS1.o,this⟩)
     have HO9:=hid (HO7.o.trans (HO8.o.mono (G:=zL sb lb ab) fun _ _ e=>Or.inr (Or.inr e)) fun _ _ e=>e);clear hs8 hs7;go_wp2;go_roundw
     case rel=>exact⟨i+1,by go_num,by omega,HM9,HO9⟩
     case measure=>simp[intOf];omega
  ·obtain rfl:i=r:=by omega
   clear hlt;go_wp2;go_end0
   refine⟨rfl,?_,?_,?_⟩
   ·exact HMe.o
   ·exact(HO1.o.mono fun _ _ e=>Or.inr e).trans (HO.o.mono fun _ _ e=>Or.inl e) fun _ _ e=>e
   ·exact(HO.o.block bm Hbm.o.lt (HB.o.mem3 Hm.o.1)).trans Hbm.o
end
section
open Go.Shelf
attribute [local go_sem] Oper.semAt_some
theorem VA{g m Kn:Nat}{S:List UInt8}{F:Nat→Prop}(w:World)(hM:xX m S Kn w F)(hL:zW w g m 2688 4096)(hS:S.length=23168):
 Calls prog 125 #[.pointer (some ⟨g,0,none⟩)] w fun e w'=>∃l:Nat,l≤4088∧(Gd.part S 2688 8=Gd.le 0 8→l=0)∧e= .returned (.int .i64 l)∧Below w.heap.size w w':=by
 have hbd:=(Below.refl w.heap.size w).drew;have HLd:=hid (qa 2688 8 w.drew ((xX.held m S Kn).below hM hbd) (by omega) (by omega));obtain⟨R,hR⟩:=nm (Gd.part S 2688 8);have hR8:R.length=8:=by rw[hR];exact Gd.part_length (by omega)
 rw[←hR]at HLd⊢;obtain⟨c0,c1,c2⟩:=zl hL;have HLg:Hid (zW w.drew g m 2688 4096):=hid ((hbd.block g (za hL)).trans hL);have HBd:=hid hbd;have HR8:=hid hR8;obtain⟨N,hN⟩:=nm (Gd.get R (0:Nat) 8);have hN0:0≤N:=by rw[hN];exact(YF _ _ _).1
 have HN0:Hid (R=Gd.le 0 8→N=0):=hid fun e=>by rw[hN,e];exact Yy (by omega)
 have HN:=hid hN;clear hM hL hbd hR hR8 hN;go_enter func125,ntmps125;go_wp2;go_region_with (go_at_call 18;refine HLd.o.mono ?_;rintro e w1 ⟨v,rfl,ho,hb⟩;have HO:=hid ho;have HB:=hid hb;clear ho hb)
 all_goals
  have HGt:=hid (jp v R (0:Nat) 8 (Or.inr (Or.inr (Or.inr rfl))) (zu (n:=0) (by omega)) w1 HO.o.at_ (by rw[HR8.o];omega));rw[←HN.o]at HGt;obtain⟨_,_,d2⟩:=zl ((HB.o.block g (za HLg.o)).trans HLg.o);have HW:Hid (Below w.heap.size w w1):=hid (HBd.o.trans (HB.o.mono HBd.o.size));clear HLd HO c0 c1 c2;simp only[Exit.then]
  (first|(refine(by assumption:∀(a:Act) (w:World),_) _ _ ?_)|skip)
  go_wp2_with fail
  refine HGt.o.mono ?_;rintro e w2 ⟨rfl,rfl⟩;by_cases hbig:4088<N
  ·go_wp2;go_ret
   exact⟨0,by omega,fun _=>rfl,rfl,HW.o⟩
  ·go_wp2;go_ret
   exact⟨N.toNat,by omega,fun e=>by rw[HN0.o e];rfl,by rw[Int.toNat_of_nonneg hN0];rfl,HW.o⟩
theorem YM{g m sb lb ab n Kn B bm bl:Nat}{S:List UInt8}(w:World)(h:zH w m sb lb ab n S Kn)(hL:zW w g m 2688 4096)(hB:yN m sb lb ab g B)(hS:S.length=23168)
 (hbm:zd w bm 3 #[.int .i64 0])(hbl:zd w bl 102 #[.pointer (some ⟨g,0,none⟩)])(hm:B≤bm∧B≤bl∧bl≠bm)(hBw:B≤w.heap.size)(hK:Kn<100000000000):
 Calls prog 85 #[.pointer (some ⟨g,0,none⟩),.func (.func 86) #[] #[.pointer (some ⟨bm,0,none⟩),.pointer (some ⟨bl,0,none⟩)]] w fun e w'=>(∃u:Nat,e= .returned (.int .i64 u))∧(∃(S2:List UInt8) (c:Nat),S2.length=S.length∧(Gd.part S 2688 8=Gd.le 0 8→S2=S∧c=0)∧c≤511∧qm w' m sb lb ab n S2 (Kn+1280000*511)∧zd w' bm 3 #[.int .i64 c])∧zi (fun k=>zL sb lb ab k∨k=bm) w w':=by
 have hbd:=(Below.refl w.heap.size w).drew;have hMd:=h.below hbd;have hLd:zW w.drew g m 2688 4096:=(hbd.block g (za hL)).trans hL;have HE:=hid (VA w.drew hMd.toF hLd hS);have HLo:Hid (∀(l:Nat) W,l≤4088→Below w.drew.heap.size w.drew W→Calls prog 18 #[.pointer (some ⟨m,0,none⟩),.int .i64 2696,.int .i64 l] W (qS W (Gd.part S 2696 l))):=hid fun l W h1 hb=>qa 2696 l W (hMd.below hb).toF (by omega) (by omega);have hs0:w.drew.cell? ⟨g,0,none⟩=some (.pointer (some ⟨m,0,none⟩))∧w.drew.cell? ⟨g,1,none⟩=some (.int .i64 2688):=⟨(zl hLd).1,(zl hLd).2.1⟩;have HT:Hid (∀W,Below w.drew.heap.size w.drew W→W.cell? ⟨g,0,none⟩=some (.pointer (some ⟨m,0,none⟩))∧W.cell? ⟨g,1,none⟩=some (.int .i64 2688)):=hid fun W hb=>⟨(hb.cell (p:=⟨g,0,none⟩) (za hLd)).trans hs0.1,(hb.cell (p:=⟨g,1,none⟩) (za hLd)).trans hs0.2⟩;have HM:=hid h;have HL:=hid hL;have HB:=hid hB;have HS:=hid hS
 have Hbm:=hid hbm;have Hbl:=hid hbl;have Hm:=hid hm;have HBw:=hid hBw;have HK:=hid hK;have HBd:=hid hbd;clear h hL hB hS hbm hbl hm hK hbd hMd hLd hBw;go_enter func85,ntmps85;go_upto_region 1 with fail
 refine wp_region_held_drew (S:=(fun W=>W.cell? ⟨g,0,none⟩=some (.pointer (some ⟨m,0,none⟩))∧W.cell? ⟨g,1,none⟩=some (.int .i64 2688))) (by kernel_rfl) ?_ (fun hHeld=> ?_)
 ·exact hs0
 refine tk 0 ?_;refine tk 1 ?_;refine tk 2 ?_;refine tk 3 ?_;refine tk 4 ?_;refine tk 5 ?_;refine tk 6 ?_;refine tk 7 ?_;refine tk 8 ?_;refine tk 9 ?_;refine rd 10 (fun K hK=> ?_);go_simp
 refine HE.o.mono ?_;rintro e w1 ⟨l,hl,hl0,rfl,hb1⟩;have Hl:=hid (And.intro hl hl0);have HB1:=hid hb1;have hs1:=HT.o w1 hb1;clear hb1 hl hl0;try dsimp only
 refine hK.o _ _ hs1 (fun hHeld=> ?_);clear hK K;try simp only[put]
 refine rd 11 (fun K hK=> ?_);go_simp
 refine(HLo.o l w1 Hl.o.1 HB1.o).mono ?_
 rintro e w2 ⟨v2,rfl,ho2,hb2⟩;have HO2:=hid ho2;have HB2:=HB1.t hb2;have hs2:=HT.o w2 HB2.o;have HZ1:=hid HB1.o.size;clear ho2 hb2;try dsimp only
 refine hK.o _ _ hs2 (fun hHeld=> ?_);clear hK K;try simp only[put]
 refine tk 12 ?_;refine tk 13 ?_;refine tk 14 ?_;refine tk 15 ?_;refine tk 16 ?_;refine dn ?_
 (try simp only[Exit.then])
 clear hs0 hs1 hs2 HE HLo HT;have HW2:Hid (Below w.heap.size w w2):=hid (HBd.o.trans (HB2.o.mono HBd.o.size));obtain⟨R,hR⟩:=nm (Gd.part S 2696 l);rw[←hR]at HO2;have hRl:R.length=l:=by rw[hR];exact Gd.part_length (by have:=HS.o;have:=Hl.o.1;omega)
 obtain⟨A2,c2,hv2,hA2⟩:=HO2.o.at_;rw[hRl]at hv2;have HA2:Hid (0<l→∃b o:Nat,A2=some ⟨b,o,none⟩∧l≤c2∧b<w2.heap.size∧w.heap.size≤b∧∀(j:Nat) (x:UInt8),R[j]? =some x→w2.cell? ⟨b,o+j,none⟩=some (.int .u8 x.toNat)):=hid fun h0=>by
  obtain⟨b,c,hv,hc,hBb,hb,hcl⟩:=HO2.o.lies (by intro e;rw[e]at hRl;simp at hRl;omega);rw[hv2,hRl]at hv
  cases hv
  refine⟨b,0,rfl,by omega,hb,?_,fun j x hx=>by rw[Nat.zero_add];exact hcl j x hx⟩;have h1:=HBd.o.size;have h2:=HZ1.o;omega
 have HR:=hid hRl;obtain rfl:=hv2
 clear hA2 HO2 hR hRl HZ1 HBd HB1 HB2;have hl4:(l:Int)≤4088:=by have:=Hl.o.1;omega
 (first|(refine(by assumption:∀(a:Act) (w:World),_) _ _ ?_)|skip)
 go_upto_region 3 with fail
 go_loopw[5,7] (fun y u wr=>∃(i d r:Nat) (A:Option Addr) (c:Nat),y= .slice A r c∧u= .int .i64 d∧d+r=l∧8*i≤d∧Hid (0<r→∃b o:Nat,A=some ⟨b,o,none⟩∧r≤c∧b<w2.heap.size∧w.heap.size≤b∧∀(j:Nat) (x:UInt8),(R.drop d)[j]? =some x→w2.cell? ⟨b,o+j,none⟩=some (.int .u8 x.toNat))∧Hid (∃S1:List UInt8,S1.length=S.length∧(l=0→S1=S∧i=0)∧qm wr m sb lb ab n S1 (Kn+1280000*i))∧Hid (zi (fun k=>zL sb lb ab k∨k=bm) w2 wr)∧Hid (zd wr bm 3 #[.int .i64 i])) (fun _ u _=>l-(intOf u).toNat)
 case atStart=>exact⟨0,0,l,A2,c2,rfl,rfl,by omega,by omega,hid fun h=>by rw[List.drop_zero];exact HA2.o h,hid ⟨S,rfl,fun _=>⟨rfl,rfl⟩,(HM.o.below HW2.o).tozZ⟩,hid (zi.refl _ _),hid ((HW2.o.block bm Hbm.o.lt).trans Hbm.o)⟩
 case round=>
  obtain⟨i,d,r,A,c,rfl,rfl,hdr,hid8,HA,HMx,HOx,HCx⟩:=hrel;by_cases hr0:r=0
  ·subst hr0;go_wp2;go_ret
   refine⟨⟨d,rfl⟩,?_,(zg HW2.o _).trans HOx.o fun _ _ e=>e⟩;obtain⟨S1,h1,h2,h3⟩:=HMx.o;exact⟨S1,i,h1,fun e=>h2 (Hl.o.2 e),by have:=Hl.o.1;omega,h3.more (by have:=Hl.o.1;omega),HCx.o⟩
  ·have hr1:(0:Int)<r:=by omega
   obtain⟨b,o,rfl,hrc,hb2,hbw,hcl⟩:=HA.o (by omega);have hbx:b<wr.heap.size:=Nat.lt_of_lt_of_le hb2 HOx.o.size;have hnb:¬(zL sb lb ab b∨b=bm):=by
    rintro(e|e)
    ·exact HB.o.mem3 (Nat.le_trans HBw.o hbw) e
    ·have:=Hbm.o.lt;omega
   have hDr:(R.drop d).length=r:=by rw[List.length_drop,HR.o];omega
   have hDe:=J5 b o c (R.drop d) wr hbx (by rw[hDr];exact hrc) (fun j x hx=>(HOx.o.cell (p:=⟨b,o+j,none⟩) hb2 hnb).trans (hcl j x hx)) (by rw[hDr];have:=Hl.o.1;omega);rw[hDr]at hDe;have HDe:=hid hDe;have Hcl:=hid (And.intro hb2 (And.intro hbw hcl));have hrc':(r:Int)≤c:=by omega
   clear hDe hbx hnb hDr hb2 hbw hcl HA HA2;go_wp2_with fail
   refine HDe.o.mono ?_;rintro e w3 ⟨hb3,u3,n3,E3,rfl,hE3⟩;have HB3:=hid hb3;have HE3:=hid hE3;clear hb3 hE3 HDe;by_cases hE0:E3=0
   ·subst hE0;obtain⟨k,P,rfl,hk8,hkr,hrow,hPm,hP64⟩:=HE3.o rfl;obtain⟨S1,hS1,hz1,hM1⟩:=HMx.o;have hO3:zi (fun k=>zL sb lb ab k∨k=bm) w2 w3:=HOx.o.trans (zg HB3.o _) fun _ _ e=>e;have hOw:zi (fun k=>zL sb lb ab k∨k=bm) w w3:=(zg HW2.o _).trans hO3 fun _ _ e=>e;have hi511:i≤511:=by have:=Hl.o.1;omega
    obtain⟨A3,c3,rfl,hA3⟩:=yV hrow;have hRd:=Q4 (c:=i) (.slice A3 P.length c3) P w3 (hM1.below HB3.o) (HL.o.keep hOw (by
     rintro(e|e)
     ·exact HL.o.apart HM.o e
     ·have:=HB.o.g;have:=Hm.o.1;omega)) HB.o ⟨A3,c3,rfl,hA3⟩ (fun q hq=>by
     have h1:=(zE hrow q hq).1;have h2:=HOx.o.size;have h3:=HW2.o.size;have h4:=Hbm.o.lt;have h5:=HBw.o;omega) hPm hP64 ((HB3.o.block bm HCx.o.lt).trans HCx.o) ((hOw.block bl Hbl.o.lt (by
      rintro(e|e)
      ·exact HB.o.mem3 Hm.o.2.1 e
      ·exact Hm.o.2.2 e)).trans Hbl.o) Hm.o (by omega) (by have:=HK.o;omega)
    have HRd:=hid hRd;have HO3:=hid hO3;have HP64:=hid hP64;have HS1:=hid hS1;clear hRd hO3 hOw hA3 hrow hPm hP64 hM1 hz1 hS1 HE3;go_wp2_with fail
    refine HRd.o.mono ?_;rintro e w4 ⟨rfl,⟨S2,hS2,hM2⟩,hO4,hC4⟩;have HMy:Hid (∃S1:List UInt8,S1.length=S.length∧(l=0→S1=S∧i+1=0)∧qm w4 m sb lb ab n S1 (Kn+1280000*(i+1))):=hid ⟨S2,hS2.trans HS1.o,fun e=>by omega,hM2.more (by have:=HP64.o;omega)⟩;have HO4:Hid (zi (fun k=>zL sb lb ab k∨k=bm) w2 w4):=hid (HO3.o.trans hO4 fun _ _ e=>e);have HC4:=hid hC4;clear hM2 hO4 hC4 HRd hS2;have hk0:(0:Int)≤k:=by omega
    have hkr':(k:Int)≤r:=by omega
    have hd0:(0:Int)≤d:=by omega
    have hdk:(d:Int)+k≤4088:=by omega
    have HAy:Hid (0<r-k→∃b' o':Nat,(some ⟨b,o+k,none⟩:Option Addr)=some ⟨b',o',none⟩∧r-k≤c-k∧b'<w2.heap.size∧w.heap.size≤b'∧∀(j:Nat) (x:UInt8),(R.drop (d+k))[j]? =some x→w2.cell? ⟨b',o'+j,none⟩=some (.int .u8 x.toNat)):=hid fun _=>by
     refine⟨b,o+k,rfl,by omega,Hcl.o.1,Hcl.o.2.1,fun j x hx=> ?_⟩;have:=Hcl.o.2.2 (k+j) x (by rw[List.getElem?_drop]at hx⊢;rw[←hx];congr 1;omega)
     rw[Nat.add_assoc];exact this
    by_cases hkc:k=c
    ·have hrk:r=k:=by omega
     subst hkc;subst hrk;go_wp2;go_roundw
     case rel=>exact⟨i+1,d+r,0,_,_,by first|rfl|go_num,by go_num,by omega,by omega,hid fun h=>absurd h (by omega),HMy,HO4,HC4⟩
     case measure=>simp[intOf];omega
    ·have hkc':(k:Int)<c:=by omega
     go_wp2;go_roundw
     case rel=>exact⟨i+1,d+k,r-k,_,_,by first|rfl|go_num,by go_num,by omega,by omega,HAy,HMy,HO4,HC4⟩
     case measure=>simp[intOf];omega
   ·have HOx3:Hid (zi (fun k=>zL sb lb ab k∨k=bm) w2 w3):=hid (HOx.o.trans (zg HB3.o _) fun _ _ e=>e);go_wp2;go_ret
    refine⟨⟨d,rfl⟩,?_,(zg HW2.o _).trans HOx3.o fun _ _ e=>e⟩;obtain⟨S1,h1,h2,h3⟩:=HMx.o;exact⟨S1,i,h1,fun e=>h2 (Hl.o.2 e),by have:=Hl.o.1;omega,(h3.below HB3.o).more (by have:=Hl.o.1;omega),(HB3.o.block bm HCx.o.lt).trans HCx.o⟩
end
section
open Go.Shelf
attribute [local go_sem] Oper.semAt_some
theorem Ya{g m sb lb ab n Kn:Nat}{S:List UInt8}(w:World)(h:zH w m sb lb ab n S Kn)(hL:zW w g m 2688 4096)(hS:S.length=23168)(hK:Kn<100000000000):
 Calls prog 44 #[.pointer (some ⟨g,0,none⟩)] w fun e w'=>(∃c:Nat,e= .returned (.int .i64 c)∧c≤511)∧(∃S2:List UInt8,S2.length=23168∧(Gd.part S 2688 8=Gd.le 0 8→S2=S)∧zH w' m sb lb ab n (Gd.splice S2 2688 (List.replicate 8 0)) (Kn+654080000+20000))∧zi (zL sb lb ab) w w':=by
 obtain⟨w0,hw0⟩:=nm ((w.alloc (.cells #[.pointer (some ⟨g,0,none⟩)] 102)).alloc (.cells #[.int .i64 0] 3));have hb0:Below w.heap.size w w0:=by rw[hw0];exact((Below.refl _ _).alloc (Nat.le_refl _) _).alloc (by simp) _
 have hbl:zd w0 w.heap.size 102 #[.pointer (some ⟨g,0,none⟩)]:=by rw[hw0];exact zd.alloc (heap_alloc_new w _) _
 have hbm:zd w0 (w.heap.size+1) 3 #[.int .i64 0]:=by
  have:=heap_alloc_new (w.alloc (.cells #[.pointer (some ⟨g,0,none⟩)] 102)) (.cells #[.int .i64 0] 3)
  rw[World.size_alloc]at this;rw[hw0];exact this
 obtain⟨bl,hble⟩:=nm w.heap.size;have hM0:=h.below hb0;have hL0:zW w0 g m 2688 4096:=(hb0.block g (za hL)).trans hL;have hlow:yN m sb lb ab g bl:=by
  have h1:=h.lts m (by simp);have h2:=h.lts sb (by simp);have h3:=h.lts lb (by simp);have h4:=h.lts ab (by simp);have h5:=za hL;rw[hble];exact⟨h1,h2,h3,h4,h5⟩
 rw[←hble]at hbl hbm;have HEa:=hid (YM w0 hM0 hL0 hlow hS hbm hbl (by omega) (by rw[hble];exact hb0.size) hK);have HS:=hid hS;have HK:=hid hK;have HW0:=hid hw0;have HB0:=hid hb0;have Hbl:=hid hbl;have HL0:=hid hL0;have HM0:=hid hM0;have HLo:=hid hlow;have HBe:=hid hble.symm;have l0:=cell_of_row w0 bl 0 _ _ _ hbl;clear h hL hS hK hw0 hb0 hbl hbm hble hM0 hL0 hlow;go_enter func44,ntmps44;go_upto_region 2 with fail
 rw[←HW0.o,HBe.o];go_wp2_with fail
 refine HEa.o.mono ?_;rintro e w1 ⟨⟨u1,rfl⟩,⟨S2,c,hS2,hz2,hc,hM1,hC1⟩,hO1⟩;have HS2:=hid (hS2.trans HS.o);have HZ2:=hid hz2;have Hc:=hid hc;have HNb:Hid (¬(zL sb lb ab bl∨bl=bl+1)):=hid (by
  rintro(e|e)
  ·exact HLo.o.mem3 (Nat.le_refl _) e
  ·omega)
 have HM1:=hid hM1;have HO1:=hid hO1;have HC1:=hid hC1;have l1:=cell_of_row w1 bl 0 _ _ _ ((hO1.block bl Hbl.o.lt HNb.o).trans Hbl.o);have HL1:=hid (HL0.o.keep hO1 (by
  rintro(e|e)
  ·exact HL0.o.apart HM0.o e
  ·have:=HLo.o.g;omega))
 obtain⟨g1,-,-⟩:=zl HL1.o;clear hM1 hO1 hC1 HEa l0 hS2 hz2 hc;go_wp2_with fail
 refine(uk w1 HM1.o).mono ?_
 rintro e w2 ⟨rfl,hM2,hO2⟩;have HO2:=hid (HO1.o.trans (hO2.mono (G:=fun k=>zL sb lb ab k∨k=bl+1) fun k _ e=>Or.inl (e.elim (fun e=>Or.inr (Or.inl e)) fun e=>Or.inr (Or.inr e))) fun _ _ e=>e);have HM2:=hid hM2;have l2:=cell_of_row w2 bl 0 _ _ _ ((HO2.o.block bl Hbl.o.lt HNb.o).trans Hbl.o);have HL2:=hid (HL0.o.keep HO2.o (by
  rintro(e|e)
  ·exact HL0.o.apart HM0.o e
  ·have:=HLo.o.g;omega))
 have HC2:Hid (zd w2 (bl+1) 3 #[.int .i64 c]):=hid ((hO2.block _ HC1.o.lt (by
  rintro(e|e)
  ·have:=HLo.o.lb;omega
  ·have:=HLo.o.ab;omega)).trans HC1.o)
 clear hM2 hO2 HM1 HO1 HC1 HL1 l1 g1;go_wp2_with fail
 refine(ut w2 HM2.o HL2.o HS2.o (by have:=HK.o;omega)).mono ?_
 rintro e w3 ⟨rfl,hM3,hO3⟩;have HM3:=hid hM3;have l3:=cell_of_row w3 (bl+1) 0 _ _ _ ((hO3.block _ HC2.o.lt (HLo.o.mem3 (by omega))).trans HC2.o);have HO3:=hid (HO2.o.trans (hO3.mono (G:=fun k=>zL sb lb ab k∨k=bl+1) fun k _ e=>Or.inl e) fun _ _ e=>e);clear hM3 hO3 l2;go_wp2;go_ret
 refine⟨⟨c,rfl,Hc.o⟩,⟨S2,HS2.o,fun e=>(HZ2.o e).1,HM3.o⟩,?_⟩;refine⟨HO3.o.os.trans HB0.o.os,HO3.o.tape.trans HB0.o.tape,HO3.o.output.trans HB0.o.output,Nat.le_trans HB0.o.size HO3.o.size,fun k hk hnk=> ?_⟩;refine(HO3.o.block k (Nat.lt_of_lt_of_le hk HB0.o.size) ?_).trans (HB0.o.block k hk)
 rintro(e|e)
 ·exact hnk e
 ·have:=HBe.o;omega
end
end Go.Proofs.YtccpdkjonepoiaaGreatDoor
