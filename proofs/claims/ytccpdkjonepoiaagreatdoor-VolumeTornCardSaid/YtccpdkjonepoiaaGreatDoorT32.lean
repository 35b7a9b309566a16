/- Walk: commonsref16.Scan. -/
import Derived.Test.YtccpdkjonepoiaaGreatDoorT31
set_option linter.unusedVariables false
set_option linter.unusedSimpArgs false
set_option linter.unusedSectionVars false
set_option maxHeartbeats 8000000
set_option maxRecDepth 100000
namespace Go.Proofs.YtccpdkjonepoiaaGreatDoor
open Go.RowKit
open Lib(hid)
open Go.Proofs.Tryz
section
open Go.Shelf
attribute [local go_sem] Oper.semAt_some
theorem QZ(v:Value)(L:List UInt8)(ep head:Int)(w:World)(h:jD w v L)(hL:L.length=1024)(he:I64 ep)(hh:I64 head):
 Calls prog 119 #[v,.int .i64 ep,.int .i64 head] w fun e w'=>∃u x,e= .returned (.tuple #[u,x])∧jx w.heap.size w' u x (Gd.scanL L ep head)∧Below w.heap.size w w':=by
 have HV:=hid h;have hlo:=he.lo;have hlo2:=hh.lo;have HGet:=hid (yA v L ((0:Nat):Int) 8 (Or.inr (Or.inr (Or.inr rfl))) (zu (by omega)) w h.at_ (by omega));obtain⟨b,o,c,rfl,hc,hc2,hb,hcell⟩:=h;obtain⟨ln,hln⟩:=nm L.length;have hln2:ln=1024:=by omega
 have hlni:((ln:Int) !=1024)=false:=by rw[hln2];rfl
 rw[←hln]at hc HV HGet⊢;obtain⟨gb,hgb⟩:=nm (Gd.getB L ((0:Nat):Int) 8);obtain⟨x,hx⟩:∃x:Nat,Gd.get L ((0:Nat):Int) 8=(x:Int)∧x<9223372036854775808∧x=Gd.endN L∧(gb=false→x=0):=by
  unfold Gd.endN;show ∃x:Nat,Gd.get L ((0:Nat):Int) 8=(x:Int)∧x<9223372036854775808∧x=(Gd.get L ((0:Nat):Int) 8).toNat∧(gb=false→x=0)
  rw[hgb];unfold Gd.get;by_cases hg:Gd.getB L ((0:Nat):Int) 8=true
  ·have h63:Gd.getN L 0 8<9223372036854775808:=by
    unfold Gd.getB at hg;simp only[Bool.and_eq_true,decide_eq_true_eq]at hg;exact hg.2
   rw[if_pos hg];exact⟨Gd.getN L 0 8,rfl,h63,rfl,fun h=>by rw[hg]at h;cases h⟩
  ·rw[if_neg hg];exact⟨0,rfl,by omega,rfl,fun _=>rfl⟩
 obtain⟨hx1,hx2,hx3,hx4⟩:=hx;rw[hx1,←hgb]at HGet;obtain⟨p,hp⟩:=nm (x/4294967296);obtain⟨n,hn⟩:=nm (x % 4294967296);have hdv:(x:Int)/4294967296=(p:Int):=by omega
 have hrm:(x:Int) % 4294967296=(n:Int):=by omega
 have HSp:=hid (ZT (p:Int) (n:Int) (zu (by omega)) (zu (by omega)));have hge:¬(p:Int)*4294967296+n<0:=by omega
 have hp31:p<2147483648:=by omega
 obtain⟨eb,heb⟩:=nm (Gd.endB p n);rw[←heb]at HSp;have hScan:Gd.scanL L ep head=if gb=true∧eb=true∧(p:Int)=ep∧0≤head then Gd.scanF L n 1024 head.toNat else[]:=by
  unfold Gd.scanL;rw[←hx3,←hp,←hn,←heb];subst hgb;rfl
 have hbn:eb=true→n≤1016:=fun h=>by
  rw[heb]at h;have:=(qI _ _).mp h
  omega
 have hgn:gb=false→n=0:=fun h=>by rw[hn,hx4 h]
 have HC:=hid hcell;have HX2:=hid hx2;clear hgb hx1 hx3 hx4 hp heb hn hcell hx2;by_cases hgood:gb=true∧eb=true∧(p:Int)=ep∧0≤head
 ·obtain⟨he0,he1,he2,he3⟩:=hgood;subst he0;subst he1;obtain⟨hd,hhd⟩:∃k:Nat,head=k:=⟨head.toNat,by omega⟩;subst hhd;have hn16:=hbn rfl;have HScan:Hid (Gd.scanL L ep hd=Gd.scanF L n 1024 hd):=hid (by
   rw[hScan];rw[if_pos ⟨rfl,rfl,he2,by omega⟩];rfl)
  subst he2;have hh0:¬(hd:Int)<0:=by omega
  rw[if_pos rfl]at HSp;obtain⟨z,hz⟩:∃z:Int,z=(p:Int)*4294967296+n:=⟨_,rfl⟩;rw[←hz]at HSp hge;clear hz;have HLn:Hid (ln=1024∧L.length=1024):=hid ⟨hln2,hL⟩;clear hScan hbn hgn hlo hlo2 he hh hL hln hln2;go_enter func119,ntmps119;go_upto_region 3 with fail
  go_upto_region 8 with(go_at_call 66;refine HGet.o.mono ?_;rintro e w2 ⟨rfl,rfl⟩)
  go_upto_region 11 with(go_at_call 144;refine(HSp.o _).mono ?_;rintro e w3 ⟨rfl,rfl⟩)
  have hc8:¬c=8:=by have:=HLn.o.1;omega
  have h8a:(8:Int)≤8+n:=by omega
  have h8b:(8:Int)+n≤c:=by have:=HLn.o.1;omega
  have h8t:((8:Int)+n).toNat-8=n:=by omega
  have hnc:n≤c-8:=by have:=HLn.o.1;omega
  go_loopw[2,8,9] (fun hv u v wr=>∃(k f:Nat) (l:List (Gd.Rec×Nat)),hv= .int .i64 k∧n-k<f∧l.length+f=1024∧Hid (Gd.scanF L n 1024 hd=l++Gd.scanF L n f k)∧Hid (jx w3.heap.size wr u v l)∧Hid (Below w3.heap.size w3 wr)) (fun hv _ _ _=>n-(intOf hv).toNat)
  case atStart=>exact⟨hd,1024,[],rfl,by omega,rfl,hid rfl,hid (jj _ _),hid (Below.refl _ _)⟩
  case round=>
   obtain⟨k,f,l,rfl,hf,hlf,HF,HS,HB⟩:=hrel;by_cases hlt:k<n
   ·have hk1:(k:Int)<n:=by omega
    have hck:¬c-8=k:=by omega
    have hkn:(k:Int)≤n:=by omega
    have hdl:((L.drop (8+k)).take (n-k)).length=n-k:=by rw[List.length_take,List.length_drop,HLn.o.2];omega
    have HDe:=hid (Yd (.slice (some ⟨b,o+(8+k),none⟩) (8+n-(8+k)) (c-(8+k))) ((L.drop (8+k)).take (n-k)) wr (by
     rw[show 8+n-(8+k)=n-k by omega];exact Yi (Nat.lt_of_lt_of_le hb HB.o.size) (fun j x hx=>(HB.o.cell (p:=⟨b,o+j,none⟩) hb).trans (HC.o j x hx)) (8+k) (c-(8+k)) (n-k) (o+(8+k)) (by omega) (by rw[HLn.o.2];omega) (by omega) (by omega)) (by rw[hdl];omega))
    have HDl:=hid hdl;clear hlt hdl;go_upto_region 13 with(go_at_call 148;(with_reducible refine HDe.o.mono ?_);rintro e wd ⟨hbd,r,m,er,rfl,hor⟩;unfold qq Fl.recV)
    have HBd:=HB.t hbd;have HSd:=hid (HS.o.keep hbd);have HBw:=HB.o.size;clear hbd HDe;rcases hor with⟨m,hdm,rfl,rfl⟩|⟨hdn,hne0⟩
    ·obtain⟨hm1,hm2,-,-⟩:=Gd.decR_le hdm;rw[HDl.o]at hm2;have HDm:=hid hdm;obtain⟨s,hs⟩:∃s:ByteArray,s=⟨r.d.toArray⟩:=⟨_,rfl⟩;have HRc:Hid (zN r=#[.int .i64 r.call,.int .i64 r.inode,.bool r.tr,.int .i64 r.off,.string s]):=hid (by rw[hs];rfl);rw[←hs];obtain⟨r0,hr0⟩:=nm r.call;obtain⟨r1,hr1⟩:=nm r.inode;obtain⟨r2,hr2⟩:=nm r.tr;obtain⟨r3,hr3⟩:=nm r.off;rw[←hr0,←hr1,←hr2,←hr3]at HRc⊢;obtain⟨we,hwe⟩:=nm (wd.alloc (.cells #[.int .i64 r0,.int .i64 r1,.bool r2,.int .i64 r3,.string s] 57));rw[←hwe];have hbe:Below wd.heap.size wd we:=by rw[hwe];exact(Below.refl _ wd).alloc (Nat.le_refl _) _
     have hge:we.heap[wd.heap.size]? =some (.cells #[.int .i64 r0,.int .i64 r1,.bool r2,.int .i64 r3,.string s] 57 (0,0)):=by rw[hwe];exact heap_alloc_new wd _
     obtain⟨g,hg⟩:=nm wd.heap.size;rw[←hg]at hge⊢;have d0:=cell_of_row we g 0 _ _ _ hge;have d1:=cell_of_row we g 1 _ _ _ hge;have d2:=cell_of_row we g 2 _ _ _ hge;have d3:=cell_of_row we g 3 _ _ _ hge;have d4:=cell_of_row we g 4 _ _ _ hge;have HBe:=HBd.t hbe;have HSe:=hid (HSd.o.keep hbe);clear hs hr0 hr1 hr2 hr3 hwe hbe hge hg hdm;obtain⟨i0,hi,hz0,hz1,hz2⟩:=info_parts infoRec;obtain⟨j0,hj,hy0,hy1,hy2⟩:=info_parts infoInt8;have hll:l.length≤1024:=by omega
     go_upto_region 15 with fail
     go_upto_region 16 with(at_builtin;refine wpList_append_own _ rfl _ _ 81 rfl w3.heap.size 57 i0 _ 5 48 underlying81 hi hz0 hz1 hz2 rfl (by decide) u8 l.length (jd (l.map (·.1))) rfl (zx HSe.o.1 ((Below.refl _ _).alloc (Nat.le_refl _) _)) ⟨we.heap.size,0,none⟩ 1 1 [.int .i64 r0,.int .i64 r1,.bool r2,.int .i64 r3,.string s] rfl rfl (xn we _ _ _ _ _ _) (by intro u hu;simp at hu;rcases hu with rfl|rfl|rfl|rfl|rfl<;>rfl) (by unfold maxLen;omega) (by omega) (by have:=HBe.o.size;simp;omega) ?_;intro v' w8 h1 h2 h3)
     have hwa:Below we.heap.size we (we.alloc (.cells #[.int .i64 r0,.int .i64 r1,.bool r2,.int .i64 r3,.string s] 57)):=(Below.refl _ _).alloc (Nat.le_refl _) _;have HE8:Hid (w8.ownsRow w3.heap.size 3 1 u9 l.length (xI (l.map (·.2)))):=hid (xP (zx HSe.o.1 hwa) (zx HSe.o.2 hwa) (by decide) h2);have HB8:Hid (Below w3.heap.size w3 w8):=hid ((HBe.o.trans (hwa.mono HBe.o.size)).trans (xV (zx HSe.o.1 hwa) (Nat.le_trans HBe.o.size hwa.size) h2));have HR8:Hid (w8.ownsRow w3.heap.size 57 5 v' (l.length+1) (jd (l.map (·.1)++[r]))):=hid (by
      rw[xe,HRc.o];exact h1)
     clear h1 h2 h3 hwa d0 d1 d2 d3 d4;go_wp2_with(at_builtin;refine wpList_append_own _ rfl _ _ 58 rfl w3.heap.size 3 j0 _ 1 8 underlying58 hj hy0 hy1 hy2 rfl (by decide) u9 l.length (xI (l.map (·.2))) rfl (zx HE8.o ((Below.refl _ _).alloc (Nat.le_refl _) _)) ⟨w8.heap.size,0,none⟩ 1 1 [.int .i64 ((k:Int)+m)] rfl rfl (cell_one_new _ _ _) (by intro u hu;simp at hu;subst hu;rfl) (by unfold maxLen;omega) (by omega) (by have:=HB8.o.size;simp;omega) ?_;intro v2 w9 h1 h2 h3)
     have hwb:Below w8.heap.size w8 (w8.alloc (.cells #[.int .i64 ((k:Int)+m)] 3)):=(Below.refl _ _).alloc (Nat.le_refl _) _;have HR9:Hid (w9.ownsRow w3.heap.size 57 5 v' (l.length+1) (jd (l.map (·.1)++[r]))):=hid (xP (zx HE8.o hwb) (zx HR8.o hwb) (by decide) h2);have HB9:Hid (Below w3.heap.size w3 w9):=hid ((HB8.o.trans (hwb.mono HB8.o.size)).trans (xV (zx HE8.o hwb) (Nat.le_trans HB8.o.size hwb.size) h2));have HE9:Hid (w9.ownsRow w3.heap.size 3 1 v2 (l.length+1) (xI (l.map (·.2)++[k+m]))):=hid (by
      rw[un];rw[show((k:Int)+m)=((k+m:Nat):Int) by omega]at h1;exact h1)
     clear h1 h2 h3 hwb;go_wp2;go_roundw
     case rel=>
      obtain⟨f2,rfl⟩:∃f2,f=f2+1:=⟨f-1,by omega⟩;refine⟨k+m,f2,l++[(r,k+m)],by go_num,by omega,by simp;omega,hid ?_,hid ⟨?_,?_⟩,HB9⟩
      ·rw[HF.o,Gd.scanF_step (by omega) HDm.o,List.append_assoc];rfl
      ·rw[List.length_append,List.map_append];exact HR9.o
      ·rw[List.length_append,List.map_append];exact HE9.o
     case measure=>simp[intOf];omega
    ·have her:(er !=0)=true:=by simpa using hne0
     have her2:¬er=0:=hne0;have HBe:=hid (HBd.o.alloc HBd.o.size (.cells #[.int .i64 r.call,.int .i64 r.inode,.bool r.tr,.int .i64 r.off,.string ⟨r.d.toArray⟩] 57));have HSe:=hid (HSd.o.keep ((Below.refl _ wd).alloc (Nat.le_refl _) (.cells #[.int .i64 r.call,.int .i64 r.inode,.bool r.tr,.int .i64 r.off,.string ⟨r.d.toArray⟩] 57)));clear hne0;go_wp2_with fail
     go_ret2
     refine⟨_,_,rfl,?_,HBe.o⟩;rw[HScan.o,HF.o,Gd.scanF_stop hdn,List.append_nil];exact HSe.o
   ·have hk1:¬(k:Int)<n:=by omega
    clear hlt;go_wp2_with fail
    go_ret2
    refine⟨_,_,rfl,?_,HB.o⟩;rw[HScan.o,HF.o,Gd.scanF_end (by omega),List.append_nil];exact HS.o
 ·have HS0:Hid (Gd.scanL L ep head=[]):=hid (by
   rw[hScan,if_neg hgood])
  clear hScan hgn he hh hL hln hln2;by_cases h0:0≤head
  ·have h0n:¬head<0:=by omega
   cases gb with
   |false=>
    clear hgood hbn;go_enter func119,ntmps119;go_wp2_with(first|(go_at_call 66;refine HGet.o.mono ?_;rintro e w2 ⟨rfl,rfl⟩)|fail)
    go_ret2
    exact⟨_,_,rfl,by rw[HS0.o];exact jj _ _,Below.refl _ _⟩
   |true=>
    cases eb with
    |false=>
     rw[if_neg (by decide)]at HSp;clear hgood hbn;go_enter func119,ntmps119;go_wp2_with(first|(go_at_call 66;refine HGet.o.mono ?_;rintro e w2 ⟨rfl,rfl⟩)|(go_at_call 144;refine(HSp.o _).mono ?_;rintro e w3 ⟨rfl,rfl⟩))
     go_ret2
     exact⟨_,_,rfl,by rw[HS0.o];exact jj _ _,Below.refl _ _⟩
    |true=>
     rw[if_pos rfl]at HSp;obtain⟨z,hz⟩:∃z:Int,z=(p:Int)*4294967296+n:=⟨_,rfl⟩;rw[←hz]at HSp hge;clear hz;have hpe:¬(p:Int)=ep:=fun h=>hgood ⟨rfl,rfl,h,h0⟩;have hpe2:((p:Int) !=ep)=true:=by simpa using hpe
     clear hgood hbn;go_enter func119,ntmps119;go_wp2_with(first|(go_at_call 66;refine HGet.o.mono ?_;rintro e w2 ⟨rfl,rfl⟩)|(go_at_call 144;refine(HSp.o _).mono ?_;rintro e w3 ⟨rfl,rfl⟩))
     go_ret2
     exact⟨_,_,rfl,by rw[HS0.o];exact jj _ _,Below.refl _ _⟩
  ·have h0n:head<0:=by omega
   clear hgood hbn HSp HGet;go_enter func119,ntmps119;go_wp2_with fail
   go_ret2
   exact⟨_,_,rfl,by rw[HS0.o];exact jj _ _,Below.refl _ _⟩
end
section
open Go.Shelf
attribute [local go_sem] Oper.semAt_some
section
variable {R:RvB} {V:Gd.Vl} {w w':World}
theorem RvC.c4(h:RvC R V w):∃c1 c2 c3:Nat,w.cell? ⟨R.r,0,none⟩=some (.slice (some ⟨R.g1,0,none⟩) 8 c1)∧w.cell? ⟨R.r,1,none⟩=some (.int .i64 V.n)∧w.cell? ⟨R.r,2,none⟩=some (.slice (some ⟨R.g2,0,none⟩) 4 c2)∧w.cell? ⟨R.r,3,none⟩=some (.slice (some ⟨R.g3,0,none⟩) 8 c3)∧w.frozen? ⟨R.r,1,none⟩=false:=by
 obtain⟨c1,c2,c3,h1⟩:=h.obj;exact⟨c1,c2,c3,cell_of_row w R.r 0 _ _ _ h1,cell_of_row w R.r 1 _ _ _ h1,cell_of_row w R.r 2 _ _ _ h1,cell_of_row w R.r 3 _ _ _ h1,frozen_of_row w R.r 1 _ _ h1⟩
theorem RvC.s2(h:RvC R V w){d:Nat}(hd:d<8):w.cell? ⟨R.g1,d*6,none⟩=some (.int .i64 (V.s (d+1)).e)∧w.cell? ⟨R.g1,d*6+1,none⟩=some (.int .i64 (V.s (d+1)).h)∧w.frozen? ⟨R.g1,d*6,none⟩=false∧w.frozen? ⟨R.g1,d*6+1,none⟩=false:=by
 obtain⟨C,h1,-⟩:=h.sl;exact⟨h.slot hd 0 (by omega),h.slot hd 1 (by omega),frozen_of_row w R.g1 _ _ _ h1,frozen_of_row w R.g1 _ _ _ h1⟩
theorem RvC.s4(h:RvC R V w){d:Nat}(hd:d<8):w.cell? ⟨R.g1,d*6+4,none⟩=some (.int .i64 (V.s (d+1)).ki)∧w.cell? ⟨R.g1,d*6+5,none⟩=some (.int .i64 (V.s (d+1)).w)∧w.frozen? ⟨R.g1,d*6+4,none⟩=false∧w.frozen? ⟨R.g1,d*6+5,none⟩=false:=by
 obtain⟨C,h1,-⟩:=h.sl;exact⟨h.slot hd 4 (by omega),h.slot hd 5 (by omega),frozen_of_row w R.g1 _ _ _ h1,frozen_of_row w R.g1 _ _ _ h1⟩
theorem RvC.as(h:RvC R V w){U:Gd.Vl}(h1:U.n=V.n)(h2:∀c,1≤c→c≤8→U.s c=V.s c)(h3:∀i,2≤i→i≤5→U.fs i=V.fs i)(h4:∀c,1≤c→c≤8→U.lg c=V.lg c):RvC R U w:=by
 obtain⟨a1,⟨C1,a2,a3⟩,⟨C2,a4,a5⟩,⟨C3,a6,a7⟩,a8,a9⟩:=h;exact⟨by rw[h1];exact a1,⟨C1,a2,fun c i hc hi=>by rw[h2 _ (by omega) (by omega)];exact a3 c i hc hi⟩,⟨C2,a4,fun k hk=>by rw[h3 _ (by omega) (by omega)];exact a5 k hk⟩,⟨C3,a6,a7⟩,fun c hc=>by rw[h4 _ (by omega) (by omega)];exact a8 c hc,a9⟩
theorem RvB.has_r(R:RvB):R.has R.r:=Or.inl rfl
theorem RvB.has_1(R:RvB):R.has R.g1:=Or.inr (Or.inl rfl)
theorem RvB.has_2(R:RvB):R.has R.g2:=Or.inr (Or.inr (Or.inl rfl))
theorem RvB.has_b(R:RvB){c:Nat}(hc:c<8):R.has (R.bs c):=Or.inr (Or.inr (Or.inr (Or.inr ⟨c,hc,rfl⟩)))
theorem Q2(h:RvC R V w)(c:Int)(d:Nat)(hcd:c=(d:Int)+1)(hd:d<8)(he:(V.s (d+1)).e<1073741824)(hn:V.n≤2000000):
 Calls prog 61 #[.pointer (some ⟨R.r,0,none⟩),.int .i64 c] w fun e w'=>e= .returned (.int .i64 0)∧RvC R (V.sets (d+1) (Gd.overS (V.s (d+1)))) w'∧zi R.has w w':=by
 obtain⟨c1,c2,c3,a0,a1,a2,a3,af⟩:=h.c4;obtain⟨b0,b1,bf0,bf1⟩:=h.s2 hd;have hw1:IntKind.i64.wrap (c-1)=(d:Int):=by rw[IntKind.wrap_i64];omega
 have hd1:(d:Int)<8:=by omega
 have hd0:(0:Int)≤d:=by omega
 have hc1:¬c<1:=by omega
 have hc8:¬8<c:=by omega
 obtain⟨e0,he0⟩:=nm ((V.s (d+1)).e);have HE:=hid he0;rw[←he0]at b0 he;have hne:¬(e0:Int)=1073741824:=by omega
 have H:=hid h;have HD:=hid hd;have HN:=hid hn;clear h hd he0 hcd hn;go_enter func61,ntmps61;go_upto_region 4 with fail
 obtain⟨wz,hwz⟩:=nm (w.setCell ⟨R.g1,d*6,none⟩ (.int .i64 ((e0:Int)+1)));rw[←hwz];have Hz:=hid (H.o.setField HD.o (show 0<6 by omega) (.int .i64 ((e0:Int)+1)) {V.s (d+1)with e:=e0+1} (by
  unfold zm;dsimp only;rw[show((e0+1:Nat):Int)=(e0:Int)+1 by omega];rfl))
 rw[show d*6+0=d*6 from rfl,←hwz]at Hz;have HO:Hid (zi R.has w wz):=hid (by rw[hwz];exact zq _ _ _ R.has_1);clear hwz a0 a1 a2 a3 af b0 b1 bf0 bf1;obtain⟨c1,c2,c3,a0,a1,a2,a3,af⟩:=Hz.o.c4;obtain⟨b0,b1,bf0,bf1⟩:=Hz.o.s2 HD.o;go_upto_region 5 with fail
 obtain⟨wy,hwy⟩:=nm (wz.setCell ⟨R.g1,d*6+1,none⟩ (.int .i64 0));rw[←hwy];have Hy:=hid (Hz.o.setField HD.o (show 1<6 by omega) (.int .i64 0) {V.s (d+1)with e:=e0+1,h:=0} (by
  unfold zm Gd.updS;dsimp only;rw[if_pos rfl];rfl))
 rw[←hwy]at Hy;have HOy:Hid (zi R.has w wy):=hid (HO.o.trans (by rw[hwy];exact zq _ _ _ R.has_1) fun _ _ e=>e);clear hwy a0 a1 a2 a3 af b0 b1 bf0 bf1;obtain⟨c1,c2,c3,a0,a1,a2,a3,af⟩:=Hy.o.c4;dsimp only at a1;obtain⟨n0,hn0⟩:=nm V.n;have hN:=HN.o;rw[←hn0]at a1 hN;have HN0:=hid hn0;clear hn0;go_upto_region 6 with fail
 obtain⟨wx,hwx⟩:=nm (wy.setCell ⟨R.r,1,none⟩ (.int .i64 ((n0:Int)+1)));rw[←hwx];have Hx:=hid (Hy.o.setN (n0+1));rw[show((n0+1:Nat):Int)=(n0:Int)+1 by omega,←hwx]at Hx;have HOx:Hid (zi R.has w wx):=hid (HOy.o.trans (by rw[hwx];exact zq _ _ _ R.has_r) fun _ _ e=>e);clear hwx a0 a1 a2 a3 af;go_wp2;go_ret
 refine⟨rfl,Hx.o.as ?_ (fun c _ _=> ?_) (fun _ _ _=>rfl) (fun _ _ _=>rfl),HOx.o⟩
 ·show V.n+1=n0+1
  rw[HN0.o]
 ·show(if c=d+1 then Gd.overS (V.s (d+1))else V.s c)=if c=d+1 then _ else if c=d+1 then _ else V.s c
  by_cases e:c=d+1
  ·rw[if_pos e,if_pos e,HE.o];rfl
  ·rw[if_neg e,if_neg e,if_neg e]
theorem JL(h:RvC R V w)(c:Int)(d:Nat)(hcd:c=(d:Int)+1)(hd:d<8)(he:(V.s (d+1)).e=1073741824):
 Calls prog 61 #[.pointer (some ⟨R.r,0,none⟩),.int .i64 c] w fun e w'=>e= .returned (.int .i64 1)∧w'=w:=by
 obtain⟨c1,c2,c3,a0,a1,a2,a3,af⟩:=h.c4;obtain⟨b0,b1,bf0,bf1⟩:=h.s2 hd;have hw1:IntKind.i64.wrap (c-1)=(d:Int):=by rw[IntKind.wrap_i64];omega
 have hd1:(d:Int)<8:=by omega
 have hd0:(0:Int)≤d:=by omega
 have hc1:¬c<1:=by omega
 have hc8:¬8<c:=by omega
 rw[he]at b0;clear h hd he hcd;go_enter func61,ntmps61;go_wp2;go_ret
 exact⟨rfl,rfl⟩
theorem Q3(c:Int)(hc:¬(1≤c∧c≤8))(r:Nat)(w:World):
 Calls prog 61 #[.pointer (some ⟨r,0,none⟩),.int .i64 c] w fun e w'=>e= .returned (.int .i64 1)∧w'=w:=by
 by_cases h1:c<1
 ·clear hc;go_enter func61,ntmps61;go_wp2;go_ret
  exact⟨rfl,rfl⟩
 ·have h8:8<c:=by omega
  clear hc;go_enter func61,ntmps61;go_wp2;go_ret
  exact⟨rfl,rfl⟩
theorem vP(h:RvC R V w)(hok:V.Ok)(hn:V.n≤2000000)(c:Nat)(c1:1≤c)(c2:c≤8):
 Calls prog 61 #[.pointer (some ⟨R.r,0,none⟩),.int .i64 c] w fun e w'=>e= .returned (.int .i64 (if(V.s c).e<1073741824 then 0 else 1))∧RvC R (V.fence c) w'∧zi R.has w w':=by
 obtain⟨d,rfl⟩:∃d,c=d+1:=⟨c-1,by omega⟩;have hm:=(hok.may (d+1) c1 c2).e;unfold Gd.Vl.fence;by_cases he:(V.s (d+1)).e<1073741824
 ·rw[if_pos he,if_pos he];exact Q2 h _ d (by omega) (by omega) he hn
 ·rw[if_neg he,if_neg he];refine(JL h _ d (by omega) (by omega) (by omega)).mono ?_
  rintro e w' ⟨he,rfl⟩;exact⟨he,h,zi.refl _ _⟩
theorem ZQ(h:RvC R V w)(c:Int)(d:Nat)(hcd:c=(d:Int)+1)(hd:d<8)(s:Gd.Slot)(hs:s.May)(hn:V.n≤2000000):
 Calls prog 58 #[.pointer (some ⟨R.r,0,none⟩),.int .i64 c,zO s] w fun e w'=>e= .returned (.int .i64 0)∧RvC R (V.sets (d+1) s) w'∧zi R.has w w':=by
 have hmy:jE s.e s.h s.r s.ke s.ki s.w=true:=by
  have h1:=hs.e;have h2:=hs.h;have h3:=hs.r;have h4:=hs.ke;have h5:=hs.ki;have h6:=hs.w;unfold jE;simp only[Bool.and_eq_true,decide_eq_true_eq];omega
 obtain⟨e0,h0,r0,ke0,ki0,s0⟩:=s;dsimp only at hmy;obtain⟨w1,hw1⟩:=nm (w.alloc (.cells #[.int .i64 e0,.int .i64 h0,.int .i64 r0,.int .i64 ke0,.int .i64 ki0,.int .i64 s0] 48));obtain⟨b,hb⟩:=nm w.heap.size;have hb1:Below w.heap.size w w1:=by rw[hw1];exact(Below.refl _ _).alloc (Nat.le_refl _) _
 have hg1:w1.heap[b]? =some (.cells #[.int .i64 e0,.int .i64 h0,.int .i64 r0,.int .i64 ke0,.int .i64 ki0,.int .i64 s0] 48 (0,0)):=by rw[hw1,hb];exact heap_alloc_new _ _
 have HMay:=hid (yv e0 h0 r0 ke0 ki0 s0 w1);rw[hmy]at HMay;unfold jr at HMay;have HG1:=hid hg1;have HB1:=hid hb1;have H0:=hid h;have H1:=hid (h.below hb1);have HNb:Hid (¬R.has b):=hid fun hq=>by
  have:=h.lt hq
  omega
 have hwr:IntKind.i64.wrap (c-1)=(d:Int):=by rw[IntKind.wrap_i64];omega
 have hd1:(d:Int)<8:=by omega
 have hd0:(0:Int)≤d:=by omega
 have hc1:¬c<1:=by omega
 have hc8:¬8<c:=by omega
 unfold zO zm;dsimp only;have HW1:=hid hw1.symm;have Hb:=hid hb.symm;have HD:=hid hd;have HN:=hid hn;clear h hd hn hcd hs hmy hw1 hb hb1 hg1;go_enter func58,ntmps58;go_upto_region 1 with fail
 rw[HW1.o,Hb.o];have k0:=cell_of_row w1 b 0 _ _ _ HG1.o;have k1:=cell_of_row w1 b 1 _ _ _ HG1.o;have k2:=cell_of_row w1 b 2 _ _ _ HG1.o;have k3:=cell_of_row w1 b 3 _ _ _ HG1.o;have k4:=cell_of_row w1 b 4 _ _ _ HG1.o;have k5:=cell_of_row w1 b 5 _ _ _ HG1.o;go_wp2_with fail
 refine HMay.o.mono ?_;rintro e w2 ⟨rfl,hb2⟩;clear k0 k1 k2 k3 k4 k5;have HB2:=HB1.t hb2;have HG2:=hid ((hb2.block b (za HG1.o)).trans HG1.o);have H2:=hid (H1.o.below hb2);obtain⟨c1,c2,c3,a0,a1,a2,a3,af⟩:=H2.o.c4;clear hb2 HMay a1 a2 a3 af;go_upto_region 4 with fail
 have hS:∀W:World,W.heap[R.r]? =w2.heap[R.r]? →W.heap[b]? =w2.heap[b]? →W.cell? ⟨R.r,0,none⟩=some (.slice (some ⟨R.g1,0,none⟩) 8 c1)∧W.cell? ⟨b,0,none⟩=some (.int .i64 e0)∧W.cell? ⟨b,1,none⟩=some (.int .i64 h0)∧W.cell? ⟨b,2,none⟩=some (.int .i64 r0)∧W.cell? ⟨b,3,none⟩=some (.int .i64 ke0)∧W.cell? ⟨b,4,none⟩=some (.int .i64 ki0)∧W.cell? ⟨b,5,none⟩=some (.int .i64 s0):=fun W q1 q2=>by
  have hg:=q2.trans HG2.o;exact⟨(World.cell?_of_block (w:=w2) (a:=⟨R.r,0,none⟩) q1).trans a0,cell_of_row W b 0 _ _ _ hg,cell_of_row W b 1 _ _ _ hg,cell_of_row W b 2 _ _ _ hg,cell_of_row W b 3 _ _ _ hg,cell_of_row W b 4 _ _ _ hg,cell_of_row W b 5 _ _ _ hg⟩
 have hs0:=hS w2.drew rfl rfl;have hz:=(H2.o.below (Below.refl _ w2).drew).setSlot HD.o ⟨e0,h0,r0,ke0,ki0,s0⟩;unfold zm at hz;dsimp only at hz;obtain⟨hz1,hz2,hz3⟩:=hz;obtain⟨wz,hwz⟩:=nm (w2.drew.setCells R.g1 (d*6) [.int .i64 e0,.int .i64 h0,.int .i64 r0,.int .i64 ke0,.int .i64 ki0,.int .i64 s0]);have hs1:=hS wz (by
  rw[hwz];obtain⟨x1,x2,x3,hx⟩:=H2.o.obj;obtain⟨C,hC,-⟩:=H2.o.sl;exact(jf R.g1 _ (d*6) w2.drew).block R.r (za hx) fun e=>zX hx hC (by decide) (Option.some.inj e)) (by
  rw[hwz];obtain⟨C,hC,-⟩:=H2.o.sl;exact(jf R.g1 _ (d*6) w2.drew).block b (za HG2.o) fun e=>HNb.o (by rw[Option.some.inj e];exact R.has_1))
 have HZ:=hid (And.intro hz1 (And.intro hz2 hz3));clear a0 hz1 hz2 hz3;refine wp_region_held_drew (S:=(fun W=>W.cell? ⟨R.r,0,none⟩=some (.slice (some ⟨R.g1,0,none⟩) 8 c1)∧W.cell? ⟨b,0,none⟩=some (.int .i64 e0)∧W.cell? ⟨b,1,none⟩=some (.int .i64 h0)∧W.cell? ⟨b,2,none⟩=some (.int .i64 r0)∧W.cell? ⟨b,3,none⟩=some (.int .i64 ke0)∧W.cell? ⟨b,4,none⟩=some (.int .i64 ki0)∧W.cell? ⟨b,5,none⟩=some (.int .i64 s0))) (by kernel_rfl) ?_ (fun hHeld=> ?_)
 ·exact hs0
 refine tk 0 ?_;refine tk 1 ?_;refine tk 2 ?_;refine tk 3 ?_;refine tk 4 ?_;refine tk 5 ?_;refine tk 6 ?_;refine tk 7 ?_;refine rd 8 (fun K hK=> ?_);refine wp_store_mid 48 _ _ rfl R.g1 (d*6) #[.int .i64 e0,.int .i64 h0,.int .i64 r0,.int .i64 ke0,.int .i64 ki0,.int .i64 s0] (by go_simp) (by go_simp) HZ.o.2.2 sizeSlot (jc ⟨e0,h0,r0,ke0,ki0,s0⟩) ?_;rw[show w2.drew.setCells R.g1 (d*6) (#[.int .i64 e0,.int .i64 h0,.int .i64 r0,.int .i64 ke0,.int .i64 ki0,.int .i64 s0]:Array Value).toList=wz from hwz.symm];try dsimp only
 refine hK.o _ _ hs1 (fun hHeld=> ?_);clear hK K;try simp only[put]
 refine dn ?_
 (try simp only[Exit.then])
 rw[show w2.drew.setCells R.g1 (d*6) (#[.int .i64 e0,.int .i64 h0,.int .i64 r0,.int .i64 ke0,.int .i64 ki0,.int .i64 s0]:Array Value).toList=wz from hwz.symm]at HZ;have HOz:Hid (zi R.has w wz):=hid ((zg HB2.o R.has).trans ((zg (Below.refl _ w2).drew R.has).trans HZ.o.2.1 fun _ _ e=>e) fun _ _ e=>e);obtain⟨c1,c2,c3,a0,a1,a2,a3,af⟩:=HZ.o.1.c4;dsimp only at a1;clear hwz hs0 hs1 hS a0 a2 a3;obtain⟨n0,hn0⟩:=nm V.n;have hN:=HN.o;rw[←hn0]at a1 hN;have HN0:=hid hn0;clear hn0;go_upto_region 6 with fail
 obtain⟨wx,hwx⟩:=nm (wz.setCell ⟨R.r,1,none⟩ (.int .i64 ((n0:Int)+1)));rw[←hwx];have Hx:=hid (HZ.o.1.setN (n0+1));rw[show((n0+1:Nat):Int)=(n0:Int)+1 by omega,←hwx]at Hx;have HOx:Hid (zi R.has w wx):=hid (HOz.o.trans (by rw[hwx];exact zq _ _ _ R.has_r) fun _ _ e=>e);clear hwx a1 af;go_wp2;go_ret
 refine⟨rfl,Hx.o.as ?_ (fun c _ _=>rfl) (fun _ _ _=>rfl) (fun _ _ _=>rfl),HOx.o⟩;show V.n+1=n0+1
 rw[HN0.o]
theorem ZR(c e0 h0 r0 ke0 ki0 s0:Int)(hc:¬((1≤c∧c≤8)∧jE e0 h0 r0 ke0 ki0 s0=true))(r:Nat)(w:World):
 Calls prog 58 #[.pointer (some ⟨r,0,none⟩),.int .i64 c,.agg (jr e0 h0 r0 ke0 ki0 s0)] w fun e w'=>e= .returned (.int .i64 1)∧Below w.heap.size w w':=by
 obtain⟨w1,hw1⟩:=nm (w.alloc (.cells #[.int .i64 e0,.int .i64 h0,.int .i64 r0,.int .i64 ke0,.int .i64 ki0,.int .i64 s0] 48));obtain⟨b,hb⟩:=nm w.heap.size;have hb1:Below w.heap.size w w1:=by rw[hw1];exact(Below.refl _ _).alloc (Nat.le_refl _) _
 have hg1:w1.heap[b]? =some (.cells #[.int .i64 e0,.int .i64 h0,.int .i64 r0,.int .i64 ke0,.int .i64 ki0,.int .i64 s0] 48 (0,0)):=by rw[hw1,hb];exact heap_alloc_new _ _
 have HMay:=hid (yv e0 h0 r0 ke0 ki0 s0 w1);obtain⟨m,hm⟩:=nm (jE e0 h0 r0 ke0 ki0 s0);rw[←hm]at hc HMay;unfold jr at HMay⊢;have HB1:=hid hb1;have HW1:=hid hw1.symm;have Hb:=hid hb.symm;have k0:=cell_of_row w1 b 0 _ _ _ hg1;have k1:=cell_of_row w1 b 1 _ _ _ hg1;have k2:=cell_of_row w1 b 2 _ _ _ hg1;have k3:=cell_of_row w1 b 3 _ _ _ hg1;have k4:=cell_of_row w1 b 4 _ _ _ hg1;have k5:=cell_of_row w1 b 5 _ _ _ hg1;clear hw1 hb hb1 hg1 hm;by_cases h1:c<1
 ·clear hc;go_enter func58,ntmps58;go_upto_region 1 with fail
  rw[HW1.o,Hb.o];go_wp2_with fail
  refine HMay.o.mono ?_;rintro e w2 ⟨rfl,hb2⟩;have HB2:=HB1.t hb2;go_wp2_with fail
  go_ret
  exact⟨rfl,HB2.o⟩
 ·by_cases h8:8<c
  ·clear hc;go_enter func58,ntmps58;go_upto_region 1 with fail
   rw[HW1.o,Hb.o];go_wp2_with fail
   refine HMay.o.mono ?_;rintro e w2 ⟨rfl,hb2⟩;have HB2:=HB1.t hb2;go_wp2_with fail
   go_ret
   exact⟨rfl,HB2.o⟩
  ·have hmf:m=false:=by
    cases m with
    |false=>rfl
    |true=>exact absurd ⟨⟨by omega,by omega⟩,rfl⟩ hc
   subst hmf;clear hc;go_enter func58,ntmps58;go_upto_region 1 with fail
   rw[HW1.o,Hb.o];go_wp2_with fail
   refine HMay.o.mono ?_;rintro e w2 ⟨rfl,hb2⟩;have HB2:=HB1.t hb2;go_wp2_with fail
   go_ret
   exact⟨rfl,HB2.o⟩
end
end
section
open Go.Shelf
attribute [local go_sem] Oper.semAt_some
section
variable {R:RvB} {V:Gd.Vl} {w w':World}
theorem yw(h:RvC R V w)(hok:V.Ok)(c:Int)(d:Nat)(hcd:c=(d:Int)+1)(hd:d<8):
 Calls prog 76 #[.pointer (some ⟨R.r,0,none⟩),.int .i64 c] w fun e w'=>∃u v,e= .returned (.tuple #[u,v])∧jx w.heap.size w' u v (V.pend (d+1))∧Below w.heap.size w w':=by
 have hl:=hok.log (d+1) (by omega) (by omega);have hm:=hok.may (d+1) (by omega) (by omega);have HSc:=hid (QZ _ (V.lg (d+1)) (V.s (d+1)).e (V.s (d+1)).h w.drew ((h.below (Below.refl _ _).drew).bytes hd hl) hl (zu (by have:=hm.e;omega)) (zu (by have:=hm.h;omega)));obtain⟨c1,c2,c3,a0,-,-,a3,-⟩:=h.c4;obtain⟨b0,b1,-,-⟩:=h.s2 hd;have g0:=h.log hd;have hlt:=And.intro (h.lt R.has_r) (And.intro (h.lt R.has_1) (h.lt (q:=R.g3) (Or.inr (Or.inr (Or.inr (Or.inl rfl))))));unfold Gd.Vl.pend;obtain⟨L,hL⟩:=nm (V.lg (d+1));obtain⟨e0,he0⟩:=nm ((V.s (d+1)).e);obtain⟨h0,hh0⟩:=nm ((V.s (d+1)).h);rw[←hL,←he0,←hh0]at HSc⊢;rw[←he0]at b0;rw[←hh0]at b1;have hwr:IntKind.i64.wrap (c-1)=(d:Int):=by rw[IntKind.wrap_i64];omega
 have hd1:(d:Int)<8:=by omega
 have hd0:(0:Int)≤d:=by omega
 have hS:∀W:World,Below w.heap.size w W→W.cell? ⟨R.r,0,none⟩=some (.slice (some ⟨R.g1,0,none⟩) 8 c1)∧W.cell? ⟨R.r,3,none⟩=some (.slice (some ⟨R.g3,0,none⟩) 8 c3)∧W.cell? ⟨R.g3,d,none⟩=some (.slice (some ⟨R.bs d,0,none⟩) 1024 1024)∧W.cell? ⟨R.g1,d*6,none⟩=some (.int .i64 e0)∧W.cell? ⟨R.g1,d*6+1,none⟩=some (.int .i64 h0):=fun W hW=>⟨(hW.cell (p:=⟨R.r,0,none⟩) hlt.1).trans a0,(hW.cell (p:=⟨R.r,3,none⟩) hlt.1).trans a3,(hW.cell (p:=⟨R.g3,d,none⟩) hlt.2.2).trans g0,(hW.cell (p:=⟨R.g1,d*6,none⟩) hlt.2.1).trans b0,(hW.cell (p:=⟨R.g1,d*6+1,none⟩) hlt.2.1).trans b1⟩;have hs0:=hS w.drew (Below.refl _ _).drew;have HS:=hid hS;clear h hok hl hm hL he0 hh0 hcd hlt hS a0 a3 b0 b1 g0;go_enter func76,ntmps76;go_upto_region 1 with fail
 refine wp_region_held_drew (S:=(fun W=>W.cell? ⟨R.r,0,none⟩=some (.slice (some ⟨R.g1,0,none⟩) 8 c1)∧W.cell? ⟨R.r,3,none⟩=some (.slice (some ⟨R.g3,0,none⟩) 8 c3)∧W.cell? ⟨R.g3,d,none⟩=some (.slice (some ⟨R.bs d,0,none⟩) 1024 1024)∧W.cell? ⟨R.g1,d*6,none⟩=some (.int .i64 e0)∧W.cell? ⟨R.g1,d*6+1,none⟩=some (.int .i64 h0))) (by kernel_rfl) ?_ (fun hHeld=> ?_)
 ·exact hs0
 refine tk 0 ?_;refine tk 1 ?_;refine tk 2 ?_;refine tk 3 ?_;refine tk 4 ?_;refine tk 5 ?_;refine tk 6 ?_;refine tk 7 ?_;refine tk 8 ?_;refine tk 9 ?_;refine tk 10 ?_;refine tk 11 ?_;refine tk 12 ?_;refine tk 13 ?_;refine tk 14 ?_;refine tk 15 ?_;refine tk 16 ?_;refine tk 17 ?_;refine tk 18 ?_;refine tk 19 ?_;refine tk 20 ?_;refine tk 21 ?_;refine tk 22 ?_;refine tk 23 ?_;refine tk 24 ?_;refine tk 25 ?_;refine rd 26 (fun K hK=> ?_);go_simp
 refine HSc.o.mono ?_;rintro e w2 ⟨u,v,rfl,hs2,hb2⟩;have HS2:=hid hs2;have HB2:=hid ((Below.refl w.heap.size w).drew.trans hb2);have hs1:=HS.o w2 HB2.o;clear hs2 hb2;try dsimp only
 refine hK.o _ _ hs1 (fun hHeld=> ?_);clear hK K;try simp only[put]
 refine tk 27 ?_;refine tk 28 ?_;refine tk 29 ?_;refine tk 30 ?_;refine dn ?_
 (try simp only[Exit.then])
 clear hs0 hs1 HSc HS;go_wp2;go_ret2
 exact⟨u,v,rfl,HS2.o,HB2.o⟩
theorem JI(h:RvC R V w)(hok:V.Ok){c at_:Nat}:RvC R (V.setLog c at_ []) w:=
 h.as rfl (fun _ _ _=>rfl) (fun _ _ _=>rfl) fun k k1 k2=>by
  show(if k=c then Gd.splice (V.lg c) at_ []else V.lg k)=V.lg k
  split
  ·rename_i e
   rw[e,Gd.splice_nil]
  ·rfl
theorem vO(h:RvC R V w)(hok:V.Ok)(c:Int)(d:Nat)(hcd:c=(d:Int)+1)(hd:d<8)(at_:Nat)(v:Value)(L:List UInt8)(hv:zr w v L)(hap:∀q,v.ownBlock=some q→¬R.has q)(ha:at_+L.length≤1024):
 Calls prog 109 #[.pointer (some ⟨R.r,0,none⟩),.int .i64 c,.int .i64 at_,v] w fun e w'=>e= .returned (.tuple #[])∧RvC R (V.setLog (d+1) at_ L) w'∧zi R.has w w':=by
 obtain⟨A,cp,rfl,hA⟩:=hv;have hwr:IntKind.i64.wrap (c-1)=(d:Int):=by rw[IntKind.wrap_i64];omega
 have hd1:(d:Int)<8:=by omega
 have hd0:(0:Int)≤d:=by omega
 obtain⟨N,hN⟩:=nm L.length;rw[←hN]at ha⊢;have HN:=hid hN;have HA:=hid hA;have HAp:=hid hap;have HOk:=hid hok;have HD:=hid hd;have H0:=hid (JI h hok (c:=d+1) (at_:=at_));clear h hok hd hcd hN hA hap;go_enter func109,ntmps109;go_upto_region 1 with fail
 go_loopw[8] (fun z wr=>∃i:Nat,z= .int .i64 i∧i≤N∧Hid (RvC R (V.setLog (d+1) at_ (L.take i)) wr)∧Hid (zi R.has w wr)) (fun z _=>N-(intOf z).toNat)
 case atStart=>exact⟨0,rfl,by omega,by rw[List.take_zero];exact H0,hid (zi.refl _ _)⟩
 case round=>
  obtain⟨i,rfl,hiN,HR,HO⟩:=hrel;by_cases hlt:i<N
  ·obtain⟨x,hx⟩:∃x,L[i]? =some x:=⟨_,List.getElem?_eq_getElem (by have:=HN.o;omega)⟩;rcases HA.o with⟨_,h0,_⟩|⟨bb,o,rfl,hbl,hcell⟩
   ·rw[h0]at hx;simp at hx
   have hc:=(HO.o.cell (p:=⟨bb,o+i,none⟩) hbl (HAp.o bb rfl)).trans (hcell i x hx);have HVi:Hid ((V.setLog (d+1) at_ (L.take i)).Ok):=hid (HOk.o.setLog (by rw[List.length_take];omega));have hll:=HVi.o.log (d+1) (by omega) (by have:=HD.o;omega);obtain⟨y,hy⟩:∃y,((V.setLog (d+1) at_ (L.take i)).lg (d+1))[at_+i]? =some y:=⟨_,List.getElem?_eq_getElem (by omega)⟩;have hrow:=HR.o.row d HD.o;have y0:wr.cell? ⟨R.bs d,at_+i,none⟩=some (.int .u8 y.toNat):=j3 hrow hy;have yf:wr.frozen? ⟨R.bs d,at_+i,none⟩=false:=frozen_of_row wr (R.bs d) _ _ _ hrow;obtain⟨c1,c2,c3,-,-,-,a3,-⟩:=HR.o.c4;have g0:=HR.o.log HD.o;have h1:(i:Int)<N:=by omega
   have h0:(0:Int)≤i:=by omega
   have h2:IntKind.i64.wrap ((at_:Int)+i)=(at_:Int)+i:=by rw[IntKind.wrap_i64];omega
   have h3:(at_:Int)+i<1024:=by omega
   have h4:(0:Int)≤(at_:Int)+i:=by omega
   have h5:((at_:Int)+i).toNat=at_+i:=by omega
   have HX:=hid hx;have hap:=HAp.o bb rfl;have hSw:∀W:World,(∀q,q≠R.bs d→W.heap[q]? =wr.heap[q]?)→W.cell? ⟨R.r,3,none⟩=some (.slice (some ⟨R.g3,0,none⟩) 8 c3)∧W.cell? ⟨R.g3,d,none⟩=some (.slice (some ⟨R.bs d,0,none⟩) 1024 1024)∧W.cell? ⟨bb,o+i,none⟩=some (.int .u8 x.toNat):=fun W hW=>by
    obtain⟨x1,x2,x3,hx⟩:=HR.o.obj;obtain⟨C3,hC3,-⟩:=HR.o.lg;exact⟨(World.cell?_of_block (w:=wr) (a:=⟨R.r,3,none⟩) (hW _ (zX hx hrow (by decide)))).trans a3,(World.cell?_of_block (w:=wr) (a:=⟨R.g3,d,none⟩) (hW _ (zX hC3 hrow (by decide)))).trans g0,(World.cell?_of_block (w:=wr) (a:=⟨bb,o+i,none⟩) (hW _ fun e=>hap (by have e2:bb=R.bs d:=e;rw[e2];exact R.has_b HD.o))).trans hc⟩
   have hs0:=hSw wr.drew fun _ _=>rfl;have y1:wr.drew.cell? ⟨R.bs d,at_+i,none⟩=some (.int .u8 y.toNat):=y0;have yg:wr.drew.frozen? ⟨R.bs d,at_+i,none⟩=false:=yf;have hs1:=hSw (wr.setCell ⟨R.bs d,at_+i,none⟩ (.int .u8 x.toNat)).drew fun q hq=>Go.heap_setCell_other wr ⟨R.bs d,at_+i,none⟩ q _ fun e=>hq e;obtain⟨wz,hwz⟩:=nm ((wr.setCell ⟨R.bs d,at_+i,none⟩ (.int .u8 x.toNat)).drew);have HZ:Hid (RvC R (V.setLog (d+1) at_ (L.take (i+1))) wz):=hid (by
    have hz:=(HR.o.setByte HD.o (at_+i) x).below (Below.refl _ _).drew;rw[←hwz]at hz;refine hz.as rfl (fun _ _ _=>rfl) (fun _ _ _=>rfl) fun k k1 k2=> ?_;show(if k=d+1 then Gd.splice (V.lg (d+1)) at_ (L.take (i+1))else V.lg k)=if k=d+1 then(if d+1=d+1 then Gd.splice (V.lg (d+1)) at_ (L.take i)else _).set (at_+i) x else if k=d+1 then Gd.splice (V.lg (d+1)) at_ (L.take i)else V.lg k
    by_cases e:k=d+1
    ·rw[if_pos e,if_pos e,if_pos rfl];exact(vl hx (by have:=HOk.o.log (d+1) (by omega) (by have:=HD.o;omega);have:=HN.o;omega)).symm
    ·rw[if_neg e,if_neg e,if_neg e])
   have HOz:Hid (zi R.has w wz):=hid (HO.o.trans (by rw[hwz];exact(zq wr ⟨R.bs d,at_+i,none⟩ (.int .u8 x.toNat) (R.has_b HD.o)).trans (zg (Below.refl _ _).drew R.has) fun _ _ e=>e) fun _ _ e=>e);clear hx hcell hlt hll hy hrow a3 g0 hc y0 yf hap hSw;go_upto_region 3 with fail
   refine wp_region_held_drew (S:=(fun W=>W.cell? ⟨R.r,3,none⟩=some (.slice (some ⟨R.g3,0,none⟩) 8 c3)∧W.cell? ⟨R.g3,d,none⟩=some (.slice (some ⟨R.bs d,0,none⟩) 1024 1024)∧W.cell? ⟨bb,o+i,none⟩=some (.int .u8 x.toNat))) (by kernel_rfl) ?_ (fun hHeld=> ?_)
   ·exact hs0
   refine tk 0 ?_;refine tk 1 ?_;refine tk 2 ?_;refine tk 3 ?_;refine tk 4 ?_;refine tk 5 ?_;refine tk 6 ?_;refine tk 7 ?_;refine tk 8 ?_;refine tk 9 ?_;refine tk 10 ?_;refine tk 11 ?_;refine tk 12 ?_;refine tk 13 ?_;refine tk 14 ?_;refine tk 15 ?_;refine rd 16 (fun K hK=> ?_);go_simp
   try dsimp only
   refine hK.o _ _ hs1 (fun hHeld=> ?_);clear hK K;try simp only[put]
   refine dn ?_
   (try simp only[Exit.then])
   rw[←hwz];clear hwz hs0 hs1 y1 yg;go_wp2_with fail
   go_roundw
   case rel=>exact⟨i+1,by go_num,by omega,HZ,HOz⟩
   case measure=>simp[intOf];omega
  ·obtain rfl:i=N:=by omega
   have h1:¬(i:Int)<i:=by omega
   clear hlt;go_wp2_with fail
   go_end0
   refine⟨rfl,?_,HO.o⟩;have:=HR.o
   rw[HN.o,List.take_length]at this;exact this
end
end
end Go.Proofs.YtccpdkjonepoiaaGreatDoor
