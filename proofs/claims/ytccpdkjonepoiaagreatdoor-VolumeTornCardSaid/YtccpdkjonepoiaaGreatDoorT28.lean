/- Walk: clog.Scan. -/
import Derived.Test.YtccpdkjonepoiaaGreatDoorT27
set_option linter.unusedVariables false
set_option linter.unusedSimpArgs false
set_option linter.unusedSectionVars false
set_option maxHeartbeats 8000000
set_option maxRecDepth 100000
namespace Go.Proofs.YtccpdkjonepoiaaGreatDoor
open Go.RowKit
open Lib(hid)
open Go.Proofs.Tryz
section
open Go.Shelf
attribute [local go_sem] Oper.semAt_some
theorem infoRec:(prog.info? 57).map (fun i=>(i.zero,i.size,i.bytes))=some (some (.agg #[.int .i64 0,.int .i64 0,.bool false,.int .i64 0,.string ByteArray.empty]),5,48):=by kernel_rfl
theorem infoInt8:(prog.info? 3).map (fun i=>(i.zero,i.size,i.bytes))=some (some (.int .i64 0),1,8):=by kernel_rfl
def jd(l:List Gd.Rec):List Value:=l.flatMap fun r=>(zN r).toList
def xI(l:List Nat):List Value:=l.map fun(n:Nat)=> .int .i64 n
theorem xe(l:List Gd.Rec)(r:Gd.Rec):jd (l++[r])=jd l++(zN r).toList:=by
 unfold jd;rw[List.flatMap_append];simp
theorem un(l:List Nat)(n:Nat):xI (l++[n])=xI l++[.int .i64 n]:=by
 unfold xI;rw[List.map_append];rfl
theorem xP{w w':World}{B B' e e' s s' n m:Nat}{u v:Value}{xs ys:List Value}(hu:w.ownsRow B e s u n xs)(hv:w.ownsRow B' e' s' v m ys)(hne:e≠e')(hg:w.grownBy w' u.ownBlock):w'.ownsRow B' e' s' v m ys:=
 ⟨hv.1,hv.2.imp id fun⟨q,cap,cur,hvq,hB,hgq,hr⟩=>⟨q,cap,cur,hvq,hB,(hg.block q (za hgq) (fun e1=>by
  rcases hu.2 with⟨hu1,_⟩|⟨q2,cap2,cur2,hu1,_,hgq2,_⟩
  ·rw[hu1]at e1;cases e1
  ·rw[hu1]at e1;have:q=q2:=by simpa [Value.ownBlock]using e1
   subst this;rw[hgq]at hgq2
   cases hgq2
   exact hne rfl)).trans hgq,hr⟩⟩
def jx(B:Nat)(w:World)(u v:Value)(l:List (Gd.Rec×Nat)):Prop:=
 w.ownsRow B 57 5 u l.length (jd (l.map (·.1)))∧w.ownsRow B 3 1 v l.length (xI (l.map (·.2)))
theorem jx.keep{B:Nat}{w w':World}{u v:Value}{l:List (Gd.Rec×Nat)}(h:jx B w u v l)(hb:Below w.heap.size w w'):jx B w' u v l:=⟨zx h.1 hb,zx h.2 hb⟩
theorem jj(B:Nat)(w:World):jx B w (.slice none 0 0) (.slice none 0 0) []:=⟨World.ownsRow_nil _ _ _ _,World.ownsRow_nil _ _ _ _⟩
theorem xn(w:World)(a b c d e:Value)(t:TypeId):∀j u,[a,b,c,d,e][j]? =some u→(w.alloc (.cells #[a,b,c,d,e] t)).cell? ((⟨w.heap.size,0,none⟩:Addr).add j)=some u:=by
 intro j u hj;have h:=cell_of_row (w.alloc (.cells #[a,b,c,d,e] t)) w.heap.size j #[a,b,c,d,e] t _ (heap_alloc_new w _);rw[Addr.add_lit,Nat.zero_add,h];simpa using hj
theorem xV{B:Nat}{w w':World}{e s n:Nat}{u:Value}{xs:List Value}(hu:w.ownsRow B e s u n xs)(hB:B≤w.heap.size)(hg:w.grownBy w' u.ownBlock):Below B w w':=
 jB hg hB fun k hk=>(zE hu k hk).1
theorem Yi{w:World}{b o:Nat}{L:List UInt8}(hb:b<w.heap.size)(hc:∀(j:Nat) (x:UInt8),L[j]? =some x→w.cell? ⟨b,o+j,none⟩=some (.int .u8 x.toNat))(lo m k o':Nat)(ho:o'=o+lo)(hk:lo+k≤L.length)(hm:k≤m)(hm2:m≤9223372036854775807):jD w (.slice (some ⟨b,o',none⟩) k m) ((L.drop lo).take k):=by
 have hl:((L.drop lo).take k).length=k:=by rw[List.length_take,List.length_drop];omega
 refine⟨b,o',m,by rw[hl],by rw[hl];exact hm,hm2,hb,fun j x hx=> ?_⟩;have hj:j<k:=by rw[←hl];exact(List.getElem?_eq_some_iff.mp hx).1
 rw[List.getElem?_take,if_pos hj,List.getElem?_drop]at hx;rw[ho,Nat.add_assoc];exact hc (lo+j) x hx
namespace Gd
theorem scanF_step{L:List UInt8}{n f head:Nat}(h:head<n){r:Rec}{k:Nat}(hd:decR ((L.drop (8+head)).take (n-head))=some (r,k)):scanF L n (f+1) head=(r,head+k)::scanF L n f (head+k):=by
 rw[scanF,if_pos h,hd]
theorem scanF_stop{L:List UInt8}{n f head:Nat}(hd:decR ((L.drop (8+head)).take (n-head))=none):scanF L n f head=[]:=by
 cases f with
 |zero=>rfl
 |succ f=>
  rw[scanF,hd];split<;>rfl
theorem scanF_end{L:List UInt8}{n f head:Nat}(h:¬head<n):scanF L n f head=[]:=by
 cases f with
 |zero=>rfl
 |succ f=>rw[scanF,if_neg h]
theorem decR_le{L:List UInt8}{r:Rec}{k:Nat}(h:decR L=some (r,k)):1≤k∧k≤L.length∧r=recOf L∧r.may=true:=by
 unfold decR at h;split at h
 ·rename_i hh
  obtain⟨h1,h2,h3,h4⟩:=hh
  cases h
  have:=(enc_prefix h1 h2).mp h4
  exact⟨by have:=up8_le (17+nOf L);omega,this.2.1,rfl,h3⟩
 ·cases h
end Gd
theorem XA(v:Value)(L:List UInt8)(ep head:Int)(w:World)(h:jD w v L)(hL:L.length=1024)(he:I64 ep)(hh:I64 head):
 Calls prog 120 #[v,.int .i64 ep,.int .i64 head] w fun e w'=>∃u x,e= .returned (.tuple #[u,x])∧jx w.heap.size w' u x (Gd.scanL L ep head)∧Below w.heap.size w w':=by
 have HV:=hid h;have hlo:=he.lo;have hlo2:=hh.lo;have HGet:=hid (jp v L ((0:Nat):Int) 8 (Or.inr (Or.inr (Or.inr rfl))) (zu (by omega)) w h.at_ (by omega));obtain⟨b,o,c,rfl,hc,hc2,hb,hcell⟩:=h;obtain⟨ln,hln⟩:=nm L.length;have hln2:ln=1024:=by omega
 have hlni:((ln:Int) !=1024)=false:=by rw[hln2];rfl
 rw[←hln]at hc HV HGet⊢;obtain⟨gb,hgb⟩:=nm (Gd.getB L ((0:Nat):Int) 8);obtain⟨x,hx⟩:∃x:Nat,Gd.get L ((0:Nat):Int) 8=(x:Int)∧x<9223372036854775808∧x=Gd.endN L∧(gb=false→x=0):=by
  unfold Gd.endN;show ∃x:Nat,Gd.get L ((0:Nat):Int) 8=(x:Int)∧x<9223372036854775808∧x=(Gd.get L ((0:Nat):Int) 8).toNat∧(gb=false→x=0)
  rw[hgb];unfold Gd.get;by_cases hg:Gd.getB L ((0:Nat):Int) 8=true
  ·have h63:Gd.getN L 0 8<9223372036854775808:=by
    unfold Gd.getB at hg;simp only[Bool.and_eq_true,decide_eq_true_eq]at hg;exact hg.2
   rw[if_pos hg];exact⟨Gd.getN L 0 8,rfl,h63,rfl,fun h=>by rw[hg]at h;cases h⟩
  ·rw[if_neg hg];exact⟨0,rfl,by omega,rfl,fun _=>rfl⟩
 obtain⟨hx1,hx2,hx3,hx4⟩:=hx;rw[hx1,←hgb]at HGet;have HSp:=hid (Jy x hx2);obtain⟨p,hp⟩:=nm (x/4294967296);obtain⟨n,hn⟩:=nm (x % 4294967296);rw[←hp,←hn]at HSp;obtain⟨eb,heb⟩:=nm (Gd.endB p n);rw[←heb]at HSp;have hScan:Gd.scanL L ep head=if gb=true∧eb=true∧(p:Int)=ep∧0≤head then Gd.scanF L n 1024 head.toNat else[]:=by
  unfold Gd.scanL;rw[←hx3,←hp,←hn,←heb];subst hgb;rfl
 have hbn:eb=true→n≤1016:=fun h=>by
  rw[heb]at h;have:=(qI _ _).mp h
  omega
 have hgn:gb=false→n=0:=fun h=>by rw[hn,hx4 h]
 have HC:=hid hcell;clear hgb hx1 hx3 hx4 hp heb hn hcell;by_cases hgood:eb=true∧(p:Int)=ep∧0≤head∧head≤n
 ·obtain⟨he1,he2,he3,he4⟩:=hgood;subst he1;obtain⟨hd,hhd⟩:∃k:Nat,head=k:=⟨head.toNat,by omega⟩;subst hhd;have hn16:=hbn rfl;have HScan:Hid (Gd.scanL L ep hd=Gd.scanF L n 1024 hd):=hid (by
   rw[hScan]
   cases gb with
   |true=>rw[if_pos ⟨rfl,rfl,he2,by omega⟩];rfl
   |false=>
    rw[if_neg (by simp),hgn rfl];exact(Gd.scanF_end (by omega)).symm)
  have hne:((p:Int) !=ep)=false:=by rw[he2];simp
  have hh1:decide (n<hd)=false:=decide_eq_false (by omega);have hh2:decide ((n:Int)<hd)=false:=decide_eq_false (by omega);rw[if_pos rfl]at HSp;have HLn:Hid (ln=1024∧L.length=1024):=hid ⟨hln2,hL⟩;clear hScan hbn hgn hlo hlo2 he hh hL hln hln2;go_enter func120,ntmps120;go_upto_region 1 with fail
  refine wp_scope_straight ?_;go_upto_region 9 with(first|(go_at_call 103;refine HGet.o.mono ?_;rintro e w2 ⟨rfl,rfl⟩)|(go_at_call 149;refine(HSp.o _).mono ?_;rintro e w3 ⟨rfl,rfl⟩))
  have hc8:¬c=8:=by have:=HLn.o.1;omega
  have h8a:(8:Int)≤8+n:=by omega
  have h8b:(8:Int)+n≤c:=by have:=HLn.o.1;omega
  have h8t:((8:Int)+n).toNat-8=n:=by omega
  have hnc:n≤c-8:=by have:=HLn.o.1;omega
  go_wp2_with fail
  go_step3
  go_upto_region 10 with fail
  have HHn:Hid (hd≤n):=hid (by omega);clear he4;go_loopw[2,13,14] (fun hv u v wr=>∃(k f:Nat) (l:List (Gd.Rec×Nat)),hv= .int .i64 k∧k≤n∧n-k<f∧l.length+f=1024∧Hid (Gd.scanF L n 1024 hd=l++Gd.scanF L n f k)∧Hid (jx w3.heap.size wr u v l)∧Hid (Below w3.heap.size w3 wr)) (fun hv _ _ _=>n-(intOf hv).toNat)
  case atStart=>exact⟨hd,1024,[],rfl,HHn.o,by omega,rfl,hid rfl,hid (jj _ _),hid (Below.refl _ _)⟩
  case round=>
   obtain⟨k,f,l,rfl,hk,hf,hlf,HF,HS,HB⟩:=hrel;by_cases hlt:k<n
   ·have hk1:(k:Int)<n:=by omega
    have hck:¬c-8=k:=by omega
    have hkn:(k:Int)≤n:=by omega
    have hdl:((L.drop (8+k)).take (n-k)).length=n-k:=by rw[List.length_take,List.length_drop,HLn.o.2];omega
    have HDe:=hid (YS (.slice (some ⟨b,o+8+k,none⟩) (n-k) (c-8-k)) ((L.drop (8+k)).take (n-k)) wr (by
     exact Yi (Nat.lt_of_lt_of_le hb HB.o.size) (fun j x hx=>(HB.o.cell (p:=⟨b,o+j,none⟩) hb).trans (HC.o j x hx)) (8+k) (c-8-k) (n-k) (o+8+k) (by omega) (by rw[HLn.o.2];omega) (by omega) (by omega)) (by rw[hdl];omega))
    have HDl:=hid hdl;clear hlt hdl;go_upto_region 12 with(go_at_call 150;refine HDe.o.mono ?_;rintro e wd ⟨hbd,r,m,er,rfl,hor⟩;unfold qq Fl.recV)
    have HBd:=HB.t hbd;have HSd:=hid (HS.o.keep hbd);have HBw:=HB.o.size;clear hbd HDe;rcases hor with⟨m,hdm,rfl,rfl⟩|⟨hdn,hne0⟩
    ·obtain⟨hm1,hm2,-,-⟩:=Gd.decR_le hdm;rw[HDl.o]at hm2;have HDm:=hid hdm;obtain⟨s,hs⟩:∃s:ByteArray,s=⟨r.d.toArray⟩:=⟨_,rfl⟩;have HRc:Hid (zN r=#[.int .i64 r.call,.int .i64 r.inode,.bool r.tr,.int .i64 r.off,.string s]):=hid (by rw[hs];rfl);rw[←hs];obtain⟨r0,hr0⟩:=nm r.call;obtain⟨r1,hr1⟩:=nm r.inode;obtain⟨r2,hr2⟩:=nm r.tr;obtain⟨r3,hr3⟩:=nm r.off;rw[←hr0,←hr1,←hr2,←hr3]at HRc⊢;obtain⟨we,hwe⟩:=nm (wd.alloc (.cells #[.int .i64 r0,.int .i64 r1,.bool r2,.int .i64 r3,.string s] 57));rw[←hwe];have hbe:Below wd.heap.size wd we:=by rw[hwe];exact(Below.refl _ wd).alloc (Nat.le_refl _) _
     have hge:we.heap[wd.heap.size]? =some (.cells #[.int .i64 r0,.int .i64 r1,.bool r2,.int .i64 r3,.string s] 57 (0,0)):=by rw[hwe];exact heap_alloc_new wd _
     obtain⟨g,hg⟩:=nm wd.heap.size;rw[←hg]at hge⊢;have d0:=cell_of_row we g 0 _ _ _ hge;have d1:=cell_of_row we g 1 _ _ _ hge;have d2:=cell_of_row we g 2 _ _ _ hge;have d3:=cell_of_row we g 3 _ _ _ hge;have d4:=cell_of_row we g 4 _ _ _ hge;have HBe:=HBd.t hbe;have HSe:=hid (HSd.o.keep hbe);clear hs hr0 hr1 hr2 hr3 hwe hbe hge hg hdm;obtain⟨i0,hi,hz0,hz1,hz2⟩:=info_parts infoRec;obtain⟨j0,hj,hy0,hy1,hy2⟩:=info_parts infoInt8;have hll:l.length≤1024:=by omega
     go_upto_region 14 with fail
     go_upto_region 15 with(at_builtin;refine wpList_append_own _ rfl _ _ 81 rfl w3.heap.size 57 i0 _ 5 48 underlying81 hi hz0 hz1 hz2 rfl (by decide) u13 l.length (jd (l.map (·.1))) rfl (zx HSe.o.1 ((Below.refl _ _).alloc (Nat.le_refl _) _)) ⟨we.heap.size,0,none⟩ 1 1 [.int .i64 r0,.int .i64 r1,.bool r2,.int .i64 r3,.string s] rfl rfl (xn we _ _ _ _ _ _) (by intro u hu;simp at hu;rcases hu with rfl|rfl|rfl|rfl|rfl<;>rfl) (by unfold maxLen;omega) (by omega) (by have:=HBe.o.size;simp;omega) ?_;intro v' w8 h1 h2 h3)
     have hwa:Below we.heap.size we (we.alloc (.cells #[.int .i64 r0,.int .i64 r1,.bool r2,.int .i64 r3,.string s] 57)):=(Below.refl _ _).alloc (Nat.le_refl _) _;have HE8:Hid (w8.ownsRow w3.heap.size 3 1 u14 l.length (xI (l.map (·.2)))):=hid (xP (zx HSe.o.1 hwa) (zx HSe.o.2 hwa) (by decide) h2);have HB8:Hid (Below w3.heap.size w3 w8):=hid ((HBe.o.trans (hwa.mono HBe.o.size)).trans (xV (zx HSe.o.1 hwa) (Nat.le_trans HBe.o.size hwa.size) h2));have HR8:Hid (w8.ownsRow w3.heap.size 57 5 v' (l.length+1) (jd (l.map (·.1)++[r]))):=hid (by
      rw[xe,HRc.o];exact h1)
     clear h1 h2 h3 hwa d0 d1 d2 d3 d4;go_wp2_with(at_builtin;refine wpList_append_own _ rfl _ _ 58 rfl w3.heap.size 3 j0 _ 1 8 underlying58 hj hy0 hy1 hy2 rfl (by decide) u14 l.length (xI (l.map (·.2))) rfl (zx HE8.o ((Below.refl _ _).alloc (Nat.le_refl _) _)) ⟨w8.heap.size,0,none⟩ 1 1 [.int .i64 ((k:Int)+m)] rfl rfl (cell_one_new _ _ _) (by intro u hu;simp at hu;subst hu;rfl) (by unfold maxLen;omega) (by omega) (by have:=HB8.o.size;simp;omega) ?_;intro v2 w9 h1 h2 h3)
     have hwb:Below w8.heap.size w8 (w8.alloc (.cells #[.int .i64 ((k:Int)+m)] 3)):=(Below.refl _ _).alloc (Nat.le_refl _) _;have HR9:Hid (w9.ownsRow w3.heap.size 57 5 v' (l.length+1) (jd (l.map (·.1)++[r]))):=hid (xP (zx HE8.o hwb) (zx HR8.o hwb) (by decide) h2);have HB9:Hid (Below w3.heap.size w3 w9):=hid ((HB8.o.trans (hwb.mono HB8.o.size)).trans (xV (zx HE8.o hwb) (Nat.le_trans HB8.o.size hwb.size) h2));have HE9:Hid (w9.ownsRow w3.heap.size 3 1 v2 (l.length+1) (xI (l.map (·.2)++[k+m]))):=hid (by
      rw[un];rw[show((k:Int)+m)=((k+m:Nat):Int) by omega]at h1;exact h1)
     clear h1 h2 h3 hwb;go_wp2;go_roundw
     case rel=>
      obtain⟨f2,rfl⟩:∃f2,f=f2+1:=⟨f-1,by omega⟩;refine⟨k+m,f2,l++[(r,k+m)],by go_num,by omega,by omega,by simp;omega,hid ?_,hid ⟨?_,?_⟩,HB9⟩
      ·rw[HF.o,Gd.scanF_step (by omega) HDm.o,List.append_assoc];rfl
      ·rw[List.length_append,List.map_append];exact HR9.o
      ·rw[List.length_append,List.map_append];exact HE9.o
     case measure=>simp[intOf];omega
    ·have her:(er !=0)=true:=by simpa using hne0
     have her2:¬er=0:=hne0;have HBe:=hid (HBd.o.alloc HBd.o.size (.cells #[.int .i64 r.call,.int .i64 r.inode,.bool r.tr,.int .i64 r.off,.string ⟨r.d.toArray⟩] 57));have HSe:=hid (HSd.o.keep ((Below.refl _ wd).alloc (Nat.le_refl _) (.cells #[.int .i64 r.call,.int .i64 r.inode,.bool r.tr,.int .i64 r.off,.string ⟨r.d.toArray⟩] 57)));clear hne0;go_wp2_with fail
     rw[Exit.noGoto_ret];go_ret2
     refine⟨_,_,rfl,?_,HBe.o⟩;rw[HScan.o,HF.o,Gd.scanF_stop hdn,List.append_nil];exact HSe.o
   ·have hk1:¬(k:Int)<n:=by omega
    clear hlt;go_wp2_with fail
    go_ret2
    refine⟨_,_,rfl,?_,HB.o⟩;rw[HScan.o,HF.o,Gd.scanF_end (by omega),List.append_nil];exact HS.o
 ·have HS0:Hid (Gd.scanL L ep head=[]):=hid (by
   rw[hScan];split
   ·rename_i hh
    exact Gd.scanF_end (fun h=>hgood ⟨hh.2.1,hh.2.2.1,hh.2.2.2,by omega⟩)
   ·rfl)
  clear hScan hgn he hh hL hln hln2
  cases eb with
  |false=>
   rw[if_neg (by decide)]at HSp;clear hgood hbn;go_enter func120,ntmps120;go_upto_region 1 with fail
   refine wp_scope_straight ?_;go_wp2_with(first|(go_at_call 103;refine HGet.o.mono ?_;rintro e w2 ⟨rfl,rfl⟩)|(go_at_call 149;refine(HSp.o _).mono ?_;rintro e w3 ⟨rfl,rfl⟩))
   rw[Exit.noGoto_ret];go_ret2
   exact⟨_,_,rfl,by rw[HS0.o];exact jj _ _,Below.refl _ _⟩
  |true=>
   have hn16:=hbn rfl;rw[if_pos rfl]at HSp;clear hbn;by_cases hpe:(p:Int)=ep
   ·have hpe2:((p:Int) !=ep)=false:=by rw[hpe];simp
    by_cases h0:0≤head
    ·have h1:decide (head<0)=false:=decide_eq_false (by omega);have h2:decide ((n:Int)<head)=true:=decide_eq_true (by
      apply Classical.byContradiction
      intro h;exact hgood ⟨rfl,hpe,h0,by omega⟩)
     have h3:(n:Int)<head:=of_decide_eq_true h2;clear hgood;go_enter func120,ntmps120;go_upto_region 1 with fail
     refine wp_scope_straight ?_;go_wp2_with(first|(go_at_call 103;refine HGet.o.mono ?_;rintro e w2 ⟨rfl,rfl⟩)|(go_at_call 149;refine(HSp.o _).mono ?_;rintro e w3 ⟨rfl,rfl⟩))
     rw[Exit.noGoto_ret];go_ret2
     exact⟨_,_,rfl,by rw[HS0.o];exact jj _ _,Below.refl _ _⟩
    ·have h1:decide (head<0)=true:=decide_eq_true (by omega);have h2:head<0:=by omega
     clear hgood h0;go_enter func120,ntmps120;go_upto_region 1 with fail
     refine wp_scope_straight ?_;go_wp2_with(first|(go_at_call 103;refine HGet.o.mono ?_;rintro e w2 ⟨rfl,rfl⟩)|(go_at_call 149;refine(HSp.o _).mono ?_;rintro e w3 ⟨rfl,rfl⟩))
     rw[Exit.noGoto_ret];go_ret2
     exact⟨_,_,rfl,by rw[HS0.o];exact jj _ _,Below.refl _ _⟩
   ·have hpe2:((p:Int) !=ep)=true:=by simpa using hpe
    clear hgood;go_enter func120,ntmps120;go_upto_region 1 with fail
    refine wp_scope_straight ?_;go_wp2_with(first|(go_at_call 103;refine HGet.o.mono ?_;rintro e w2 ⟨rfl,rfl⟩)|(go_at_call 149;refine(HSp.o _).mono ?_;rintro e w3 ⟨rfl,rfl⟩))
    rw[Exit.noGoto_ret];go_ret2
    exact⟨_,_,rfl,by rw[HS0.o];exact jj _ _,Below.refl _ _⟩
end
section
open Go.Shelf
attribute [local go_sem] Oper.semAt_some
theorem ZT(ep n:Int)(h1:I64 ep)(h2:I64 n)(w:World):Calls prog 144 #[.int .i64 ep,.int .i64 n] w fun e w'=>e= .returned (.int .i64 (if Gd.endB ep n then ep*4294967296+n else-1))∧w'=w:=by
 obtain⟨g1,g2⟩:=h1.lo;obtain⟨g3,g4⟩:=h2.lo;clear h1 h2;by_cases hb:Gd.endB ep n=true
 ·rw[hb,if_pos rfl];obtain⟨k1,k2,k3,k4,k5⟩:=(qI _ _).mp hb;clear hb;go_enter func144,ntmps144;go_wp2;go_ret
  exact⟨rfl,rfl⟩
 ·rw[if_neg hb];have hn:=fun h=>hb ((qI ep n).mpr h);clear hb;by_cases k1:0≤ep
  ·by_cases k2:ep≤1073741824
   ·by_cases k3:0≤n
    ·by_cases k4:n≤1016
     ·have k5:(n % 8 !=0)=true:=by simp;exact fun h=>hn ⟨k1,k2,k3,k4,h⟩
      clear hn;go_enter func144,ntmps144;go_wp2;go_ret
      exact⟨rfl,rfl⟩
     ·clear hn;go_enter func144,ntmps144;go_wp2;go_ret
      exact⟨rfl,rfl⟩
    ·clear hn;go_enter func144,ntmps144;go_wp2;go_ret
     exact⟨rfl,rfl⟩
   ·clear hn;go_enter func144,ntmps144;go_wp2;go_ret
    exact⟨rfl,rfl⟩
  ·clear hn;go_enter func144,ntmps144;go_wp2;go_ret
   exact⟨rfl,rfl⟩
theorem j8:∀{P:List Gd.Rec} {k:Nat} {p:Gd.Rec} (i:Nat),P[k]? =some p→i<5→(jd P)[k*5+i]? =(zN p).toList[i]?
 |[],k,p,i,hx,_=>by simp at hx
 |a::r,0,p,i,hx,hi=>by
  simp at hx
  subst hx;unfold jd;rw[List.flatMap_cons,List.getElem?_append_left (by show 0*5+i<5;omega),Nat.zero_mul,Nat.zero_add]
 |a::r,k+1,p,i,hx,hi=>by
  unfold jd;rw[List.flatMap_cons,List.getElem?_append_right (by show 5≤_;omega)];have:=j8 (P:=r) (k:=k) (p:=p) i (by simpa using hx) hi
  unfold jd at this;rw[←this];congr 1
  show(k+1)*5+i-5=_
  omega
def xM(w:World)(v:Value)(l:List Gd.Rec):Prop:=∃A c,v= .slice A l.length c∧((A=none∧l=[])∨∃b,A=some ⟨b,0,none⟩∧b<w.heap.size∧∀(k:Nat) (r:Gd.Rec),l[k]? =some r→w.cell? ⟨b,k*5,none⟩=some (.int .i64 r.call)∧w.cell? ⟨b,k*5+1,none⟩=some (.int .i64 r.inode)∧w.cell? ⟨b,k*5+2,none⟩=some (.bool r.tr)∧w.cell? ⟨b,k*5+3,none⟩=some (.int .i64 r.off)∧w.cell? ⟨b,k*5+4,none⟩=some (.string ⟨r.d.toArray⟩))
theorem yC{w:World}{B e:Nat}{v:Value}{l:List Gd.Rec}(h:w.ownsRow B e 5 v l.length (jd l)):xM w v l:=by
 have hr:=h;rcases h.2 with⟨rfl,h0⟩|⟨b,cap,cur,rfl,hb,hg,hc,_,_,_⟩
 ·exact⟨none,0,by rw[h0],Or.inl ⟨rfl,List.eq_nil_of_length_eq_zero h0⟩⟩
 ·refine⟨_,cap,rfl,Or.inr ⟨b,rfl,za hg,fun k p hp=> ?_⟩⟩;have hk:=(List.getElem?_eq_some_iff.1 hp).1;exact⟨(hr.cellAt (k*5) (by omega)).trans (j8 0 hp (by omega)),(hr.cellAt (k*5+1) (by omega)).trans (j8 1 hp (by omega)),(hr.cellAt (k*5+2) (by omega)).trans (j8 2 hp (by omega)),(hr.cellAt (k*5+3) (by omega)).trans (j8 3 hp (by omega)),(hr.cellAt (k*5+4) (by omega)).trans (j8 4 hp (by omega))⟩
theorem xM.keep{w w':World}{v:Value}{l:List Gd.Rec}(h:xM w v l)(hb:Below w.heap.size w w'):xM w' v l:=by
 obtain⟨A,c,rfl,h0|⟨b,rfl,hlt,hc⟩⟩:=h
 ·exact⟨A,c,rfl,Or.inl h0⟩
 ·exact⟨_,c,rfl,Or.inr ⟨b,rfl,Nat.lt_of_lt_of_le hlt hb.size,fun k r hk=>by
   obtain⟨h0,h1,h2,h3,h4⟩:=hc k r hk;exact⟨(hb.cell (p:=⟨b,k*5,none⟩) hlt).trans h0,(hb.cell (p:=⟨b,k*5+1,none⟩) hlt).trans h1,(hb.cell (p:=⟨b,k*5+2,none⟩) hlt).trans h2,(hb.cell (p:=⟨b,k*5+3,none⟩) hlt).trans h3,(hb.cell (p:=⟨b,k*5+4,none⟩) hlt).trans h4⟩⟩⟩
theorem yk(u v:Value)(l:List Gd.Rec)(w:World)(hu:xM w u l)(hv:xM w v l)(hl:l.length≤100000):Calls prog 60 #[u,v] w fun e w'=>e= .returned (.bool true)∧Below w.heap.size w w':=by
 obtain⟨A,c,rfl,hA⟩:=hu;obtain⟨A',c',rfl,hA'⟩:=hv;have HA:=hid hA;have HA':=hid hA';obtain⟨n,hn⟩:=nm l.length;rw[←hn]at hl⊢;have Hn:=hid hn;clear hA hA' hn;go_enter func60,ntmps60;go_upto_region 3 with fail
 go_wp2_with fail
 go_loopw[5] (fun z wr=>∃i:Nat,z= .int .i64 i∧i≤n∧Hid (Below w.heap.size w wr)) (fun z _=>n-(intOf z).toNat)
 case atStart=>exact⟨0,rfl,by omega,hid (Below.refl _ _)⟩
 case round=>
  obtain⟨i,rfl,hin,HB⟩:=hrel;by_cases hlt:i<n
  ·obtain⟨r,hr⟩:∃r,l[i]? =some r:=⟨_,List.getElem?_eq_getElem (by have:=Hn.o;omega)⟩;rcases HA.o with⟨_,h0⟩|⟨b,rfl,hbl,hc⟩
   ·rw[h0]at hr;simp at hr
   rcases HA'.o with⟨_,h0⟩|⟨b',rfl,hbl',hc'⟩
   ·rw[h0]at hr;simp at hr
   obtain⟨p0,p1,p2,p3,p4⟩:=hc i r hr;obtain⟨q0,q1,q2,q3,q4⟩:=hc' i r hr;have a0:=(HB.o.cell (p:=⟨b,i*5,none⟩) hbl).trans p0;have a1:=(HB.o.cell (p:=⟨b,i*5+1,none⟩) hbl).trans p1;have a2:=(HB.o.cell (p:=⟨b,i*5+2,none⟩) hbl).trans p2;have a3:=(HB.o.cell (p:=⟨b,i*5+3,none⟩) hbl).trans p3;have a4:=(HB.o.cell (p:=⟨b,i*5+4,none⟩) hbl).trans p4;have b0:=(HB.o.cell (p:=⟨b',i*5,none⟩) hbl').trans q0;have b1:=(HB.o.cell (p:=⟨b',i*5+1,none⟩) hbl').trans q1;have b2:=(HB.o.cell (p:=⟨b',i*5+2,none⟩) hbl').trans q2;have b3:=(HB.o.cell (p:=⟨b',i*5+3,none⟩) hbl').trans q3;have b4:=(HB.o.cell (p:=⟨b',i*5+4,none⟩) hbl').trans q4;obtain⟨r0,hr0⟩:=nm r.call;obtain⟨r1,hr1⟩:=nm r.inode;obtain⟨r2,hr2⟩:=nm r.tr;obtain⟨r3,hr3⟩:=nm r.off;obtain⟨r4,hr4⟩:∃x:ByteArray,x=⟨r.d.toArray⟩:=⟨_,rfl⟩;rw[←hr0]at a0 b0;rw[←hr1]at a1 b1;rw[←hr2]at a2 b2;rw[←hr3]at a3 b3;rw[←hr4]at a4 b4;have h1:(i:Int)<n:=by omega
   have h2:(0:Int)≤i:=by omega
   clear p0 p1 p2 p3 p4 q0 q1 q2 q3 q4 hc hc' hr hlt hr0 hr1 hr2 hr3 hr4;go_upto_region 6 with fail
   go_quiet (fail)
   go_wp2;go_roundw
   case rel=>exact⟨i+1,by go_num,by omega,hid (below_drewN HB.o _)⟩
   case measure=>simp[intOf];omega
  ·have h1:¬(i:Int)<n:=by omega
   clear hlt;go_wp2;go_ret
   exact⟨rfl,HB.o⟩
end
section
open Go.Shelf
attribute [local go_sem] Oper.semAt_some
theorem yU(v:Value)(L:List UInt8)(n k:Nat)(hk:Gd.wid k)(hn:n<256^k)(hn2:n≤9223372036854775807)(w:World)(h:zr w v L)(hl:L.length≤900000):Calls prog 28 #[v,.int .i64 n,.int .i64 k] w (qL w (L++Gd.le n k)):=by
 have:=ZS v L n k hk (zu hn2) w h hl
 unfold Gd.put at this;rw[if_pos (by unfold Gd.fitsB;rw[decide_eq_true (show(0:Int)≤n by omega),Bool.true_and,decide_eq_true (show(n:Int)<((256^k:Nat):Int) by omega),Bool.or_true]),Int.toNat_natCast]at this;exact this
theorem qK.nextB{w wk wk':World}{r:Gd.Rec}(h:qK w r wk)(hb:Below (w.heap.size+1) wk wk'):qK w r wk':=
 ⟨h.1.trans (hb.mono (Nat.le_succ _)),(hb.block _ (Nat.lt_succ_self _)).trans h.2⟩
def lenOf:Value→Nat| .slice _ l _=>l|_=>0
theorem XD(w:World)(c d:Int)(x y:UInt8)(hc:c=x.toNat)(hd:d=y.toNat):zr (w.alloc (.cells #[.int .u8 c,.int .u8 d] 5)) (.slice (some ⟨w.heap.size,0,none⟩) 2 2) [x,y]:=by
 subst hc hd;refine⟨_,2,rfl,Or.inr ⟨w.heap.size,0,rfl,by simp,fun j u hj=> ?_⟩⟩;rw[Nat.zero_add];match j,hj with
 |0,hj=>cases hj;exact cell_of_row _ _ 0 _ _ _ (heap_alloc_new w _)
 |1,hj=>cases hj;exact cell_of_row _ _ 1 _ _ _ (heap_alloc_new w _)
theorem Ve(r:Gd.Rec)(hd:r.d.length≤1000)(hm:¬r.may=true)(w:World):Calls prog 143 #[qq r] w fun e w'=>e= .returned (.tuple #[.slice none 0 0,.int .i64 1])∧Below w.heap.size w w':=by
 have HM:=hid fun wk=>Fl.rmay_any r.call r.inode r.tr r.off ⟨r.d.toArray⟩ wk (by show r.d.length≤_;omega);have hf:Fp.mayB r.call r.inode r.tr r.off r.d=false:=by simpa [Gd.Rec.may]using hm
 have hf2:Fp.mayB r.call r.inode r.tr r.off (⟨r.d.toArray⟩:ByteArray).data.toList=false:=hf;rw[hf2]at HM;unfold qq;obtain⟨rc,ri,rt,ro,rd⟩:=r;dsimp only at*;obtain⟨s,hs⟩:∃s:ByteArray,s=⟨rd.toArray⟩:=⟨_,rfl⟩;rw[←hs]at HM⊢;unfold Fl.recV at HM⊢;clear hs hm hf hf2 hd;go_enter func143,ntmps143;go_wp2_with(go_at_call 145;refine(HM.o _).mono ?_;rintro e w2 ⟨rfl,hb2⟩;have HB2:=hid hb2;clear hb2)
 go_ret2
 exact⟨rfl,((Below.refl _ w).alloc (Nat.le_refl _) _).trans (HB2.o.mono (by simp))⟩
theorem ZU(r:Gd.Rec)(hm:r.may=true)(w:World):Calls prog 143 #[qq r] w fun e w'=>∃u,e= .returned (.tuple #[u,.int .i64 0])∧zA w' w.heap.size u (Gd.encL r)∧Below w.heap.size w w':=by
 obtain⟨b0,b1,b2,b3,b4,b5,b6⟩:=uU hm;obtain⟨ca,hca⟩:∃n:Nat,r.call=n:=⟨r.call.toNat,by omega⟩;obtain⟨ki,hki⟩:∃n:Nat,r.inode=n:=⟨r.inode.toNat,by omega⟩;obtain⟨of,hof⟩:∃n:Nat,r.off=n:=⟨r.off.toNat,by omega⟩;have HM:=hid fun wk=>Fl.rmay_any r.call r.inode r.tr r.off ⟨r.d.toArray⟩ wk (by show r.d.length≤_;omega);have hf2:Fp.mayB r.call r.inode r.tr r.off (⟨r.d.toArray⟩:ByteArray).data.toList=true:=hm;rw[hf2]at HM;obtain⟨dn,hdn⟩:=nm r.d.length;obtain⟨s,hs⟩:∃s:ByteArray,s=⟨r.d.toArray⟩:=⟨_,rfl⟩;have hsz:s.size=dn:=by rw[hs,hdn];rfl
 have HSt0:Hid (qK w r (w.alloc (.cells #[.int .i64 r.call,.int .i64 r.inode,.bool r.tr,.int .i64 r.off,.string ⟨r.d.toArray⟩] 57))):=hid ⟨(Below.refl _ w).alloc (Nat.le_refl _) _,heap_alloc_new w _⟩;have HBody:Hid (Gd.bodyL r=((Gd.le ca 8++[UInt8.ofNat ki,Gd.trB r.tr])++Gd.le of 2)++[UInt8.ofNat dn]++r.d):=hid (by
  unfold Gd.bodyL;rw[hca,hki,hof,hdn];simp only[Int.toNat_natCast,List.append_assoc])
 have HD:Hid (s=⟨r.d.toArray⟩∧r.d.length≤64∧dn=r.d.length):=hid ⟨hs,b6,hdn⟩;have hdn64:dn≤64:=by omega
 have hki2:ki≤32:=by omega
 have hca2:ca≤1099511627776:=by omega
 have hof2:of≤256:=by omega
 have HSx:Hid (∀wk,qK w r wk→wk.cell? ⟨w.heap.size,0,none⟩=some (.int .i64 ca)∧wk.cell? ⟨w.heap.size,1,none⟩=some (.int .i64 ki)∧wk.cell? ⟨w.heap.size,2,none⟩=some (.bool r.tr)∧wk.cell? ⟨w.heap.size,3,none⟩=some (.int .i64 of)∧wk.cell? ⟨w.heap.size,4,none⟩=some (.string s)):=hid fun wk h=>by
  have:=h.cells
  rw[hca,hki,hof,←hs]at this;exact this
 have hrv:qq r= .agg #[.int .i64 ca,.int .i64 ki,.bool r.tr,.int .i64 of,.string s]:=by unfold qq Fl.recV;rw[hca,hki,hof,hs]
 rw[hrv];rw[hca,hki,hof,←hs]at HSt0;have HMr:Hid (∀wk,Calls prog 145 #[.agg #[.int .i64 ca,.int .i64 ki,.bool r.tr,.int .i64 of,.string s]] wk fun e w'=>e= .returned (.bool true)∧Below wk.heap.size wk w'):=hid fun wk=>by
  have:=HM.o wk
  unfold Fl.recV at this;rw[hca,hki,hof,←hs]at this;exact this
 obtain⟨rt,hrt⟩:=nm r.tr;rw[←hrt]at HSt0 HMr HSx HBody⊢;obtain⟨W0,hW0⟩:=nm (w.alloc (.cells #[.int .i64 ca,.int .i64 ki,.bool rt,.int .i64 of,.string s] 57));rw[←hW0]at HSt0;have hc0:=HSx.o _ HSt0.o;clear HM hf2 hs hrv b0 b1 b2 b3 b4 b5 b6 hm hca hki hof hdn hrt;go_enter func143,ntmps143;go_upto_region 1 with fail
 rw[←hW0];clear hW0;obtain⟨x0,x1,x2,x3,x4⟩:=hc0;go_upto_region 4 with(go_at_call 145;refine(HMr.o _).mono ?_;rintro e w2 ⟨rfl,hb2⟩)
 have HSt2:=hid (HSt0.o.next hb2);clear hb2 x0 x1 x2 x3 x4 HMr;obtain⟨x0,x1,x2,x3,x4⟩:=HSx.o _ HSt2.o;have HB2:Hid (w.heap.size+1≤w2.heap.size):=hid (za HSt2.o.2);have HN1:=hid (yU (.slice none 0 0) [] ca 8 (Or.inr (Or.inr (Or.inr rfl))) (by omega) (by omega) w2 (q8 w2 0).at_ (by simp));go_upto_region 5 with(go_at_call 28;refine HN1.o.mono ?_;rintro e w3 ⟨v3,rfl,ho3,hb3⟩)
 rw[List.nil_append]at ho3;have HSt3:=hid (HSt2.o.next hb3);have HO3:=hid (ho3.mono HB2.o);clear ho3 hb3 x0 x1 x2 x3 x4 HN1;obtain⟨x0,x1,x2,x3,x4⟩:=HSx.o _ HSt3.o;have HB3:Hid (w.heap.size+1≤w3.heap.size):=hid (za HSt3.o.2);obtain⟨tb,htb⟩:=nm ((Gd.trB rt).toNat);have HTb:=hid htb;go_upto_if 15 with fail
 go_cut[6] from 14 to 15 (fun z wx=>z= .int .u8 (tb:Int)∧wx=w3)
 case first=>
  cases rt
  all_goals
   go_wp2_with fail
   go_meet
   exact⟨by rw[htb];rfl,rfl⟩
 case rest=>
 obtain⟨hz,hw⟩:=hcut;subst hz;rw[hw];clear hw htb;have htb8:tb≤255:=by have:=(Gd.trB rt).toNat_lt;have:=HTb.o;omega
 have HTw:=hid (XD w3 (ki:Int) (tb:Int) (UInt8.ofNat ki) (Gd.trB rt) (by simp;omega) (by rw[HTb.o]));have HK3:=hid (HO3.o.keep ((Below.refl _ w3).alloc (Nat.le_refl _) (.cells #[.int .u8 (ki:Int),.int .u8 (tb:Int)] 5)));have HL3:Hid ((Gd.le ca 8).length+[UInt8.ofNat ki,Gd.trB rt].length≤1000000):=hid (by rw[Gd.le_length];simp);go_upto_region 9 with(at_builtin;refine vd rfl _ _ rfl (w.heap.size+1) v3 _ _ rfl HK3.o _ _ HTw.o rfl HL3.o (by have:=HB3.o;simp;omega) ?_;intro v4 w4 ho4 hb4)
 have HSt4:Hid (qK w r w4):=hid (HSt3.o.nextB (((Below.refl _ w3).alloc HB3.o _).trans hb4));have HO4:=hid ho4;clear ho4 hb4 x0 x1 x2 x3 x4 HTw HK3 HL3;obtain⟨x0,x1,x2,x3,x4⟩:=HSx.o _ HSt4.o;have HB4:Hid (w.heap.size+1≤w4.heap.size):=hid (za HSt4.o.2);have HN2:=hid (yU v4 _ of 2 (Or.inr (Or.inl rfl)) (by omega) (by omega) w4 HO4.o.at_ (by rw[List.length_append,Gd.le_length];simp));go_upto_region 10 with(go_at_call 28;refine HN2.o.mono ?_;rintro e w5 ⟨v5,rfl,ho5,hb5⟩)
 have HSt5:=hid (HSt4.o.next hb5);have HO5:=hid (ho5.mono HB4.o);clear ho5 hb5 x0 x1 x2 x3 x4 HN2;obtain⟨x0,x1,x2,x3,x4⟩:=HSx.o _ HSt5.o;have HB5:Hid (w.heap.size+1≤w5.heap.size):=hid (za HSt5.o.2);have HL5:Hid ((Gd.le ca 8++[UInt8.ofNat ki,Gd.trB rt]++Gd.le of 2).length=12):=hid (by rw[List.length_append,List.length_append,Gd.le_length,Gd.le_length];rfl);have hdv:(dn:Int)=((UInt8.ofNat dn).toNat:Int):=by simp;omega
 have HDv:=hid hdv;clear hdv;go_upto_region 11 with(at_builtin;refine xL rfl _ _ rfl (w.heap.size+1) v5 _ w5 rfl HO5.o _ (UInt8.ofNat dn) HDv.o rfl (by have:=HL5.o;omega) HB5.o ?_;intro v6 w6 ho6 hb6)
 have HSt6:Hid (qK w r w6):=hid (HSt5.o.nextB hb6);have HO6:=hid ho6;clear ho6 hb6 x0 x1 x2 x3 x4;obtain⟨x0,x1,x2,x3,x4⟩:=HSx.o _ HSt6.o;have HB6:Hid (w.heap.size+1≤w6.heap.size):=hid (za HSt6.o.2);go_upto_region 12 with(at_builtin;refine vE rfl _ _ rfl (w.heap.size+1) v6 _ w6 rfl HO6.o r.d s HD.o.1 rfl (by have:=HL5.o;have:=HD.o.2.1;rw[List.length_append,List.length_singleton];omega) HB6.o ?_;intro v7 w7 ho7 hb7)
 rw[←HBody.o]at ho7;obtain⟨R,hR⟩:=nm (Gd.bodyL r);have HEnc:Hid (Gd.encL r=R++Gd.le (Gd.crc R) 4++List.replicate (Gd.up8 (R.length+4)-(R.length+4)) 0):=hid (by
  unfold Gd.encL Gd.padL;rw[Gd.sumL_length];unfold Gd.sumL;rw[←hR,show 17+r.d.length=R.length+4 by rw[hR,Gd.bodyL_length];omega])
 have HRl:Hid (R.length≤1000):=hid (by rw[hR,Gd.bodyL_length];have:=HD.o.2.1;omega);rw[←hR]at ho7;have HB7:Hid (Below w.heap.size w w7):=hid ((HSt6.o.nextB hb7).1);have HO7:=hid (ho7.mono (Nat.le_succ w.heap.size));clear ho7 hb7 hR x0 x1 x2 x3 x4 HO6 HSx HBody;have hcl:=Gd.crc_lt R;have HCr:=hid (ZP v7 R w7 HO7.o.at_ (by have:=HRl.o;omega));obtain⟨cc,hcc⟩:=nm (Gd.crc R);rw[←hcc]at HCr HEnc hcl;have hc2:(cc:Int)<4294967296:=by omega
 clear hcc;have HP8:=hid (yU v7 R cc 4 (Or.inr (Or.inr (Or.inl rfl))) (by omega) (by omega) w7 HO7.o.at_ (by have:=HRl.o;omega));go_upto_region 13 with(first|(go_at_call 67;refine HCr.o.mono ?_;rintro e w8 ⟨rfl,rfl⟩)|(go_at_call 28;refine HP8.o.mono ?_;rintro e w9 ⟨v9,rfl,ho9,hb9⟩))
 have HO9:=hid (ho9.mono HB7.o.size);have HB9:=HB7.t hb9;clear ho9 hb9 HCr HP8;have hl4:(R++Gd.le cc 4).length=R.length+4:=by rw[List.length_append,Gd.le_length]
 obtain⟨n,hn⟩:=nm ((R++Gd.le cc 4).length);have hn2:n≤1004:=by have:=HRl.o;omega
 obtain⟨u,hu8⟩:=nm (Gd.up8 n);have hu:=Gd.up8_le n;rw[←hu8]at hu;obtain⟨hu1,hu2,hu3⟩:=hu;have HE2:Hid (Gd.encL r=R++Gd.le cc 4++List.replicate (u-n) 0):=hid (by rw[HEnc.o,←hl4,←hn,←hu8]);have HN:=hid hn;clear hl4 hu8 hn HEnc;have hnu:(n:Int)≤u:=by omega
 go_loopw[5] (fun v wr=>∃(m:Nat) (A:Option Addr) (c:Nat),v= .slice A m c∧n≤m∧m≤u∧Hid (zA wr w.heap.size v (R++Gd.le cc 4++List.replicate (m-n) 0))∧Hid (Below w.heap.size w wr)) (fun v _=>u-lenOf v)
 case atStart=>
  obtain⟨A,c,hv,_⟩:=HO9.o.at_;rw[←HN.o]at hv;exact⟨n,A,c,hv,by omega,by omega,hid (by rw[Nat.sub_self,List.replicate_zero,List.append_nil];exact HO9.o),HB9⟩
 case round=>
  obtain⟨m,A,c,rfl,hi1,hi2,HO,HB⟩:=hrel;by_cases hlt:m<u
  ·have hm2:((m:Int) % 8 !=0)=true:=by simp;omega
   have hm3:¬(m:Int) % 8=0:=by omega
   have HBs:=hid HB.o.size;have HLe:Hid ((R++Gd.le cc 4++List.replicate (m-n) 0).length<1000000):=hid (by rw[List.length_append,←HN.o,List.length_replicate];omega);have HLt:=hid hlt;clear hlt;have HI1:=hid (And.intro hi1 (And.intro hu1 hu2));clear hu1 hu3 hnu hi1;go_upto_region 14 with fail
   go_wp2_with(at_builtin;refine xL rfl _ _ rfl w.heap.size (.slice A m c) (R++Gd.le cc 4++List.replicate (m-n) 0) wr rfl HO.o 0 0 rfl rfl HLe.o HBs.o ?_;intro v' w' ho' hb')
   obtain⟨hI1,hI2,hI3⟩:=HI1.o;have hlt:m<u:=HLt.o;have HO':zA w' w.heap.size v' (R++Gd.le cc 4++List.replicate (m+1-n) 0):=by
    rw[show m+1-n=(m-n)+1 by omega,List.replicate_succ',←List.append_assoc];exact ho'
   obtain⟨A',c',hv',_⟩:=HO'.at_;have hlen:(R++Gd.le cc 4++List.replicate (m+1-n) 0).length=m+1:=by
    rw[List.length_append,←HN.o,List.length_replicate];omega
   rw[hlen]at hv';refine⟨⟨m+1,A',c',hv',by omega,by omega,hid HO',hid (HB.o.trans hb')⟩,?_⟩;rw[hv'];show u-(m+1)<u-m
   omega
  ·have HI:Hid (m=u):=hid (by omega);have hm:((m:Int) % 8 !=0)=false:=by simp;omega
   clear hlt hi1 hi2 hu1 hu2 hu3 hnu;go_wp2_with fail
   go_ret2
   refine⟨_,rfl,?_,HB.o⟩;rw[HE2.o,←HI.o];exact HO.o
end
section
open Go.Shelf
attribute [local go_sem] Oper.semAt_some
def jr(e h r ke ki wr:Int):Array Value:=#[.int .i64 e,.int .i64 h,.int .i64 r,.int .i64 ke,.int .i64 ki,.int .i64 wr]
def jE(e h r ke ki wr:Int):Bool:=decide (0≤e)&&decide (e≤1073741824)&&decide (0≤h)&&decide (h≤1024)&&decide (0≤r)&&decide (r≤1099511627776)&&decide (0≤wr)&&decide (wr≤1099511627776)&&decide (0≤ke)&&decide (ke≤255)&&decide (0≤ki)&&decide (ki≤32)
theorem yv(e h r ke ki wr:Int)(w:World):Calls prog 110 #[.agg (jr e h r ke ki wr)] w fun e1 w'=>e1= .returned (.bool (jE e h r ke ki wr))∧Below w.heap.size w w':=by
 unfold jr;go_enter func110,ntmps110;go_wp2_with fail
 all_goals go_ret
 all_goals refine⟨zn ?_,(Below.refl _ _).alloc (Nat.le_refl _) _⟩
 all_goals unfold jE
 all_goals rw[Bool.eq_iff_iff]
 all_goals simp only[Bool.and_eq_true,decide_eq_true_eq,Bool.false_eq_true,false_iff]
 all_goals omega
end
namespace Gd
theorem decR_some{L:List UInt8}(h:17+nOf L≤L.length)(hs:getN L (13+nOf L) 4=crc (L.take (13+nOf L)))(hm:(recOf L).may=true)(h1:getB L 0 8=true)(h2:(L.getD 9 0).toNat≤1)(h3:up8 (17+nOf L)≤L.length)(h4:fillB L (17+nOf L) (up8 (17+nOf L))):decR L=some (recOf L,up8 (17+nOf L)):=by
 unfold decR;exact if_pos ⟨h,hs,hm,(enc_prefix h hs).mpr ⟨⟨h1,h2⟩,h3,h4⟩⟩
theorem decR_not{L:List UInt8}(hn:¬(getB L 0 8=true∧(L.getD 9 0).toNat≤1∧up8 (17+nOf L)≤L.length∧fillB L (17+nOf L) (up8 (17+nOf L)))):decR L=none:=by
 unfold decR;rw[if_neg];rintro⟨h,hs,_,hp⟩;have:=(enc_prefix h hs).mp hp
 exact hn ⟨this.1.1,this.1.2,this.2.1,this.2.2⟩
theorem off_val{L:List UInt8}{x y:UInt8}(hx:L[10]? =some x)(hy:L[11]? =some y):get L 10 2=((x.toNat+256*y.toNat:Nat):Int):=by
 have h1:getN L 10 1=x.toNat:=by
  have:=qy (L:=L) (a:=10) (i:=0) hx
  rw[this];simp[getN,unle]
 have h2:getN L 10 2=x.toNat+256*y.toNat:=by
  have:=qy (L:=L) (a:=10) (i:=1) hy
  rw[this,h1]
 have hl:=(List.getElem?_eq_some_iff.mp hy).1;have hxl:=x.toNat_lt;have hyl:=y.toNat_lt;have hb:getB L 10 2=true:=by
  unfold getB;simp only[Bool.and_eq_true,decide_eq_true_eq];refine⟨⟨by omega,by omega⟩,?_⟩;show getN L 10 2<_
  omega
 unfold get;rw[if_pos hb];show((getN L 10 2:Nat):Int)=_
 rw[h2]
end Gd
namespace Gd
structure Vl where
 n:Nat
 s:Nat→Slot
 fs:Nat→List UInt8
 lg:Nat→List UInt8
structure Vl.Ok(V:Vl):Prop where
 may:∀c,1≤c→c≤8→(V.s c).May
 log:∀c,1≤c→c≤8→(V.lg c).length=1024
 file:∀i,2≤i→i≤5→(V.fs i).length≤256
def updF(s:Nat→List UInt8)(i:Nat)(b:List UInt8):Nat→List UInt8:=fun j=>if j=i then b else s j
def Vl.pend(V:Vl)(c:Nat):List (Rec×Nat):=scanL (V.lg c) (V.s c).e (V.s c).h
def chgR(s:List UInt8)(r:Rec):List UInt8×Int:=Fp.chg s r.call r.inode r.tr r.off r.d
def Vl.got(V:Vl)(r:Rec):Bool:=decide (2≤r.inode∧r.inode≤5)&&decide ((chgR (V.fs r.inode.toNat) r).2=0)
def Vl.setf(V:Vl)(r:Rec):Vl:=if V.got r then{V with fs:=updF V.fs r.inode.toNat (chgR (V.fs r.inode.toNat) r).1}else V
def tookS(s:Slot)(p:Rec×Nat):Slot:={s with h:=p.2,w:=p.1.call.toNat}
def Vl.sets(V:Vl)(c:Nat)(s:Slot):Vl:={V with n:=V.n+1,s:=updS V.s c s}
def Vl.step(V:Vl)(c:Nat)(p:Rec×Nat):Vl:=(V.setf p.1).sets c (tookS (V.s c) p)
def Vl.steps(V:Vl)(c:Nat)(l:List (Rec×Nat)):Vl:=l.foldl (fun V p=>V.step c p) V
def Vl.outs(c:Nat):Vl→List (Rec×Nat)→List Rec
 |_,[]=>[]
 |V,p::l=>(if V.got p.1 then[p.1]else[])++Vl.outs c (V.step c p) l
def Vl.take(V:Vl)(c:Nat):Vl:=V.steps c (V.pend c)
def Vl.taken(V:Vl)(c:Nat):List Rec:=Vl.outs c V (V.pend c)
def overS(s:Slot):Slot:={s with e:=s.e+1,h:=0}
def Vl.fence(V:Vl)(c:Nat):Vl:=if(V.s c).e<1073741824 then V.sets c (overS (V.s c))else V
def Vl.recov:Nat→Vl→Vl×Bool
 |0,V=>(V,true)
 |k+1,V=>match Vl.recov k V with
  |(V,false)=>(V,false)
  |(V,true)=>((V.take (k+1)).fence (k+1),decide (((V.take (k+1)).s (k+1)).e<1073741824))
theorem Vl.steps_snoc(V:Vl)(c:Nat)(l:List (Rec×Nat))(p:Rec×Nat):V.steps c (l++[p])=(V.steps c l).step c p:=by
 unfold Vl.steps;rw[List.foldl_append];rfl
theorem Vl.outs_snoc(c:Nat)(p:Rec×Nat):∀(l:List (Rec×Nat)) (V:Vl),Vl.outs c V (l++[p])=Vl.outs c V l++if(V.steps c l).got p.1 then[p.1]else[]
 |[],V=>by
  show(if V.got p.1 then[p.1]else[])++[]=[]++if V.got p.1 then[p.1]else[]
  rw[List.append_nil,List.nil_append]
 |q::l,V=>by
  show _++Vl.outs c (V.step c q) (l++[p])=_++Vl.outs c (V.step c q) l++_
  rw[Vl.outs_snoc c p l (V.step c q),←List.append_assoc];rfl
theorem Vl.setf_s(V:Vl)(r:Rec):(V.setf r).s=V.s∧(V.setf r).n=V.n∧(V.setf r).lg=V.lg:=by
 unfold Vl.setf;split<;>exact⟨rfl,rfl,rfl⟩
theorem Vl.step_n(V:Vl)(c:Nat)(p:Rec×Nat):(V.step c p).n=V.n+1:=by
 show(V.setf p.1).n+1=_
 rw[(V.setf_s p.1).2.1]
theorem Vl.step_s(V:Vl)(c:Nat)(p:Rec×Nat):(V.step c p).s=updS V.s c (tookS (V.s c) p):=by
 show updS (V.setf p.1).s c _=_
 rw[(V.setf_s p.1).1]
theorem Vl.steps_n(c:Nat):∀(l:List (Rec×Nat)) (V:Vl),(V.steps c l).n=V.n+l.length
 |[],V=>rfl
 |p::l,V=>by
  show((V.step c p).steps c l).n=_
  rw[Vl.steps_n c l,Vl.step_n,List.length_cons];omega
theorem chgR_ok{s:List UInt8}{r:Rec}(h:(chgR s r).2=0):(chgR s r).1.length≤256:=by
 unfold chgR Fp.chg at h⊢;split at h
 ·split at h
  ·rename_i h1 h2
   rw[if_pos h1,if_pos h2];exact h2
  ·cases h
 ·cases h
theorem may_rec{r:Rec}(h:r.may=true):0≤r.call∧r.call≤1099511627776∧1≤r.inode∧r.inode≤32∧0≤r.off∧r.off≤256∧r.d.length≤64:=by
 unfold Rec.may at h;by_cases hh:0≤r.call∧r.call≤1099511627776∧1≤r.inode∧r.inode≤32∧0≤r.off∧r.off≤256∧r.d.length≤64∧r.off+r.d.length≤256
 ·exact⟨hh.1,hh.2.1,hh.2.2.1,hh.2.2.2.1,hh.2.2.2.2.1,hh.2.2.2.2.2.1,hh.2.2.2.2.2.2.1⟩
 ·rw[Fp.mayB_no hh]at h
  cases h
theorem Vl.got_ok{V:Vl}{r:Rec}(h:V.got r=true):(2≤r.inode∧r.inode≤5)∧(chgR (V.fs r.inode.toNat) r).2=0:=by
 unfold Vl.got at h;simp only[Bool.and_eq_true,decide_eq_true_eq]at h;exact h
theorem tookS_may{s:Slot}{p:Rec×Nat}(h:s.May)(hr:p.1.may=true)(hp:p.2≤1016):(tookS s p).May:=by
 have:=may_rec hr
 exact⟨h.e,by show p.2≤1024;omega,h.r,h.ke,h.ki,by show p.1.call.toNat≤_;omega⟩
theorem overS_may{s:Slot}(h:s.May)(he:s.e<1073741824):(overS s).May:=⟨by show s.e+1≤_;omega,by show 0≤1024;omega,h.r,h.ke,h.ki,h.w⟩
theorem Vl.Ok.setf{V:Vl}(h:V.Ok)(r:Rec):(V.setf r).Ok:=by
 unfold Vl.setf;split
 ·rename_i hg
  refine⟨h.may,h.log,fun i i1 i2=> ?_⟩;show(if i=r.inode.toNat then _ else V.fs i).length≤256
  split
  ·exact chgR_ok (Vl.got_ok hg).2
  ·exact h.file i i1 i2
 ·exact h
theorem Vl.Ok.sets{V:Vl}(h:V.Ok)(c:Nat){s:Slot}(hs:s.May):(V.sets c s).Ok:=by
 refine⟨fun k k1 k2=> ?_,h.log,h.file⟩;show(if k=c then s else V.s k).May
 split
 ·exact hs
 ·exact h.may k k1 k2
theorem Vl.Ok.step{V:Vl}(h:V.Ok){c:Nat}(c1:1≤c)(c2:c≤8){p:Rec×Nat}(hr:p.1.may=true)(hp:p.2≤1016):(V.step c p).Ok:=
 (h.setf p.1).sets c (tookS_may (h.may c c1 c2) hr hp)
theorem Vl.Ok.steps{c:Nat}(c1:1≤c)(c2:c≤8):∀(l:List (Rec×Nat)) {V:Vl},V.Ok→(∀p∈l,p.1.may=true∧p.2≤1016)→(V.steps c l).Ok
 |[],_,h,_=>h
 |p::l,V,h,hl=>Vl.Ok.steps c1 c2 l (h.step c1 c2 (hl p (List.mem_cons_self ..)).1 (hl p (List.mem_cons_self ..)).2) fun q hq=>hl q (List.mem_cons_of_mem _ hq)
theorem scanF_mem{L:List UInt8}{n:Nat}:∀{f head:Nat} {p:Rec×Nat},p∈scanF L n f head→p.1.may=true∧p.2≤n
 |0,_,p,h=>by cases h
 |f+1,head,p,h=>by
  by_cases hh:head<n
  ·cases hd:decR ((L.drop (8+head)).take (n-head))with
   |none=>rw[scanF_stop hd]at h;cases h
   |some q=>
    obtain⟨r,k⟩:=q;rw[scanF_step hh hd]at h;obtain⟨k1,k2,-,k4⟩:=decR_le hd;rw[List.length_take]at k2;rcases List.mem_cons.1 h with rfl|h
    ·exact⟨k4,by show head+k≤n;omega⟩
    ·exact scanF_mem h
  ·rw[scanF_end hh]at h
   cases h
theorem scanL_mem{L:List UInt8}{ep head:Int}{p:Rec×Nat}(h:p∈scanL L ep head):p.1.may=true∧p.2≤1016:=by
 unfold scanL at h;split at h
 ·rename_i hh
  have h1:=scanF_mem h;have h2:=hh.2.1;unfold endB at h2;simp only[Bool.and_eq_true,decide_eq_true_eq]at h2;exact⟨h1.1,by omega⟩
 ·cases h
theorem Vl.Ok.take{V:Vl}(h:V.Ok){c:Nat}(c1:1≤c)(c2:c≤8):(V.take c).Ok:=Vl.Ok.steps c1 c2 _ h fun _ hp=>scanL_mem hp
theorem Vl.Ok.fence{V:Vl}(h:V.Ok){c:Nat}(c1:1≤c)(c2:c≤8):(V.fence c).Ok:=by
 unfold Vl.fence;split
 ·rename_i he
  exact h.sets c (overS_may (h.may c c1 c2) he)
 ·exact h
theorem Vl.Ok.recov{V:Vl}(h:V.Ok):∀k,k≤8→(V.recov k).1.Ok
 |0,_=>h
 |k+1,hk=>by
  have ih:=Vl.Ok.recov h k (by omega);unfold Vl.recov
  cases hr:Vl.recov k V with
  |mk W b=>
   rw[hr]at ih
   cases b with
   |false=>exact ih
   |true=>exact(ih.take (by omega) hk).fence (by omega) hk
theorem decR_big{L:List UInt8}{r:Rec}{k:Nat}(h:decR L=some (r,k)):17≤k:=by
 unfold decR at h;split at h
 ·cases h
  have:=up8_le (17+nOf L)
  omega
 ·cases h
theorem scanF_few{L:List UInt8}{n:Nat}:∀{f head:Nat},head≤n→(scanF L n f head).length*17+head≤n
 |0,head,h=>by show 0*17+head≤n;omega
 |f+1,head,h=>by
  by_cases hh:head<n
  ·cases hd:decR ((L.drop (8+head)).take (n-head))with
   |none=>rw[scanF_stop hd];show 0*17+head≤n;omega
   |some q=>
    obtain⟨r,k⟩:=q;rw[scanF_step hh hd,List.length_cons];obtain⟨k1,k2,-,k4⟩:=decR_le hd;have k5:=decR_big hd;rw[List.length_take]at k2;have:=scanF_few (L:=L) (n:=n) (f:=f) (head:=head+k) (by omega)
    omega
  ·rw[scanF_end hh];show 0*17+head≤n
   omega
theorem scanL_few(L:List UInt8)(ep head:Int):(scanL L ep head).length≤59:=by
 unfold scanL;split
 ·rename_i hh
  have h2:=hh.2.1;unfold endB at h2;simp only[Bool.and_eq_true,decide_eq_true_eq]at h2;by_cases he:head.toNat≤endN L % 4294967296
  ·have:=scanF_few (L:=L) (n:=endN L % 4294967296) (f:=1024) he
   omega
  ·rw[scanF_end (by omega)];show 0≤59
   omega
 ·show 0≤59
  omega
theorem Vl.take_n(V:Vl)(c:Nat):V.n≤(V.take c).n∧(V.take c).n≤V.n+59:=by
 have h1:=Vl.steps_n c (V.pend c) V;have h2:=scanL_few (V.lg c) (V.s c).e (V.s c).h;have h3:(V.pend c).length≤59:=h2;unfold Vl.take;omega
theorem Vl.fence_n(V:Vl)(c:Nat):V.n≤(V.fence c).n∧(V.fence c).n≤V.n+1:=by
 unfold Vl.fence;split
 ·show V.n≤V.n+1∧V.n+1≤V.n+1
  omega
 ·omega
theorem Vl.recov_n(V:Vl):∀k,V.n≤(V.recov k).1.n∧(V.recov k).1.n≤V.n+60*k
 |0=>by show V.n≤V.n∧V.n≤V.n+60*0;omega
 |k+1=>by
  have ih:=Vl.recov_n V k;unfold Vl.recov
  cases hr:Vl.recov k V with
  |mk W b=>
   rw[hr]at ih
   cases b with
   |false=>dsimp only at ih⊢;omega
   |true=>
    have h1:=W.take_n (k+1);have h2:=(W.take (k+1)).fence_n (k+1);dsimp only at ih⊢;omega
end Gd
section
open Go.Shelf
section
variable {o x t f c K n:Nat} {S:List UInt8} {P:List Gd.Pa} {M:Gd.Vol} {s:Nat→Gd.Slot} {w a b:World} {Ls:List (Nat×Obj)} {G:Nat→Prop}
theorem Vp.own[zc](h:Vp o x t f S P c K w a Ls)(hO:zi G a b)(hG:∀q,q<a.heap.size→G q→∃o',(q,o')∈Ls∧o'≠qP t x f∧o'≠j5 t x){Ls':List (Nat×Obj)}(hL:∀p∈Ls',(p∈Ls∧¬G p.1)∨((a.heap.size≤p.1∨∃o',(p.1,o')∈Ls)∧b.heap[p.1]? =some p.2)):Vp o x t f S P c K w b Ls':=by
 obtain⟨F',h1,h2⟩:=h;have hin:∀p∈Ls,p∈(o,qP t x f)::(f,j5 t x)::Ls:=fun p hp=>List.mem_cons_of_mem _ (List.mem_cons_of_mem _ hp);have hGF:∀q,q<a.heap.size→G q→¬F' q:=fun q hq hg=>by
  obtain⟨o',ho,-⟩:=hG q hq hg;exact(h2 _ (hin _ ho)).2.1
 have hs:=hO.size;have hsa:=h1.only.size;refine⟨F',⟨h1.inv.keep hs fun k hk hF=>hO.block k hk fun e=>hGF k hk e hF,h1.old,h1.only.trans hO fun j hj hg=> ?_⟩,fun p hp=> ?_⟩
 ·obtain⟨o',ho,-⟩:=hG j (Nat.lt_of_lt_of_le hj hsa) hg;have:=(h2 _ (hin _ ho)).1
  exact absurd this (Nat.not_le.2 hj)
 ·rcases List.mem_cons.1 hp with rfl|hp
  ·obtain⟨q1,q2,q3⟩:=h2 _ (List.mem_cons_self ..);refine⟨q1,q2,(hO.block _ (za q3) fun e=> ?_).trans q3⟩;obtain⟨o',ho,n1,-⟩:=hG _ (za q3) e;have:=(h2 _ (hin _ ho)).2.2
   dsimp only at this q3;rw[q3]at this;exact n1 (Option.some.inj this).symm
  rcases List.mem_cons.1 hp with rfl|hp
  ·obtain⟨q1,q2,q3⟩:=h2 _ (List.mem_cons_of_mem _ (List.mem_cons_self ..));refine⟨q1,q2,(hO.block _ (za q3) fun e=> ?_).trans q3⟩;obtain⟨o',ho,-,n1⟩:=hG _ (za q3) e;have:=(h2 _ (hin _ ho)).2.2
   dsimp only at this q3;rw[q3]at this;exact n1 (Option.some.inj this).symm
  rcases hL p hp with⟨hp,hn⟩|⟨hp,hb⟩
  ·obtain⟨q1,q2,q3⟩:=h2 _ (hin _ hp);exact⟨q1,q2,(hO.block _ (za q3) hn).trans q3⟩
  ·rcases hp with hp|⟨o',hp⟩
   ·exact⟨Nat.le_trans hsa hp,fun e=>absurd (h1.inv.tight _ e) (Nat.not_lt.2 hp),hb⟩
   ·obtain⟨q1,q2,-⟩:=h2 _ (hin _ hp);exact⟨q1,q2,hb⟩
theorem Vp.news[zc](h:Vp o x t f S P c K w a Ls)(hb:Below a.heap.size a b){Lu:List (Nat×Obj)}(hL:∀p∈Lu,a.heap.size≤p.1∧b.heap[p.1]? =some p.2):Vp o x t f S P c K w b (Lu++Ls):=
 h.own (G:=Nof) (zg hb Nof) (fun _ _ e=>e.elim) fun p hp=>by
  rcases List.mem_append.1 hp with hp|hp
  ·exact Or.inr ⟨Or.inl (hL p hp).1,(hL p hp).2⟩
  ·exact Or.inl ⟨hp,fun e=>e⟩
theorem Vq.own[zc](h:Vq o x t f S P M n s c K w a Ls)(hO:zi G a b)(hG:∀q,q<a.heap.size→G q→∃o',(q,o')∈Ls∧o'≠qP t x f∧o'≠j5 t x){Ls':List (Nat×Obj)}(hL:∀p∈Ls',(p∈Ls∧¬G p.1)∨((a.heap.size≤p.1∨∃o',(p.1,o')∈Ls)∧b.heap[p.1]? =some p.2)):Vq o x t f S P M n s c K w b Ls':=⟨h.1.own hO hG hL,h.2⟩
theorem Vq.news[zc](h:Vq o x t f S P M n s c K w a Ls)(hb:Below a.heap.size a b){Lu:List (Nat×Obj)}(hL:∀p∈Lu,a.heap.size≤p.1∧b.heap[p.1]? =some p.2):Vq o x t f S P M n s c K w b (Lu++Ls):=⟨h.1.news hb hL,h.2⟩
theorem Vq.less[zc]{Ls':List (Nat×Obj)}(h:Vq o x t f S P M n s c K w a Ls)(hL:∀p∈Ls',p∈Ls):Vq o x t f S P M n s c K w a Ls':=⟨h.1.less hL,h.2⟩
theorem Vq.get[zc](h:Vq o x t f S P M n s c K w a Ls){k:Nat}{o':Obj}(hk:(k,o')∈Ls):a.heap[k]? =some o':=h.1.get hk
theorem Vq.size[zc](h:Vq o x t f S P M n s c K w a Ls):w.heap.size≤a.heap.size:=h.1.size
theorem Vq.belowW[zc](h:Vq o x t f S P M n s c K w a Ls):Below w.heap.size w a:=h.1.belowW
theorem Vp.more[zc]{d L:Nat}(h:Vp o x t f S P c K w a Ls)(hc:c≤d)(hK:K≤L):Vp o x t f S P d L w a Ls:=by
 obtain⟨F',h1,h2⟩:=h;exact⟨F',h1.mono fun hi=>hi.more hc hK,h2⟩
theorem Vq.more[zc]{d L:Nat}(h:Vq o x t f S P M n s c K w a Ls)(hc:c≤d)(hK:K≤L):Vq o x t f S P M n s d L w a Ls:=⟨h.1.more hc hK,h.2⟩
theorem Mst.crash[zc]{pn pc:Nat}{pA:Option Addr}(h:Mst S K w a Ls)(hp:jb a pA pn)(hpb:pn≠0→∀b o,pA=some ⟨b,o,none⟩→b<w.heap.size)(hpn:pn≤100000):
 Calls prog 29 #[.pointer (some ⟨zc.no,0,none⟩),.slice pA pn pc] a fun e b=>e= .returned (.tuple #[])∧Mst S K w b Ls:=by
 obtain⟨sb,lb,ab,n,h1,h2,h3,h4⟩:=h;refine(JV (Z:=S) a h1.tozZ ⟨rfl,h1.same⟩ hp (fun h0 b o e=> ?_) hpn).mono ?_
 ·have:=hpb h0 b o e
  omega
 rintro e b ⟨he,⟨sb',Y,hsb,hY,hM⟩,hO⟩;have hYS:Y=S:=QB h1.len (by rw[h1.len,hM.len]) fun j hj=>(hY j hj).elim Eq.symm Eq.symm;subst hYS;have hs:=h3.size;refine⟨he,sb',lb,ab,n,hM,⟨h2.1,by omega,h2.2.2.1,h2.2.2.2⟩,h3.trans (hO.below hs fun k hk e=> ?_),fun p hp=> ?_⟩
 ·obtain⟨g1,g2,g3,g4⟩:=h2;rcases e with e|e|e<;>omega
 ·obtain⟨q1,q2,q3,q4⟩:=h4 p hp;have hl:=za q4;refine⟨q1,q2,?_,(hO.block _ hl ?_).trans q4⟩
  ·rintro(e|e|e)
   ·omega
   ·exact q3 (Or.inr (Or.inl e))
   ·exact q3 (Or.inr (Or.inr e))
  ·rintro(e|e|e)
   ·exact q2 e
   ·exact q3 (Or.inr (Or.inl e))
   ·exact q3 (Or.inr (Or.inr e))
theorem xB{W:World}{B e k m:Nat}{v:Value}{xs:List Value}(h:W.ownsRow B e k v m xs):∃Lu:List (Nat×Obj),(∀p∈Lu,B≤p.1∧W.heap[p.1]? =some p.2∧∃C,p.2= .cells C e (0,0))∧(∀q,v.ownBlock=some q→∃C,(q,Obj.cells C e (0,0))∈Lu)∧(∀p∈Lu,v.ownBlock=some p.1)∧∀W':World,(∀p∈Lu,W'.heap[p.1]? =some p.2)→W'.ownsRow B e k v m xs:=by
 rcases h.2 with⟨rfl,h0⟩|⟨g,cap,cur,rfl,hB,hg,hr⟩
 ·refine⟨[],⟨fun p hp=> ?_,fun q hq=> ?_,fun p hp=> ?_,fun W' _=>⟨h.1,Or.inl ⟨rfl,h0⟩⟩⟩⟩
  ·cases hp
  ·cases hq
  ·cases hp
 ·refine⟨[(g,.cells cur e (0,0))],⟨fun p hp=> ?_,fun q hq=> ?_,fun p hp=> ?_,fun W' hW=>⟨h.1,Or.inr ⟨g,cap,cur,rfl,hB,hW _ (List.mem_singleton.2 rfl),hr⟩⟩⟩⟩
  ·rw[List.mem_singleton.1 hp];exact⟨hB,hg,cur,rfl⟩
  ·cases hq
   exact⟨cur,List.mem_singleton.2 rfl⟩
  ·rw[List.mem_singleton.1 hp];rfl
end
end
end Go.Proofs.YtccpdkjonepoiaaGreatDoor
