/- Metadata over any bytes: what stores, what is read. -/
import Derived.Test.YtckoobkjpndgnaaGreatDoorW27
set_option linter.unusedVariables false
set_option linter.unusedSimpArgs false
set_option linter.unusedSectionVars false
set_option maxHeartbeats 8000000
set_option maxRecDepth 100000
namespace Go.Proofs.YtckoobkjpndgnaaGreatDoor
open Go.RowKit
open Lib(hid)
open Go.Proofs.Tryz
section
attribute [local go_sem] Oper.semAt_some
def MT[MemNo](x t:Nat)(S:List UInt8)(K:Nat)(w:World)(F:Nat→Prop):Prop:=∃P,MetaF x t S P 64 K w F
theorem MT.below[MemNo]{x t K:Nat}{S:List UInt8}{w w':World}{F:Nat→Prop}(h:MT x t S K w F)(hb:Below w.heap.size w w'):MT x t S K w' F:=h.elim fun P h=>⟨P,h.below hb⟩
theorem MT.tight[MemNo]{x t K:Nat}{S:List UInt8}{w:World}{F:Nat→Prop}(h:MT x t S K w F):∀k,F k→k<w.heap.size:=h.elim fun _ h=>h.tight
def Tu[MemNo](x t:Nat)(S:List UInt8)(K:Nat)(F:Nat→Prop)(w w':World):Prop:=∃F',Step (MT x t S K) F w F' w'
theorem Tu.of[MemNo]{x t K:Nat}{S:List UInt8}{w w':World}{F:Nat→Prop}(h:MT x t S K w F)(hb:Below w.heap.size w w'):Tu x t S K F w w':=⟨F,h.below hb,fun _ _ e=>e,below_only hb F⟩
theorem Tu.behind[MemNo]{x t K:Nat}{S:List UInt8}{F:Nat→Prop}{a b d:World}(hb:Below a.heap.size a b)(h:Tu x t S K F b d):Tu x t S K F a d:=h.elim fun F' h=>⟨F',Step.behind hb h⟩
theorem Tu.ahead[MemNo]{x t K:Nat}{S:List UInt8}{F:Nat→Prop}{a b d:World}(h:Tu x t S K F a b)(hb:Below b.heap.size b d):Tu x t S K F a d:=h.elim fun F' h=>⟨F',h.inv.below hb,h.old,h.only.trans (below_only hb F') fun j hj e=>h.old j hj e⟩
theorem Tu.trans[MemNo]{x t K:Nat}{S:List UInt8}{F G:Nat→Prop}{a b d:World}(h:Step (MT x t S K) F a G b)(k:Tu x t S K G b d):Tu x t S K F a d:=k.elim fun F' k=>⟨F',h.trans k⟩
theorem tstore_full[MemNo]{t K:Nat}{S:List UInt8}{P:List Gd.Pa}{F:Nat→Prop}(a:Nat)(v:Value)(L:List UInt8)(w:World)(h:TxnF t S P K w F)(hb:BytesAt w v L)(hS:S.length≤1000000)(haL:a+L.length≤S.length)(hL:L.length≤256)(hn:P.length=64):
 Calls prog 87 #[.pointer (some ⟨t,0,none⟩),.int .i64 a,v] w fun e w'=>e= .returned (.int .i64 1)∧Below w.heap.size w w':=by
 obtain⟨m,g,pv,hM,hT,hLg,ft,fg,fq,hP,hmn⟩:=h;have HLd:=hid (mload_any a L.length w hM haL (by omega));obtain⟨A,c,hv,hA⟩:=hb;have HBy:Hid (BytesAt w v L):=hid ⟨A,c,hv,hA⟩;subst hv;obtain⟨c0,_,c2⟩:=cell2 hT.obj;obtain⟨pA,pc,hpv,_⟩:=row_pa hT.row;have HT:=hid hT;obtain⟨pn,hpn⟩:=nm P.length;rw[←hpn]at hpv hn;have Hpn:=hid hpn;obtain⟨ln,hln⟩:=nm L.length;rw[←hln]at HLd hL;rw[←hln];have Hln:=hid hln;rw[hpv]at c2;have Hpv:=hid hpv;clear hM hLg ft fg fq hP hT hA hpn hln hpv hS haL;clear c0 c2 HBy hmn;go_enter func87,ntmps87;have hto:=HT.o.obj;rw[Hpv.o]at hto;obtain⟨d0,_,_⟩:=cell2 hto;clear hto;go_wp2_with fail
 refine HLd.o.mono ?_;rintro e w1 ⟨v1,rfl,ho1,hb1⟩;have HB1:=hid hb1;have hto:=(hb1.block t (lt_get HT.o.obj)).trans HT.o.obj;rw[Hpv.o]at hto;obtain⟨_,_,d2⟩:=cell2 hto;have e1:(pn:Int)=64:=by omega
 have e2:(ln:Int)≤256:=by omega
 clear ho1 hb1 HLd hto d0 hn;go_wp2_with fail
 go_ret
 exact⟨rfl,HB1.o⟩
theorem store_full[MemNo]{x t c K:Nat}{S:List UInt8}{P:List Gd.Pa}{F:Nat→Prop}(k m:Int)(p:Gd.Pt)(v:Value)(L:List UInt8)(w:World)(h:MetaF x t S P c K w F)(hp:Gd.ptAt k m=some p)(hv:BytesAt w v L)(hL:L.length≤64)(hLp:L.length≤p.s)(hc:P.length=64):
 Calls prog 41 #[.pointer (some ⟨x,0,none⟩),.int .i64 k,.int .i64 m,v] w fun e w'=>e= .returned (.int .i64 1)∧Below w.heap.size w w':=by
 have HF:=hid (find_any5 k m w);rw[hp]at HF;have hpi:=ptAt_in hp;have H:=hid h;have HV:=hid hv;obtain⟨A,cap,hve,-⟩:=hv;have HC:=hid hc;have HL:=hid (And.intro hL hLp);subst hve;obtain⟨ln,hln⟩:=nm L.length;rw[←hln]at HV⊢;clear h hp hc hL hLp hln;go_enter func41,ntmps41;go_wp2_with fail
 refine HF.o.mono ?_;rintro e w1 ⟨rfl,hb1⟩;unfold ptO ptV;have hn:=heap_alloc_new w1 (.cells (ptC p) 156);have hba:=(Below.refl w1.heap.size w1).alloc (Nat.le_refl _) (.cells (ptC p) 156);obtain⟨w2,hw2⟩:=nm (w1.alloc (.cells (ptC p) 156));rw[←hw2]at hn hba;have hb2:Below w.heap.size w w2:=hb1.trans (hba.mono hb1.size);obtain⟨pb,hpb⟩:=nm w1.heap.size;rw[←hpb]at hn;have hdr:Below w.heap.size w w2.drew:=hb2.drew;have H2:=H.o.below hdr;have hx:w2.drew.heap[x]? =_:=H2.obj;have hnd:w2.drew.heap[pb]? =some (.cells (ptC p) 156 (0,0)):=hn;have hs0:w2.drew.cell? ⟨x,0,none⟩=some (.pointer (some ⟨t,0,none⟩))∧w2.drew.cell? ⟨pb,2,none⟩=some (.int .i64 p.a):=⟨cell_of_row _ x 0 _ _ _ hx,cell_of_row _ pb 2 _ _ _ hnd⟩
 have HSt:=hid (tstore_full p.a (.slice A ln cap) L w2.drew H2.txn (HV.o.keep hdr) (by have:=H2.len;omega) (by have:=H2.len;have:=HL.o;omega) (by have:=HL.o;omega) HC.o);have HD:=hid hdr;have Hpb:=hid hpb.symm;have Hw2:=hid hw2.symm;have HTr:Hid (∀W,Below w2.drew.heap.size w2.drew W→W.cell? ⟨x,0,none⟩=some (.pointer (some ⟨t,0,none⟩))∧W.cell? ⟨pb,2,none⟩=some (.int .i64 p.a)):=hid fun W hW=>⟨(hW.cell (p:=⟨x,0,none⟩) (lt_get hx)).trans hs0.1,(hW.cell (p:=⟨pb,2,none⟩) (lt_get hnd)).trans hs0.2⟩;unfold ptC at Hw2;clear hb1 HF hn hba hw2 hb2 hpb hdr H2 hx hnd hpi;go_upto_region 4 with fail
 rw[Hw2.o,Hpb.o];refine wp_region_held_drew (S:=(fun W=>W.cell? ⟨x,0,none⟩=some (.pointer (some ⟨t,0,none⟩))∧W.cell? ⟨pb,2,none⟩=some (.int .i64 p.a))) (by kernel_rfl) ?_ (fun hHeld=> ?_)
 ·exact hs0
 refine tk 0 ?_;refine tk 1 ?_;refine tk 2 ?_;refine tk 3 ?_;refine tk 4 ?_;refine tk 5 ?_;refine tk 6 ?_;refine rd 7 (fun K hK=> ?_);go_simp
 refine HSt.o.mono ?_;rintro e w3 ⟨rfl,hO3⟩;have HO3:=hid hO3;have hs3:=HTr.o w3 hO3;clear hO3;dsimp only;refine hK.o _ _ hs3 (fun hHeld=> ?_);clear hK K;try simp only[put]
 refine tk 8 ?_;refine dn ?_
 (try simp only[Exit.then])
 clear hs0 hs3 HSt HTr;go_wp2;go_ret
 exact⟨rfl,HD.o.trans (HO3.o.mono HD.o.size)⟩
theorem store_t[MemNo]{x t K:Nat}{S:List UInt8}{F:Nat→Prop}(k m:Int)(v:Value)(L:List UInt8)(w:World)(h:MT x t S K w F)(hv:BytesAt w v L)(hL:L.length≤64)(hp:∀p,Gd.ptAt k m=some p→L.length≤p.s)(hap:∀q,v.ownBlock=some q→¬F q):
 Calls prog 41 #[.pointer (some ⟨x,0,none⟩),.int .i64 k,.int .i64 m,v] w fun e w'=>∃er:Int,e= .returned (.int .i64 er)∧Tu x t S K F w w':=by
 have hM:=h;obtain⟨P,h⟩:=h
 cases hpt:Gd.ptAt k m with
 |none=>exact(store_none k m v w h hpt).mono fun e w' ⟨he,hb⟩=>⟨1,he,Tu.of hM hb⟩
 |some p=>
  have hmany:=h.light.many;by_cases hc:P.length=64
  ·exact(store_full k m p v L w h hpt hv hL (hp p hpt) hc).mono fun e w' ⟨he,hb⟩=>⟨1,he,Tu.of hM hb⟩
  ·have h63:MetaF x t S P 63 K w F:=⟨h.txn,h.obj,h.inF,h.len,h.log,⟨by omega,h.light.len⟩,h.tight⟩;exact(store_some k m p v L w h63 hpt hv hL (hp p hpt) (by omega) hap).mono fun e w' ⟨he,F',hs⟩=>⟨0,he,F',hs.mono fun hi=>⟨_,hi⟩⟩
theorem setino_in[MemNo]{x t K:Nat}{S:List UInt8}{F:Nat→Prop}(i:Int)(y:Gd.Ino)(hy:y.Shape)(hm:Gd.mayI y=true)(w:World)(h:MT x t S K w F)(h1:1≤i)(h2:i≤32):
 Calls prog 44 #[.pointer (some ⟨x,0,none⟩),.int .i64 i,inoV y] w fun e w'=>∃er:Int,e= .returned (.int .i64 er)∧Tu x t S K F w w':=by
 obtain⟨hb0,hbb⟩:=ino_box w hy;obtain⟨b,hbe⟩:=nm w.heap.size;obtain⟨wb,hwb⟩:=nm (w.alloc (.cells (inoC y) 72));rw[←hwb,←hbe]at hb0;rw[←hwb]at hbb;have Hbe:=hid hbe.symm;have HBb:=hid hbb;have HWb:=hid hwb;have HI:=hid hb0;have HS:=hid (inoC_size hy);have HM:=hid (h.below hbb);have HT:=hid h.tight;have HPu:=hid (puti_any y hy (ino_all hm) hm wb);have HPt:=hid (Gd.ptAt_node h1 h2);have HLn:=hid (Gd.inoB_length hy);clear hbe hbb hwb hb0 hy hm h h1 h2;go_enter func44,ntmps44;unfold inoV at*;go_upto_region 1 with fail
 rw[←HWb.o,Hbe.o];go_wp2_with(refine wpList_load_row rfl 72 _ rfl b rfl 72 (inoC y) (0,0) _ HI.o.row underlying72 rfl (by rw[HS.o];exact sizeIno) ?_)
 refine HPu.o.mono ?_;rintro e w1 ⟨v1,rfl,ho1,hb1⟩;have HB1:=HBb.t hb1;have HSt:=hid (store_t 4 i v1 (Gd.inoB y) w1 (HM.o.below hb1) ho1.at_ (by rw[HLn.o];omega) (fun p hp=>by rw[HPt.o]at hp;cases hp;rw[HLn.o];exact Nat.le_refl _) (fun q hq e=>by
  have h3:=(own_block ho1 q hq).1;have h4:=HT.o q e;have h5:=HBb.o.size;omega))
 clear ho1 hb1 HPu;go_wp2_with fail
 refine HSt.o.mono ?_;rintro e w2 ⟨er,rfl,ht2⟩;go_wp2;go_ret
 exact⟨er,rfl,Tu.behind HB1.o ht2⟩
theorem setino_t[MemNo]{x t K:Nat}{S:List UInt8}{F:Nat→Prop}(i:Int)(y:Gd.Ino)(hy:y.Shape)(ha:AllI (inoL y))(w:World)(h:MT x t S K w F):
 Calls prog 44 #[.pointer (some ⟨x,0,none⟩),.int .i64 i,inoV y] w fun e w'=>∃er:Int,e= .returned (.int .i64 er)∧Tu x t S K F w w':=by
 by_cases hin:(1≤i∧i≤32)∧Gd.mayI y=true
 ·exact setino_in i y hy hin.2 w h hin.1.1 hin.1.2
 ·have hM:=h;obtain⟨P,h⟩:=h;exact(setino_no i y hy ha w h (by
   cases hm:Gd.mayI y with
   |false=>exact Or.inl rfl
   |true=>exact Or.inr fun hr=>hin ⟨hr,hm⟩)).mono fun e w' ⟨he,hb⟩=>⟨1,he,Tu.of hM hb⟩
theorem setmap_t[MemNo]{x t K:Nat}{S:List UInt8}{F:Nat→Prop}(m:List UInt8)(hm:m.length=16)(w:World)(h:MT x t S K w F):
 Calls prog 43 #[.pointer (some ⟨x,0,none⟩),mapV m] w fun e w'=>∃er:Int,e= .returned (.int .i64 er)∧Tu x t S K F w w':=by
 obtain⟨hbb,hbc⟩:=below_new w (cellsB m) 107;obtain⟨b,hbe⟩:=nm w.heap.size;obtain⟨wb,hwb⟩:=nm (w.alloc (.cells (cellsB m) 107));rw[←hwb,←hbe]at hbc;rw[←hwb]at hbb;have HM:=hid (h.below hbb);have HT:=hid h.tight;have Hbe:=hid hbe.symm;have HBb:=hid hbb;have HWb:=hid hwb.symm;have Hbc:=hid hbc;have HS:=hid (cellsB_len hm);have HBy:=hid (bytesm_any m hm wb);have Hm:=hid hm;clear hbe hbb hwb hbc hm h;unfold mapV at*;go_enter func43,ntmps43;go_upto_region 1 with fail
 rw[HWb.o,Hbe.o];go_wp2_with(refine wpList_load_row rfl 107 _ rfl b rfl 107 (cellsB m) (0,0) _ Hbc.o underlying107 rfl (by rw[HS.o];exact sizeMap) ?_)
 refine HBy.o.mono ?_;rintro e w1 ⟨v1,rfl,ho1,hb1⟩;have HB1:=HBb.t hb1;have HSt:=hid (store_t 3 0 v1 m w1 (HM.o.below hb1) ho1.at_ (by rw[Hm.o];omega) (fun p hp=>by rw[Gd.ptAt_map]at hp;cases hp;rw[Hm.o];show 16≤64;omega) (fun q hq e=>by
  have h3:=(own_block ho1 q hq).1;have h4:=HT.o q e;have h5:=HBb.o.size;omega))
 clear ho1 hb1 HBy;go_wp2_with fail
 refine HSt.o.mono ?_;rintro e w2 ⟨er,rfl,ht2⟩;go_wp2;go_ret
 exact⟨er,rfl,Tu.behind HB1.o ht2⟩
theorem inode_t[MemNo]{x t K:Nat}{S:List UInt8}{F:Nat→Prop}(i:Int)(w:World)(h:MT x t S K w F):
 Calls prog 24 #[.pointer (some ⟨x,0,none⟩),.int .i64 i] w fun e w'=>∃(y:Gd.Ino) (E:Int),(y.Shape∧Gd.mayI y=true∧(E=0→1≤i∧i≤32))∧e= .returned (.tuple #[inoV y,.int .i64 E])∧Below w.heap.size w w':=by
 obtain⟨P,h⟩:=h;by_cases hi:1≤i∧i≤32
 ·have hl:(Gd.part (Gd.view S P) (Gd.inoAt i.toNat) 64).length=64:=Gd.part_length (by rw[h.view_len];unfold Gd.inoAt;omega);by_cases hg:∃y:Gd.Ino,y.Shape∧Gd.mayI y=true∧Gd.part (Gd.view S P) (Gd.inoAt i.toNat) 64=Gd.inoB y
  ·obtain⟨y,h1,h2,h3⟩:=hg;exact(inode_good i y w h hi.1 hi.2 h1 h2 h3).mono fun e w' ⟨he,hb⟩=>⟨y,0,⟨h1,h2,fun _=>hi⟩,he,hb⟩
  ·exact(inode_wrong i w h hi.1 hi.2 hl fun y h1 h2 h3=>hg ⟨y,h1,h2,h3⟩).mono fun e w' ⟨⟨E,hE,he⟩,hb⟩=>⟨_,E,⟨⟨rfl,rfl⟩,by kernel_rfl,fun e=>absurd e hE⟩,he,hb⟩
 ·exact(inode_out i w h hi).mono fun e w' ⟨he,hb⟩=>⟨_,1,⟨⟨rfl,rfl⟩,by kernel_rfl,fun e=>by cases e⟩,he,hb⟩
end
section
open Go.Shelf
attribute [local go_sem] Oper.semAt_some
theorem sequal_ne(u v:Value)(L M:List UInt8)(w:World)(hu:BytesAt w u L)(hv:BytesAt w v M)(hl:L.length≤100000)(hlm:M.length=L.length)(hne:L≠M):Calls prog 165 #[u,v] w fun e w'=>e= .returned (.bool false)∧Below w.heap.size w w':=by
 obtain⟨A,c,rfl,hA⟩:=hu;obtain⟨A',c',rfl,hA'⟩:=hv;obtain⟨n,hn⟩:=nm L.length;have HA:=hid (And.intro hA hA');have Hn:=hid hn;rw[←hn]at hl⊢;rw[hlm,←hn];have Hm:=hid hlm;have Hne:=hid hne;clear hn hA hA' hlm hne;go_enter func165,ntmps165;go_wp2;go_loopw[5,13] (fun _ z wr=>∃i:Nat,z= .int .i64 i∧i≤n∧Hid (L.take i=M.take i)∧Below w.heap.size w wr) (fun _ z _=>n-(intOf z).toNat)
 case atStart=>exact⟨0,rfl,by omega,hid rfl,Below.refl _ _⟩
 case round=>
  obtain⟨i,rfl,hi,HTk,hbw⟩:=hrel;by_cases hlt:i<n
  ·obtain⟨x,hx⟩:∃x,L[i]? =some x:=⟨_,List.getElem?_eq_getElem (by have:=Hn.o;omega)⟩;obtain⟨y,hy⟩:∃y,M[i]? =some y:=⟨_,List.getElem?_eq_getElem (by have:=Hn.o;have:=Hm.o;omega)⟩;rcases HA.o.1 with⟨-,h0,-⟩|⟨b,o,rfl,hb,hc⟩
   ·rw[h0]at hx;simp at hx
   rcases HA.o.2 with⟨-,h0,-⟩|⟨b',o',rfl,hb',hc'⟩
   ·rw[h0]at hy;simp at hy
   have c0:=(hbw.cell (p:=⟨b,o+i,none⟩) hb).trans (hc i x hx);have c1:=(hbw.cell (p:=⟨b',o'+i,none⟩) hb').trans (hc' i y hy);have h1:(i:Int)<n:=by omega
   have h0:(0:Int)≤i:=by omega
   have HBw:=hid hbw;have HNx:Hid (x=y→L.take (i+1)=M.take (i+1)):=hid (fun e=>by rw[List.take_add_one,List.take_add_one,HTk.o,hx,hy,e]);clear hx hy hc hc' hlt hbw;by_cases hxy:x=y
   ·have HTk2:=hid (HNx.o hxy);subst hxy;go_upto_region 6 with fail
    go_region
    all_goals
     go_wp2;go_roundw
     case rel=>exact⟨i+1,by go_num,by omega,HTk2,HBw.o.drew⟩
     case measure=>simp[intOf];omega
   ·have hne:¬(x.toNat:Int)=y.toNat:=fun e=>hxy (UInt8.toNat_inj.1 (by omega));have hq:((x.toNat:Int)==y.toNat)=false:=by rw[beq_eq_false_iff_ne];exact hne
    have hq2:((x.toNat:Int) !=y.toNat)=true:=by rw[bne_iff_ne];exact hne
    clear hxy;go_upto_region 6 with fail
    go_region
    all_goals
     go_wp2;go_ret
     exact⟨rfl,HBw.o.drew⟩
  ·have hT:=HTk.o;rw[List.take_of_length_le (by have:=Hn.o;omega),List.take_of_length_le (by have:=Hn.o;have:=Hm.o;omega)]at hT;exact absurd hT Hne.o
namespace Gd
structure TabW(T:Tab):Prop where
 len:T.length=16
 ent:∀e∈T,e.s.length≤12∧e.i≤255
theorem TabOk.w{T:Tab}(h:TabOk T):TabW T:=⟨h.len,fun e he=>by have:=May.len (h.may e he);omega⟩
theorem TabW.set{T:Tab}(h:TabW T){j:Nat}{e:Ent}(he:e.s.length≤12∧e.i≤255):TabW (setT T j e):=by
 refine⟨by unfold setT;rw[List.length_set];exact h.len,fun x hx=> ?_⟩;rcases List.mem_or_eq_of_mem_set hx with hx|rfl
 ·exact h.ent x hx
 ·exact he
end Gd
theorem tblock_t(T:Gd.Tab)(hOk:Gd.TabW T)(k:Nat)(hk:k<4)(w:World):
 Calls prog 152 #[tabV T,.int .i64 k] w fun e w'=>∃(v:Value) (E:Int),e= .returned (.tuple #[v,.int .i64 E])∧((E=0∧(∀e∈(T.drop (4*k)).take 4,e.May)∧OwnB w' w.heap.size v (Gd.blkT T k))∨E≠0)∧Below w.heap.size w w':=by
 have hT:=hOk.len;obtain⟨tb,htb⟩:=nm w.heap.size;obtain⟨wb,hwb⟩:=nm (w.alloc (.cells (tabC T) 141));have hrow:wb.heap[tb]? =some (.cells (tabC T) 141 (0,0)):=by rw[hwb,htb];exact heap_alloc_new _ _
 have HBb:Hid (Below w.heap.size w wb):=hid (by rw[hwb];exact(Below.refl _ _).alloc (Nat.le_refl _) _);have Hwb:=hid hwb;have hsb:tb<wb.heap.size:=lt_get hrow;have hEn:=tab_ents hrow k;have HI:=hid fun W=>dis_any (k:Int) W;rw[show(decide ((0:Int)≤k)&&decide ((k:Int)<4))=true by simp;omega]at HI;obtain⟨L,hL⟩:=nm ((T.drop (4*k)).take 4);have hl:L.length=4:=by rw[hL,List.length_take,List.length_drop];omega
 rw[←hL]at hEn;have hLm:∀e∈L,e.s.length≤12∧e.i≤255:=fun e he=>hOk.ent e (by rw[hL]at he;exact List.mem_of_mem_drop (List.mem_of_mem_take he));have HLm:=hid hLm;have HLl:=hid hl;have HRes:Hid (Gd.blkT T k=L.flatMap Gd.entB):=hid (by rw[hL];rfl);rw[←hL];have HEn:=hid hEn;have Htb:=hid htb.symm;have HLt:∀i,i≤4→(∀e∈L.take i,e.May)→((L.take i).flatMap Gd.entB).length=16*i:=fun i hi hm=>by
  rw[ents_lenB hm,List.length_take,hl];omega
 have HLT:=hid HLt;have hk4:(k:Int)<4:=by omega
 have hk0:(0:Int)≤k:=by omega
 have hS4:=fun W=>slice4 hk tb W;clear hOk hT htb hwb hrow hEn hL hl hLm HLt;unfold tabV;rw[HRes.o];clear HRes;go_enter func152,ntmps152;go_upto_region 1 with fail
 rw[←Hwb.o,Htb.o];go_upto_region 3 with(go_at_call 164;refine(HI.o _).mono ?_;rintro e w2 ⟨rfl,rfl⟩)
 go_upto_region 5 with fail
 go_loopw[6,19] (fun u z wr=>∃i:Nat,z= .int .i64 i∧i≤4∧Hid (OwnB wr w2.heap.size u ((L.take i).flatMap Gd.entB))∧Hid (∀e∈L.take i,e.May)∧Hid (Below w2.heap.size w2 wr)) (fun _ z _=>4-(intOf z).toNat)
 case atStart=>exact⟨0,rfl,by omega,hid (World.ownsRow_nil _ _ _ _),hid (fun e he=>by simp at he),hid (Below.refl _ _)⟩
 case round=>
  obtain⟨i,rfl,hin,HO,HMi,HBw⟩:=hrel;by_cases hlt:i<4
  ·obtain⟨e,he⟩:∃e,L[i]? =some e:=⟨_,List.getElem?_eq_getElem (by have:=HLl.o;omega)⟩;obtain⟨q0,q1⟩:=(HEn.o.keep HBw.o).cell i e he;have h1:(i:Int)<4:=by omega
   have h0:(0:Int)≤i:=by omega
   have HX:=hid he;have hlen:=HLm.o e (List.mem_of_getElem? he);have HMy:=hid fun W=>emay_any e (by omega) (by omega) W;obtain⟨mb,hmb⟩:=nm (mayE e);rw[←hmb]at HMy;have HMb:Hid (mb=true↔e.May):=hid (by rw[hmb];exact mayE_iff e);clear he hmb;go_upto_region 7 with fail
   obtain⟨q,hq⟩:=nm e.i;obtain⟨s,hs⟩:∃s:ByteArray,s=⟨e.s.toArray⟩:=⟨_,rfl⟩;obtain⟨l,hl⟩:=nm e.s.length;have hsz:s.size=l:=by rw[hs,hl];rfl
   unfold entV at HMy;rw[←hq,←hs]at HMy;rw[←hq,←hs];rw[←hq,←hl]at hlen;have hl12:(l:Int)≤12:=by omega
   have hl12':l≤12:=by omega
   have hq32:q≤255:=by omega
   obtain⟨wz,hwz⟩:=nm (wr.alloc (.cells #[.string s,.int .i64 q] 139));rw[←hwz];have hbz:Below wr.heap.size wr wz:=by rw[hwz];exact(Below.refl _ _).alloc (Nat.le_refl _) _
   have hz:wz.heap[wr.heap.size]? =some (.cells #[.string s,.int .i64 q] 139 (0,0)):=by rw[hwz];exact heap_alloc_new _ _
   obtain⟨zb,hzb⟩:=nm wr.heap.size;rw[←hzb]at hz⊢;have HZ:=hid hz;have z0:wz.cell? ⟨zb,0,none⟩=some (.string s):=cell_of_row wz zb 0 _ _ _ hz;have z1:wz.cell? ⟨zb,1,none⟩=some (.int .i64 q):=cell_of_row wz zb 1 _ _ _ hz;have HBwz:Hid (Below w2.heap.size w2 wz):=HBw.t hbz;have HOz:=hid (HO.o.keep hbz);have HQ:=hid (And.intro hq (And.intro hs hl));obtain⟨PL,hPL⟩:=nm ((L.take i).flatMap Gd.entB);have HPl:Hid (PL.length=16*i):=hid (by rw[hPL];exact HLT.o i hin HMi.o);rw[←hPL]at HOz;have HNext:Hid ((L.take (i+1)).flatMap Gd.entB=PL++Gd.le q 1++Gd.le l 1++e.s++List.replicate (14-l) 0):=hid (by rw[ent_step HX.o,←hPL,←hq,←hl]);clear hwz hbz hz q0 q1 hq hs hl hzb hPL HO hlen hlt;go_wp2_with fail
   refine(HMy.o _).mono ?_
   rintro x w3 ⟨rfl,hb3⟩;have HO3:=hid (HOz.o.keep hb3);have HBw3:=HBwz.t hb3;have HZ3:=hid ((hb3.block zb (lt_get HZ.o)).trans HZ.o);clear hb3 z0 z1 HMy HOz
   cases mb with
   |false=>
    go_wp2_with fail
    go_ret2
    exact⟨_,_,rfl,Or.inr (by decide),HBb.o.trans (HBw3.o.mono HBb.o.size)⟩
   |true=>
   have HMe:Hid e.May:=hid (HMb.o.1 rfl);have z0:w3.cell? ⟨zb,0,none⟩=some (.string s):=cell_of_row w3 zb 0 _ _ _ HZ3.o;have z1:w3.cell? ⟨zb,1,none⟩=some (.int .i64 q):=cell_of_row w3 zb 1 _ _ _ HZ3.o;have HP1:=hid (putn_any u6 PL q 1 (Or.inl rfl) (by omega) (by omega) w3 HO3.o.at_ (by have:=HPl.o;omega));go_wp2_with fail
   refine HP1.o.mono ?_;rintro x w4 ⟨v4,rfl,ho4,hb4⟩;have HO4:=hid (ho4.mono HBw3.o.size);have HBw4:=HBw3.t hb4;have HZ4:=hid ((hb4.block zb (lt_get HZ3.o)).trans HZ3.o);clear ho4 hb4 HP1 z0 z1 HO3;have z0:w4.cell? ⟨zb,0,none⟩=some (.string s):=cell_of_row w4 zb 0 _ _ _ HZ4.o;have HP2:=hid (putn_any v4 _ l 1 (Or.inl rfl) (by omega) (by omega) w4 HO4.o.at_ (by rw[List.length_append,Gd.le_length];have:=HPl.o;omega));go_wp2_with fail
   refine HP2.o.mono ?_;rintro x w5 ⟨v5,rfl,ho5,hb5⟩;have HO5:=hid (ho5.mono HBw4.o.size);have HBw5:=HBw4.t hb5;have HZ5:=hid ((hb5.block zb (lt_get HZ4.o)).trans HZ4.o);clear ho5 hb5 HP2 z0 HO4;have z0:w5.cell? ⟨zb,0,none⟩=some (.string s):=cell_of_row w5 zb 0 _ _ _ HZ5.o;go_upto_region 12 with(at_builtin;refine app_str rfl _ _ rfl w2.heap.size v5 _ w5 rfl HO5.o e.s s HQ.o.2.1 rfl (by rw[List.length_append,List.length_append,Gd.le_length,Gd.le_length,←HQ.o.2.2,HPl.o];omega) HBw5.o.size ?_;intro v6 w6 ho6 hb6)
   have HO6:=hid ho6;have HBw6:=hid (HBw5.o.trans hb6);clear ho6 hb6 z0 HO5;obtain⟨A6,c6,rfl,ht6⟩:=HO6.o.at_;have hl6:(PL++Gd.le q 1++Gd.le l 1++e.s).length=16*i+2+l:=by rw[List.length_append,List.length_append,List.length_append,Gd.le_length,Gd.le_length,←HQ.o.2.2,HPl.o]
   obtain⟨r,hr⟩:=nm ((PL++Gd.le q 1++Gd.le l 1++e.s).length);rw[←hr]at hl6 HO6⊢;have HRr:=hid hr;have g1:(r:Int)=16*i+2+l:=by omega
   have g2:(l:Int)≤12:=by omega
   clear ht6 hr;go_wp2_with(at_builtin;refine app_zeros rfl _ _ rfl w2.heap.size (.slice A6 r c6) _ w6 rfl HO6.o (14-l) _ rfl (by omega) (by have:=HRr.o;omega) HBw6.o.size ?_;intro v7 w7 ho7 hb7)
   have HO7:Hid (OwnB w7 w2.heap.size v7 ((L.take (i+1)).flatMap Gd.entB)):=hid (by rw[HNext.o];exact ho7);have HBw7:=hid (HBw6.o.trans hb7);clear ho7 hb7;go_wp2;go_roundw
   case rel=>exact⟨i+1,by go_num,by omega,HO7,hid (fun y hy=>by
    rw[List.take_add_one,HX.o]at hy;rcases List.mem_append.1 hy with hy|hy
    ·exact HMi.o y hy
    ·simp at hy;rw[hy];exact HMe.o),HBw7⟩
   case measure=>simp[intOf];omega
  ·obtain rfl:i=4:=by omega
   clear hlt;go_wp2_with fail
   go_ret2
   have hm:=HMi.o;have:=HO.o.mono HBb.o.size
   rw[List.take_of_length_le (by have:=HLl.o;omega)]at this hm;exact⟨_,_,rfl,Or.inl ⟨rfl,hm,this⟩,HBb.o.trans (HBw.o.mono HBb.o.size)⟩
namespace Gd
def rawE(L:List UInt8)(i:Nat):Ent:=⟨(L.drop (16*i+2)).take (L.getD (16*i+1) 0).toNat,(L.getD (16*i) 0).toNat⟩
def rdW(T:Tab)(L:List UInt8)(k:Nat):Nat→Tab
 |0=>T
 |i+1=>setT (rdW T L k i) (4*k+i) (rawE L i)
theorem rdW_w{T:Tab}(hT:TabW T)(L:List UInt8)(k:Nat):∀i,(∀j,j<i→(L.getD (16*j+1) 0).toNat≤12)→TabW (rdW T L k i)
 |0,_=>hT
 |i+1,h=>(rdW_w hT L k i fun j hj=>h j (by omega)).set ⟨by
   have:=h i (by omega)
   unfold rawE;rw[List.length_take];omega,by
   have:=(L.getD (16*i) 0).toNat_lt
   show(L.getD (16*i) 0).toNat≤255
   omega⟩
theorem rdW_other{T:Tab}{L:List UInt8}{k:Nat}(hT:T.length=16):∀i,i≤4→∀j,¬(4*k≤j∧j<4*k+4)→(rdW T L k i)[j]? =T[j]?
 |0,_,_,_=>rfl
 |i+1,hi,j,hj=>by
  rw[rdW,setT,List.getElem?_set_ne (by omega)];exact rdW_other hT i (by omega) j hj
theorem rdW_len{T:Tab}{L:List UInt8}{k:Nat}:∀i,(rdW T L k i).length=T.length
 |0=>rfl
 |i+1=>by rw[rdW,setT,List.length_set];exact rdW_len i
theorem rdW_ok{T:Tab}{L:List UInt8}{k:Nat}(hk:k<4)(hT:TabOk T)(h:∀e∈((rdW T L k 4).drop (4*k)).take 4,e.May):TabOk (rdW T L k 4):=by
 refine⟨(rdW_len 4).trans hT.len,fun e he=> ?_⟩;obtain⟨j,hj⟩:=List.mem_iff_getElem?.1 he;by_cases hjk:4*k≤j∧j<4*k+4
 ·refine h e (List.mem_iff_getElem?.2 ⟨j-4*k,?_⟩);rw[List.getElem?_take_of_lt (by omega),List.getElem?_drop,show 4*k+(j-4*k)=j by omega];exact hj
 ·rw[rdW_other hT.len 4 (by omega) j hjk]at hj;exact hT.may e (List.mem_of_getElem? hj)
end Gd
def TabR(w:World)(e:Ending)(w':World):Prop:=∃(T':Gd.Tab) (E:Int),Gd.TabOk T'∧e= .returned (.tuple #[tabV T',.int .i64 E])∧Below w.heap.size w w'
theorem tread_t(T:Gd.Tab)(hOk:Gd.TabOk T)(k:Nat)(hk:k<4)(v:Value)(L:List UInt8)(B:Nat)(w:World)(hv:OwnB w B v L)(hlen:L.length=64):
 Calls prog 147 #[tabV T,.int .i64 k,v] w (TabR w):=by
 obtain⟨b,c,rfl,hc,-,hbl,hcell⟩:=hv.lies (by intro h;rw[h]at hlen;simp at hlen);rw[hlen]at hc⊢;have HLn:=hid hlen;have hsz:=tabC_size hOk.len;obtain⟨tb,htb⟩:=nm w.heap.size;obtain⟨w2,hw2⟩:=nm ((w.alloc (.cells (tabC T) 141)).alloc (.cells (tabC Gd.noTab) 141));obtain⟨w3,hw3⟩:=nm (w2.alloc (.cells (tabC Gd.noTab) 141));have hs2:w2.heap.size=tb+1+1:=by rw[hw2,htb];simp
 have hB2:Below w.heap.size w w2:=by rw[hw2];exact((Below.refl _ _).alloc (Nat.le_refl _) _).alloc (by simp) _
 have hB3:Below w.heap.size w w3:=by rw[hw3];exact hB2.alloc hB2.size _
 have r0:w2.heap[tb]? =some (.cells (tabC T) 141 (0,0)):=by rw[hw2,htb];exact CellsAt.alloc (heap_alloc_new w _) _
 have r1:w2.heap[tb+1]? =some (.cells (tabC Gd.noTab) 141 (0,0)):=by
  have:=heap_alloc_new (w.alloc (.cells (tabC T) 141)) (.cells (tabC Gd.noTab) 141)
  rw[World.size_alloc]at this;rw[hw2,htb];exact this
 have s1:w3.heap[tb+1]? =some (.cells (tabC Gd.noTab) 141 (0,0)):=by rw[hw3];exact CellsAt.alloc r1 _
 have s2:w3.heap[tb+1+1]? =some (.cells (tabC Gd.noTab) 141 (0,0)):=by rw[hw3,←hs2];exact heap_alloc_new _ _
 have HI:=hid fun W=>dis_any (k:Int) W;rw[show(decide ((0:Int)≤k)&&decide ((k:Int)<4))=true by simp;omega]at HI;have HZs:Hid ((tabC Gd.noTab).size=32):=hid (tabC_size rfl);have HS:=hid hsz;have Htb:=hid htb.symm;have HW2:=hid hw2;have HW3:=hid hw3;have Hs2:=hid hs2;have HB2:=hid hB2;have HB3:=hid hB3;have HR0:=hid r0;have HS1:=hid s1;have HS2:=hid s2;have HOk:=hid hOk;have HCl:=hid (And.intro hbl hcell);have hk4:(k:Int)<4:=by omega
 have hk0:(0:Int)≤k:=by omega
 clear hlen hv hbl hcell hsz htb hw2 hw3 hs2 hB2 hB3 r0 r1 s1 s2 hOk;unfold tabV;go_enter func147,ntmps147;go_upto_region 1 with fail
 rw[←zTab,←HW2.o,Htb.o];go_upto_region 5 with(go_at_call 164;refine(HI.o _).mono ?_;rintro e wq ⟨rfl,rfl⟩)
 go_upto_region 6 with(first|(refine wpList_load_row rfl 141 _ rfl tb rfl 141 (tabC T) (0,0) _ HR0.o underlying141 rfl (by rw[HS.o];exact sizeTab) ?_)|(rw[←zTab,←HW3.o,Hs2.o];refine wpList_store_mid rfl 141 _ _ rfl (tb+1+1) 0 (tabC T) rfl rfl (there_at HS2.o (by rw[HZs.o,HS.o])) (by rw[HS.o];exact sizeTab) (tabC_one _) ?_;obtain⟨hbw,hbg⟩:=whole_at HS2.o (vs:=(tabC T).toList) (B:=tb+1+1) (by rw[HZs.o,Array.length_toList,HS.o]) (Nat.le_refl _);generalize (World.setCells _ _ _ _)=w4 at hbw hbg⊢))
 have HT4:Hid (w4.heap[tb]? =some (.cells (tabC T) 141 (0,0))):=hid ((hbw.block tb (show tb<tb+1+1 by omega)).trans (by rw[HW3.o];exact CellsAt.alloc HR0.o _));have HN4:Hid (w4.heap[tb+1+1]? =some (.cells (tabC T) 141 (0,0))):=hid hbg;have HR4:Hid (w4.heap[tb+1]? =some (.cells (tabC Gd.noTab) 141 (0,0))):=hid ((hbw.block (tb+1) (show tb+1<tb+1+1 by omega)).trans HS1.o);have HB4:=hid (HB3.o.trans (hbw.mono (show w.heap.size≤tb+1+1 by rw[Htb.o];omega)));clear hbw hbg;go_upto_region 7 with fail
 go_loopw[9,10,11,25] (fun _ _ _ z wr=>∃i:Nat,z= .int .i64 i∧i≤4∧Hid (wr.heap[tb+1+1]? =some (.cells (tabC (Gd.rdW T L k i)) 141 (0,0)))∧Hid (∀j,j<i→(L.getD (16*j+1) 0).toNat≤12)∧Hid (wr.heap[tb]? =some (.cells (tabC T) 141 (0,0)))∧Hid (wr.heap[tb+1]? =some (.cells (tabC Gd.noTab) 141 (0,0)))∧Hid (Below w.heap.size w wr)) (fun _ _ _ z _=>4-(intOf z).toNat)
 case atStart=>exact⟨0,rfl,by omega,HN4,hid (fun j hj=>absurd hj (by omega)),HT4,HR4,HB4⟩
 case round=>
  obtain⟨i,rfl,hin,HN,HJ,HT,HR,HB⟩:=hrel;by_cases hlt:i<4
  ·obtain⟨q,hq⟩:=nm ((L.getD (16*i) 0).toNat);obtain⟨l,hl⟩:=nm ((L.getD (16*i+1) 0).toNat);have hqb:q≤255:=by rw[hq];have:=(L.getD (16*i) 0).toNat_lt;omega
   have hlb:l≤255:=by rw[hl];have:=(L.getD (16*i+1) 0).toNat_lt;omega
   have b0:L[16*i]? =some (L.getD (16*i) 0):=by rw[List.getD_eq_getElem?_getD,List.getElem?_eq_getElem (by have:=HLn.o;omega)];rfl
   have b1:L[16*i+1]? =some (L.getD (16*i+1) 0):=by rw[List.getD_eq_getElem?_getD,List.getElem?_eq_getElem (by have:=HLn.o;omega)];rfl
   have c0:=HCl.o.2 _ _ b0;have c1:=HCl.o.2 _ _ b1;rw[←hq]at c0;rw[←hl]at c1;have d0:=(HB.o.cell (p:=⟨b,16*i,none⟩) HCl.o.1).trans c0;have d1:=(HB.o.cell (p:=⟨b,16*i+1,none⟩) HCl.o.1).trans c1;have h1:(i:Int)<4:=by omega
   have h0:(0:Int)≤i:=by omega
   have hS1:∀W,(Instr.slice 23 (.slice (some ⟨b,0,none⟩) 64 c) (some (.int .i64 (16*(i:Int)))) (some (.int .i64 (16*((i:Int)+1)))) none).run prog W= .ok (.slice (some ⟨b,16*i,none⟩) 16 (c-16*i)) W:=fun W=>by
    have:=sliceB (b:=b) (o:=0) (n:=64) (c:=c) (l:=16*i) (h:=16*(i+1)) (by omega) (by omega) (by omega) W
    rw[show 0+16*i=16*i by omega,show 16*(i+1)-16*i=16 by omega]at this;rw[←this];push_cast
    rfl
   by_cases hl12n:12<l
   ·have hl12:¬(l:Int)≤12:=by omega
    have hl13:(12:Int)<l:=by omega
    clear hq hl b0 b1 c0 c1 hlt d0;go_upto_region 10 with fail
    go_wp2_with(first|(refine wpList_load_row rfl 141 _ rfl tb rfl 141 (tabC T) (0,0) _ HT.o underlying141 rfl (by rw[HS.o];exact sizeTab) ?_)|(refine wpList_store_mid rfl 141 _ _ rfl (tb+1) 0 (tabC T) rfl rfl (there_at HR.o (by rw[HZs.o,HS.o])) (by rw[HS.o];exact sizeTab) (tabC_one _) ?_;obtain⟨hbw,hbg⟩:=whole_at HR.o (vs:=(tabC T).toList) (B:=tb) (by rw[HZs.o,Array.length_toList,HS.o]) (show tb≤tb+1 by omega);generalize (World.setCells _ _ _ _)=wf at hbw hbg⊢))
    refine bodyPost_ret (results_row_tmp rfl _ _ (tb+1) 141 (tabC T) (0,0) _ rfl hbg underlying141 rfl (by rw[HS.o];exact sizeTab)) rfl ?_;exact⟨T,_,HOk.o,rfl,HB.o.trans (by rw[Htb.o];exact hbw)⟩
   have hl12:(l:Int)≤12:=by omega
   obtain⟨s,hs⟩:∃s:ByteArray,s=⟨(Gd.rawE L i).s.toArray⟩:=⟨_,rfl⟩;have hsl:(Gd.rawE L i).s.length=l:=by
    show((L.drop (16*i+2)).take (L.getD (16*i+1) 0).toNat).length=l
    rw[List.length_take,List.length_drop,HLn.o,←hl];omega
   have bs:∀(j:Nat) (x:UInt8),(Gd.rawE L i).s[j]? =some x→L[16*i+2+j]? =some x:=fun j x hx=>by
    have hx:((L.drop (16*i+2)).take (L.getD (16*i+1) 0).toNat)[j]? =some x:=hx;have hj:j<(L.getD (16*i+1) 0).toNat:=by
     rw[←hl,←hsl];exact(List.getElem?_eq_some_iff.1 hx).1
    rw[List.getElem?_take_of_lt hj,List.getElem?_drop]at hx;exact hx
   have hCV:∀W,Below w.heap.size w W→W.cell? ⟨b,16*i,none⟩=some (.int .u8 q)∧(convert 23 9 (.slice (some ⟨b,16*i+2,none⟩) l (c-16*i-2))).run prog W= .ok (.string s) W:=fun W hW=>by
    refine⟨(hW.cell (p:=⟨b,16*i,none⟩) HCl.o.1).trans c0,?_⟩;rw[hs];exact conv_any _ _ _ ⟨_,_,by rw[hsl],Or.inr ⟨b,16*i+2,rfl,Nat.lt_of_lt_of_le HCl.o.1 hW.size,fun j x hx=>(hW.cell (p:=⟨b,16*i+2+j,none⟩) HCl.o.1).trans (HCl.o.2 _ _ (bs j x hx))⟩⟩
   have HCV:=hid hCV;have hS2:∀W,(Instr.slice 23 (.slice (some ⟨b,16*i,none⟩) 16 (c-16*i)) (some (.int .i64 2)) (some (.int .i64 (2+(l:Int)))) none).run prog W= .ok (.slice (some ⟨b,16*i+2,none⟩) l (c-16*i-2)) W:=fun W=>by
    have:=sliceB (b:=b) (o:=16*i) (n:=16) (c:=c-16*i) (l:=2) (h:=2+l) (by omega) (by omega) (by omega) W
    rw[show 2+l-2=l by omega]at this;rw[←this];push_cast
    rfl
   have HE:=hid (And.intro hq (And.intro hs hl));clear b0 b1 bs hq hs hl hsl c0 c1 hlt hCV;go_upto_region 13 with fail
   have hs0:=HCV.o wr.drew HB.o.drew;obtain⟨n0,n1⟩:=tab_cells HN.o (Gd.entAt_get (Gd.rdW_w HOk.o.w L k i HJ.o).len (show 4*k+i<16 by omega));have m0:=frozen_of_row wr (tb+1+1) ((4*k+i)*2) _ _ HN.o;have m1:=frozen_of_row wr (tb+1+1) ((4*k+i)*2+1) _ _ HN.o;obtain⟨w5,hw5⟩:=nm (((wr.setCell ⟨tb+1+1,(4*k+i)*2,none⟩ (.string s)).setCell ⟨tb+1+1,(4*k+i)*2+1,none⟩ (.int .i64 q)).drew);have hsl2:∀x:Nat,x≠tb+1+1→w5.heap[x]? =wr.heap[x]? :=fun x hx=>by
    rw[hw5];exact(Go.heap_setCell_other _ ⟨tb+1+1,(4*k+i)*2+1,none⟩ x _ hx).trans (Go.heap_setCell_other _ ⟨tb+1+1,(4*k+i)*2,none⟩ x _ hx)
   have HB5:Hid (Below w.heap.size w w5):=hid (by rw[hw5];exact((HB.o.setCell (show w.heap.size≤tb+1+1 by rw[Htb.o];omega) _).setCell (show w.heap.size≤tb+1+1 by rw[Htb.o];omega) _).drew);have HT5:Hid (w5.heap[tb]? =some (.cells (tabC T) 141 (0,0))):=hid ((hsl2 tb (by omega)).trans HT.o);have HJ5:Hid (∀j,j<i+1→(L.getD (16*j+1) 0).toNat≤12):=hid (fun j hj=>by
    by_cases hji:j=i
    ·subst hji;rw[←HE.o.2.2];omega
    ·exact HJ.o j (by omega))
   have HR5:Hid (w5.heap[tb+1]? =some (.cells (tabC Gd.noTab) 141 (0,0))):=hid ((hsl2 (tb+1) (by omega)).trans HR.o);have HN5:Hid (w5.heap[tb+1+1]? =some (.cells (tabC (Gd.rdW T L k (i+1))) 141 (0,0))):=hid (by
    unfold Gd.rdW;rw[tabC_set (by rw[(Gd.rdW_w HOk.o.w L k i HJ.o).len];omega),←HE.o.2.1,show(Gd.rawE L i).i=q from HE.o.1.symm,hw5];exact Go.heap_setCell_same _ (tb+1+1) _ _ _ _ (Go.heap_setCell_same wr (tb+1+1) _ _ _ _ HN.o))
   have HW5:=hid hw5;have hs5:=HCV.o w5 HB5.o;have g7:IntKind.i64.wrap (q:Int)=q:=by rw[IntKind.wrap_i64];omega
   clear d0 d1 hw5 hsl2;have g1:IntKind.i64.wrap (2+(l:Int))=2+l:=by rw[IntKind.wrap_i64];omega
   have g2:IntKind.i64.wrap (4*(k:Int))=4*k:=by rw[IntKind.wrap_i64];omega
   have g3:IntKind.i64.wrap (4*(k:Int)+i)=4*k+i:=by rw[IntKind.wrap_i64];omega
   have g4:(0:Int)≤4*(k:Int)+i:=by omega
   have g5:4*(k:Int)+i<16:=by omega
   have g6:(4*(k:Int)+i).toNat=4*k+i:=by omega
   refine wp_region_held_drew (S:=(fun W=>W.cell? ⟨b,16*i,none⟩=some (.int .u8 q)∧(convert 23 9 (.slice (some ⟨b,16*i+2,none⟩) l (c-16*i-2))).run prog W= .ok (.string s) W)) (by kernel_rfl) ?_ (fun hHeld=> ?_)
   ·exact hs0
   refine tk 0 ?_;refine tk 1 ?_;refine tk 2 ?_;refine tk 3 ?_;refine tk 4 ?_;refine tk 5 ?_;refine tk 6 ?_;refine tk 7 ?_;refine tk 8 ?_;refine tk 9 ?_;refine tk 10 ?_;refine tk 11 ?_;refine tk 12 ?_;refine tk 13 ?_;refine tk 14 ?_;refine rd 15 (fun K hK=> ?_);go_simp
   rw[←HW5.o];try dsimp only
   refine hK.o _ _ hs5 (fun hHeld=> ?_);clear hK K;try simp only[put]
   refine dn ?_
   (try simp only[Exit.then])
   go_wp2;go_roundw
   case rel=>exact⟨i+1,by go_num,by omega,HN5,HJ5,HT5,HR5,HB5⟩
   case measure=>simp[intOf];omega
  ·obtain rfl:i=4:=by omega
   clear hlt;obtain⟨T4,hTe⟩:=nm (Gd.rdW T L k 4);have hT4:Gd.TabW T4:=by rw[hTe];exact Gd.rdW_w HOk.o.w L k 4 HJ.o
   have HOk4:Hid ((∀e∈(T4.drop (4*k)).take 4,e.May)→Gd.TabOk T4):=hid (by rw[hTe];exact Gd.rdW_ok hk HOk.o);rw[←hTe]at HN;have HBk:=hid (tblock_t T4 hT4 k hk wr);have HS4:=hid (tabC_size hT4.len);have HB4l:Hid ((∀e∈(T4.drop (4*k)).take 4,e.May)→(Gd.blkT T4 k).length=64):=hid (fun h=>Gd.blkT_len (HOk4.o h) hk);obtain⟨M,hM⟩:=nm (Gd.blkT T4 k);rw[←hM]at HBk HB4l;have hc64:(64:Int)≤c:=by omega
   clear hT4 hTe hM;unfold tabV at HBk;go_upto_region 16 with(first|(refine wpList_load_row rfl 141 _ rfl (tb+1+1) rfl 141 (tabC T4) (0,0) _ HN.o underlying141 rfl (by rw[HS4.o];exact sizeTab) ?_)|(go_at_call 152;refine HBk.o.mono ?_;rintro e w5 ⟨v5,E5,rfl,ho5,hb5⟩))
   have HB5:=HB.t hb5;have HN5:=HN.r hb5;have HT5:=HT.r hb5;have HR5:=HR.r hb5;clear hb5 HBk;rcases ho5 with⟨rfl,hmy,ho5⟩|hE5
   ·have HM4:=hid (HOk4.o hmy);by_cases hML:M=L
    ·have HEq:=hid (sequal_any v5 (.slice (some ⟨b,0,none⟩) 64 c) M w5 ho5.at_ (by rw[hML];exact⟨_,_,by rw[HLn.o],Or.inr ⟨b,0,rfl,Nat.lt_of_lt_of_le HCl.o.1 HB5.o.size,fun j x hx=>by rw[Nat.zero_add];exact(HB5.o.cell (p:=⟨b,j,none⟩) HCl.o.1).trans (HCl.o.2 j x hx)⟩⟩) (by rw[HB4l.o hmy];omega));clear ho5 hmy hML;go_upto_region 18 with(go_at_call 165;refine HEq.o.mono ?_;rintro e w6 ⟨rfl,hb6⟩)
     have HB6:=HB5.t hb6;have HN6:=HN5.r hb6;have HT6:=HT5.r hb6;have HR6:=HR5.r hb6;clear hb6;go_wp2_with(first|(refine wpList_load_row rfl 141 _ rfl (tb+1+1) rfl 141 (tabC T4) (0,0) _ HN6.o underlying141 rfl (by rw[HS4.o];exact sizeTab) ?_)|(refine wpList_store_mid rfl 141 _ _ rfl (tb+1) 0 (tabC T4) rfl rfl (there_at HR6.o (by rw[HZs.o,HS4.o])) (by rw[HS4.o];exact sizeTab) (tabC_one _) ?_;obtain⟨hbw,hbg⟩:=whole_at HR6.o (vs:=(tabC T4).toList) (B:=tb) (by rw[HZs.o,Array.length_toList,HS4.o]) (show tb≤tb+1 by omega);generalize (World.setCells _ _ _ _)=wf at hbw hbg⊢))
     refine bodyPost_ret (results_row_tmp rfl _ _ (tb+1) 141 (tabC T4) (0,0) _ rfl hbg underlying141 rfl (by rw[HS4.o];exact sizeTab)) rfl ?_;exact⟨T4,_,HM4.o,rfl,HB6.o.trans (by rw[Htb.o];exact hbw)⟩
    ·have HEq:=hid (sequal_ne v5 (.slice (some ⟨b,0,none⟩) 64 c) M L w5 ho5.at_ ⟨_,_,by rw[HLn.o],Or.inr ⟨b,0,rfl,Nat.lt_of_lt_of_le HCl.o.1 HB5.o.size,fun j x hx=>by rw[Nat.zero_add];exact(HB5.o.cell (p:=⟨b,j,none⟩) HCl.o.1).trans (HCl.o.2 j x hx)⟩⟩ (by rw[HB4l.o hmy];omega) (by rw[HLn.o,HB4l.o hmy]) hML);clear ho5 hmy hML;go_upto_region 17 with(go_at_call 165;refine HEq.o.mono ?_;rintro e w6 ⟨rfl,hb6⟩)
     have HB6:=HB5.t hb6;have HN6:=HN5.r hb6;have HT6:=HT5.r hb6;have HR6:=HR5.r hb6;clear hb6;go_wp2_with(first|(refine wpList_load_row rfl 141 _ rfl tb rfl 141 (tabC T) (0,0) _ HT6.o underlying141 rfl (by rw[HS.o];exact sizeTab) ?_)|(refine wpList_store_mid rfl 141 _ _ rfl (tb+1) 0 (tabC T) rfl rfl (there_at HR6.o (by rw[HZs.o,HS.o])) (by rw[HS.o];exact sizeTab) (tabC_one _) ?_;obtain⟨hbw,hbg⟩:=whole_at HR6.o (vs:=(tabC T).toList) (B:=tb) (by rw[HZs.o,Array.length_toList,HS.o]) (show tb≤tb+1 by omega);generalize (World.setCells _ _ _ _)=wf at hbw hbg⊢))
     refine bodyPost_ret (results_row_tmp rfl _ _ (tb+1) 141 (tabC T) (0,0) _ rfl hbg underlying141 rfl (by rw[HS.o];exact sizeTab)) rfl ?_;exact⟨T,_,HOk.o,rfl,HB6.o.trans (by rw[Htb.o];exact hbw)⟩
   ·have hE6:(E5 !=0)=true:=by rw[bne_iff_ne];exact hE5
    clear hE5;go_wp2_with(first|(refine wpList_load_row rfl 141 _ rfl tb rfl 141 (tabC T) (0,0) _ HT5.o underlying141 rfl (by rw[HS.o];exact sizeTab) ?_)|(refine wpList_store_mid rfl 141 _ _ rfl (tb+1) 0 (tabC T) rfl rfl (there_at HR5.o (by rw[HZs.o,HS.o])) (by rw[HS.o];exact sizeTab) (tabC_one _) ?_;obtain⟨hbw,hbg⟩:=whole_at HR5.o (vs:=(tabC T).toList) (B:=tb) (by rw[HZs.o,Array.length_toList,HS.o]) (show tb≤tb+1 by omega);generalize (World.setCells _ _ _ _)=wf at hbw hbg⊢))
    refine bodyPost_ret (results_row_tmp rfl _ _ (tb+1) 141 (tabC T) (0,0) _ rfl hbg underlying141 rfl (by rw[HS.o];exact sizeTab)) rfl ?_;exact⟨T,_,HOk.o,rfl,HB5.o.trans (by rw[Htb.o];exact hbw)⟩
end
end Go.Proofs.YtckoobkjpndgnaaGreatDoor
