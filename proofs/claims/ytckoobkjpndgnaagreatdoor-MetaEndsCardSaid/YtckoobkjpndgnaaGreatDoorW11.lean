/- Walks: metadata: inodes and the map are set. -/
import Derived.Test.YtckoobkjpndgnaaGreatDoorW10
set_option linter.unusedVariables false
set_option linter.unusedSimpArgs false
set_option linter.unusedSectionVars false
set_option maxHeartbeats 8000000
set_option maxRecDepth 100000
namespace Go.Proofs.YtckoobkjpndgnaaGreatDoor
open Go.RowKit
open Lib(hid)
open Go.Proofs.Tryz
section
attribute [local go_sem] Oper.semAt_some
theorem store_turns[MemNo]{x t c K:Nat}{S:List UInt8}{M M':Gd.Vol}{F:Nat→Prop}(k m:Int)(p:Gd.Pt)(v:Value)(L:List UInt8)(w:World)(h:MetaV x t S M c K w F)(hp:Gd.ptAt k m=some p)(hv:BytesAt w v L)(hL:L.length≤64)(hLp:L.length≤p.s)(hc:c<64)(hap:∀q,v.ownBlock=some q→¬F q)(hM:∀V,Gd.Good V M→Gd.Good (Gd.splice V p.a L) M'):
 Calls prog 41 #[.pointer (some ⟨x,0,none⟩),.int .i64 k,.int .i64 m,v] w fun e w'=>e= .returned (.int .i64 0)∧Turns x t S M' (c+1) K F w w':=by
 obtain⟨P,h,hG⟩:=h;refine(store_some k m p v L w h hp hv hL hLp hc hap).mono ?_
 rintro e w' ⟨he,F',hs⟩;refine⟨he,F',hs.mono fun h'=>⟨_,h',?_⟩⟩;rw[Gd.view_snoc];exact hM _ hG
theorem setino_no[MemNo]{x t c K:Nat}{S:List UInt8}{P:List Gd.Pa}{F:Nat→Prop}(i:Int)(y:Gd.Ino)(hy:y.Shape)(hI:AllI (inoL y))(w:World)(h:MetaF x t S P c K w F)(hb:Gd.mayI y=false∨¬(1≤i∧i≤32)):
 Calls prog 44 #[.pointer (some ⟨x,0,none⟩),.int .i64 i,inoV y] w fun e w'=>e= .returned (.int .i64 1)∧Below w.heap.size w w':=by
 obtain⟨hb0,hbb⟩:=ino_box w hy;obtain⟨b,hbe⟩:=nm w.heap.size;obtain⟨wb,hwb⟩:=nm (w.alloc (.cells (inoC y) 72));rw[←hwb,←hbe]at hb0;rw[←hwb]at hbb;have Hbe:=hid hbe.symm;have HBb:=hid hbb;have HWb:=hid hwb;have HI:=hid hb0;have HS:=hid (inoC_size hy);have HM:=hid (h.below hbb)
 cases hm:Gd.mayI y with
 |false=>
  have HPu:=hid (puti_bad y hy hI hm wb);unfold Bad1 at HPu;clear hbe hbb hwb hb0 hy hI h hb hm;go_enter func44,ntmps44;unfold inoV at*;go_upto_region 1 with fail
  rw[←HWb.o,Hbe.o];go_wp2_with(first|(refine wpList_load_row rfl 72 _ rfl b rfl 72 (inoC y) (0,0) _ HI.o.row underlying72 rfl (by rw[HS.o];exact sizeIno) ?_)|(go_at_call 89;refine HPu.o.mono ?_;rintro e w1 ⟨rfl,hb1⟩))
  go_ret
  exact⟨rfl,HBb.o.trans (hb1.mono HBb.o.size)⟩
 |true=>
  have hi:¬(1≤i∧i≤32):=by
   rcases hb with e|e
   ·rw[hm]at e;cases e
   ·exact e
  have HPu:=hid (puti_any y hy hI hm wb);have HPt:=hid (Gd.ptAt_nonode hi);clear hbe hbb hwb hb0 hy hI h hb hm hi;go_enter func44,ntmps44;unfold inoV at*;go_upto_region 1 with fail
  rw[←HWb.o,Hbe.o];go_wp2_with(refine wpList_load_row rfl 72 _ rfl b rfl 72 (inoC y) (0,0) _ HI.o.row underlying72 rfl (by rw[HS.o];exact sizeIno) ?_)
  refine HPu.o.mono ?_;rintro e w1 ⟨v1,rfl,ho1,hb1⟩;have HB1:=HBb.t hb1;have hMF:=HM.o.below hb1;have HSt:=hid (store_none 4 i v1 w1 hMF HPt.o);clear ho1 hb1 hMF HPu;go_wp2_with fail
  refine HSt.o.mono ?_;rintro e w2 ⟨rfl,hb2⟩;go_wp2;go_ret
  exact⟨rfl,HB1.o.trans (hb2.mono HB1.o.size)⟩
theorem setino_f[MemNo]{x t c K:Nat}{S:List UInt8}{P:List Gd.Pa}{F:Nat→Prop}(i:Int)(y:Gd.Ino)(hy:y.Shape)(hm:Gd.mayI y=true)(w:World)(h:MetaF x t S P c K w F)(h1:1≤i)(h2:i≤32)(hc:c<64):
 Calls prog 44 #[.pointer (some ⟨x,0,none⟩),.int .i64 i,inoV y] w fun e w'=>e= .returned (.int .i64 0)∧∃F',Step (MetaF x t S (P++[(Gd.inoAt i.toNat,Gd.inoB y)]) (c+1) K) F w F' w':=by
 obtain⟨hb0,hbb⟩:=ino_box w hy;obtain⟨b,hbe⟩:=nm w.heap.size;obtain⟨wb,hwb⟩:=nm (w.alloc (.cells (inoC y) 72));rw[←hwb,←hbe]at hb0;rw[←hwb]at hbb;have Hbe:=hid hbe.symm;have HBb:=hid hbb;have HWb:=hid hwb;have HI:=hid hb0;have HS:=hid (inoC_size hy);have HM:=hid (h.below hbb);have HT:=hid h.tight;have HPu:=hid (puti_any y hy (ino_all hm) hm wb);have HPt:=hid (Gd.ptAt_node h1 h2);have HLn:=hid (Gd.inoB_length hy);have HC:=hid hc;clear hbe hbb hwb hb0 hy hm h h1 h2 hc;go_enter func44,ntmps44;unfold inoV at*;go_upto_region 1 with fail
 rw[←HWb.o,Hbe.o];go_wp2_with(refine wpList_load_row rfl 72 _ rfl b rfl 72 (inoC y) (0,0) _ HI.o.row underlying72 rfl (by rw[HS.o];exact sizeIno) ?_)
 refine HPu.o.mono ?_;rintro e w1 ⟨v1,rfl,ho1,hb1⟩;have HB1:=HBb.t hb1;have HSt:=hid (store_some 4 i _ v1 (Gd.inoB y) w1 (HM.o.below hb1) HPt.o ho1.at_ (by rw[HLn.o];omega) (by rw[HLn.o];exact Nat.le_refl _) HC.o (fun q hq e=>by
  have h3:=(own_block ho1 q hq).1;have h4:=HT.o q e;have h5:=HBb.o.size;omega))
 clear ho1 hb1 HPu;go_wp2_with fail
 refine HSt.o.mono ?_;rintro e w2 ⟨rfl,F2,ht2⟩;go_wp2;go_ret
 exact⟨rfl,F2,Step.behind HB1.o ht2⟩
theorem setino_ok[MemNo]{x t c K:Nat}{S:List UInt8}{M:Gd.Vol}{F:Nat→Prop}(i:Int)(y:Gd.Ino)(hy:y.Shape)(hm:Gd.mayI y=true)(w:World)(h:MetaV x t S M c K w F)(h1:1≤i)(h2:i≤32)(hc:c<64):
 Calls prog 44 #[.pointer (some ⟨x,0,none⟩),.int .i64 i,inoV y] w fun e w'=>e= .returned (.int .i64 0)∧Turns x t S (M.setIno i.toNat y) (c+1) K F w w':=by
 obtain⟨P,h,hG⟩:=h;refine(setino_f i y hy hm w h h1 h2 hc).mono ?_
 rintro e w' ⟨he,F',hs⟩;refine⟨he,F',hs.mono fun h'=>⟨_,h',?_⟩⟩;rw[Gd.view_snoc];exact hG.setIno (by omega) (by omega) hy hm
theorem map_f[MemNo]{x t c K:Nat}{S:List UInt8}{P:List Gd.Pa}{F:Nat→Prop}(m:List UInt8)(hml:m.length=16)(hmp:Gd.part (Gd.view S P) 576 16=m)(w:World)(h:MetaF x t S P c K w F):
 Calls prog 110 #[.pointer (some ⟨x,0,none⟩)] w fun e w'=>e= .returned (mapV m)∧Below w.heap.size w w':=by
 obtain⟨Z,hZ⟩:∃Z:Array Value,Z=#[.int .u8 0,.int .u8 0,.int .u8 0,.int .u8 0,.int .u8 0,.int .u8 0,.int .u8 0,.int .u8 0,.int .u8 0,.int .u8 0,.int .u8 0,.int .u8 0,.int .u8 0,.int .u8 0,.int .u8 0,.int .u8 0]:=⟨_,rfl⟩;have hZs:Z.size=16:=by rw[hZ];rfl
 obtain⟨hb0,hr0⟩:=below_new w Z 107;obtain⟨r,hr⟩:=nm w.heap.size;obtain⟨w0,hw0⟩:=nm (w.alloc (.cells Z 107));rw[←hw0,←hr]at hr0;rw[←hw0]at hb0;have hlen:(Gd.part (Gd.view S P) 576 64).length=64:=Gd.part_length (by rw[h.view_len];omega);have htk:(Gd.part (Gd.view S P) 576 64).take 16=m:=by rw[Gd.part_take _ _ (by omega),hmp]
 have HLd:=hid (load_some 3 0 _ w0 (h.below hb0) Gd.ptAt_map);dsimp only at HLd;obtain⟨L,hL⟩:=nm (Gd.part (Gd.view S P) 576 64);rw[←hL]at HLd hlen htk;have HR0:=hid hr0;have HB0:=hid hb0;have HW0:=hid hw0.symm;have Hr:=hid hr.symm;have HZ:=hid hZ.symm;have HZs:=hid hZs;have HS:=hid (cellsB_len hml);have HT:=hid (And.intro hlen htk);clear h hml hmp hZ hZs hb0 hr0 hr hw0 hlen htk hL;go_enter func110,ntmps110;go_upto_region 1 with fail
 rw[HZ.o,HW0.o,Hr.o];go_wp2_with fail
 refine HLd.o.mono ?_;rintro e w1 ⟨v1,rfl,ho1,hb1⟩;have HR1:=hid ((hb1.block r (lt_get HR0.o)).trans HR0.o);have HB1:=HB0.t hb1;have HRd:=hid (readm_any v1 L _ w1 ho1 (by rw[HT.o.1];omega));rw[HT.o.2]at HRd;unfold mapV at*;clear hb1 HLd ho1;go_wp2_with fail
 refine HRd.o.mono ?_;rintro e w2 ⟨rfl,hb2⟩;have HR2:=hid ((hb2.block r (lt_get HR1.o)).trans HR1.o);have HB2:=HB1.t hb2;obtain⟨hb3,hn3⟩:=below_new w2 Z 107;obtain⟨w3,hw3⟩:=nm (w2.alloc (.cells Z 107));obtain⟨b,hbe⟩:=nm w2.heap.size;rw[←hw3,←hbe]at hn3;rw[←hw3]at hb3;have HN3:=hid hn3;have HR3:=hid ((hb3.block r (lt_get HR2.o)).trans HR2.o);have HB3:=HB2.t hb3;have Hbe:=hid hbe.symm;have HW3:=hid hw3.symm;rw[←HZ.o]at HW3;have HbB:Hid (r<b):=hid (by rw[hbe];exact lt_get HR2.o);clear hb2 HRd hw3 hb3 hn3 hbe
 go_wp2_with(first|(refine wpList_store_mid rfl 107 _ _ rfl b 0 (cellsB m) (by rw[←Hbe.o];rfl) rfl (by rw[HW3.o];exact there_at HN3.o (by rw[HZs.o,HS.o])) (by rw[HS.o];exact sizeMap) (cellsB_one _) ?_;rw[HW3.o];obtain⟨hbw,hbg⟩:=whole_at HN3.o (vs:=(cellsB m).toList) (B:=b) (by rw[HZs.o,Array.length_toList,HS.o]) (Nat.le_refl b);generalize (World.setCells _ _ _ _)=w4 at hbw hbg⊢;have HG4:=hid hbg;have HR4:=hid ((hbw.block r HbB.o).trans HR3.o);have HB4:=hid (HB3.o.trans (hbw.mono (show w.heap.size≤b by have:=HbB.o;have:=Hr.o;omega)));clear hbw hbg)|(refine wpList_load_row rfl 107 _ rfl b (by rw[←Hbe.o];rfl) 107 (cellsB m) (0,0) _ HG4.o underlying107 rfl (by rw[HS.o];exact sizeMap) ?_)|(refine wpList_store_mid rfl 107 _ _ rfl r 0 (cellsB m) rfl rfl (there_at HR4.o (by rw[HZs.o,HS.o])) (by rw[HS.o];exact sizeMap) (cellsB_one _) ?_;obtain⟨hbw,hbg⟩:=whole_at HR4.o (vs:=(cellsB m).toList) (B:=r) (by rw[HZs.o,Array.length_toList,HS.o]) (Nat.le_refl r);generalize (World.setCells _ _ _ _)=wf at hbw hbg⊢))
 refine bodyPost_ret (results_cell_row rfl _ _ r 107 (cellsB m) (0,0) _ rfl hbg underlying107 rfl (by rw[HS.o];exact sizeMap)) rfl ?_;exact⟨rfl,HB4.o.trans (by rw[Hr.o];exact hbw)⟩
theorem map_any[MemNo]{x t c K:Nat}{S:List UInt8}{M:Gd.Vol}{F:Nat→Prop}(w:World)(h:MetaV x t S M c K w F):
 Calls prog 110 #[.pointer (some ⟨x,0,none⟩)] w fun e w'=>e= .returned (mapV M.map)∧Below w.heap.size w w':=by
 obtain⟨P,h,hG⟩:=h;exact map_f M.map hG.mapl hG.map w h
theorem setmap_f[MemNo]{x t c K:Nat}{S:List UInt8}{P:List Gd.Pa}{F:Nat→Prop}(m:List UInt8)(hm:m.length=16)(w:World)(h:MetaF x t S P c K w F)(hc:c<64):
 Calls prog 43 #[.pointer (some ⟨x,0,none⟩),mapV m] w fun e w'=>e= .returned (.int .i64 0)∧∃F',Step (MetaF x t S (P++[(576,m)]) (c+1) K) F w F' w':=by
 obtain⟨hbb,hbc⟩:=below_new w (cellsB m) 107;obtain⟨b,hbe⟩:=nm w.heap.size;obtain⟨wb,hwb⟩:=nm (w.alloc (.cells (cellsB m) 107));rw[←hwb,←hbe]at hbc;rw[←hwb]at hbb;have HM:=hid (h.below hbb);have HT:=hid h.tight;have Hbe:=hid hbe.symm;have HBb:=hid hbb;have HWb:=hid hwb.symm;have Hbc:=hid hbc;have HS:=hid (cellsB_len hm);have HBy:=hid (bytesm_any m hm wb);have Hm:=hid hm;have HC:=hid hc;clear hbe hbb hwb hbc hm h hc;unfold mapV at*;go_enter func43,ntmps43;go_upto_region 1 with fail
 rw[HWb.o,Hbe.o];go_wp2_with(refine wpList_load_row rfl 107 _ rfl b rfl 107 (cellsB m) (0,0) _ Hbc.o underlying107 rfl (by rw[HS.o];exact sizeMap) ?_)
 refine HBy.o.mono ?_;rintro e w1 ⟨v1,rfl,ho1,hb1⟩;have HB1:=HBb.t hb1;have HSt:=hid (store_some 3 0 _ v1 m w1 (HM.o.below hb1) Gd.ptAt_map ho1.at_ (by rw[Hm.o];omega) (by rw[Hm.o];show 16≤64;omega) HC.o (fun q hq e=>by
  have h3:=(own_block ho1 q hq).1;have h4:=HT.o q e;have h5:=HBb.o.size;omega))
 clear ho1 hb1 HBy;go_wp2_with fail
 refine HSt.o.mono ?_;rintro e w2 ⟨rfl,F2,ht2⟩;go_wp2;go_ret
 exact⟨rfl,F2,Step.behind HB1.o ht2⟩
theorem setmap_any[MemNo]{x t c K:Nat}{S:List UInt8}{M:Gd.Vol}{F:Nat→Prop}(m:List UInt8)(hm:m.length=16)(w:World)(h:MetaV x t S M c K w F)(hc:c<64):
 Calls prog 43 #[.pointer (some ⟨x,0,none⟩),mapV m] w fun e w'=>e= .returned (.int .i64 0)∧Turns x t S (M.setMap m) (c+1) K F w w':=by
 obtain⟨P,h,hG⟩:=h;refine(setmap_f m hm w h hc).mono ?_
 rintro e w' ⟨he,F',hs⟩;refine⟨he,F',hs.mono fun h'=>⟨_,h',?_⟩⟩;rw[Gd.view_snoc];exact hG.setMap hm
theorem metold_any(n e:Int)(w:World):Calls prog 68 #[.int .i64 n,.int .i64 e] w fun e' w'=>e'= .returned (.tuple #[.int .i64 (if e=0 then n else 0),.int .i64 e])∧w'=w:=by
 by_cases h:e=0
 ·subst h;go_enter func68,ntmps68;go_wp2;go_ret2
  exact⟨rfl,rfl⟩
 ·go_enter func68,ntmps68;go_wp2;go_ret2
  exact⟨by simp[h],rfl⟩
end
section
attribute [local go_sem] Oper.semAt_some
namespace Gd
theorem byte_full:∀c:Fin 256,(∀b:Fin 8,(c.val&&& 2^b.val !=0)=true)→cnt c.val=8:=by decide+kernel
theorem count_le{m:List UInt8}(hm:m.length=16):countB m≤128:=by
 have h:∀L:List UInt8,(L.map fun c=>cnt c.toNat).sum≤L.length*8:=by
  intro L;induction L with
  |nil=>simp
  |cons a r ih=>
   have:=cnt_le ⟨a.toNat,a.toNat_lt⟩
   simp only[List.map_cons,List.sum_cons,List.length_cons];dsimp only at this;omega
 have:=h m
 unfold countB;omega
theorem count_full{m:List UInt8}(hm:m.length=16)(h:∀k,1≤k→k≤128→usedB m k=true):countB m=128:=by
 have h8:∀(i:Nat) (c:UInt8),m[i]? =some c→cnt c.toNat=8:=by
  intro i c hc;have hi:=(List.getElem?_eq_some_iff.1 hc).1;refine byte_full ⟨c.toNat,c.toNat_lt⟩ fun b=> ?_;have:=h (i*8+b.val+1) (by omega) (by omega)
  unfold usedB byteAt bitOf at this;rw[show(i*8+b.val+1-1)/8=i by omega,show(i*8+b.val+1-1) % 8=b.val by omega,List.getD_eq_getElem?_getD,hc]at this;exact this
 have h2:∀(L:List UInt8),(∀c∈L,cnt c.toNat=8)→(L.map fun c=>cnt c.toNat).sum=L.length*8:=by
  intro L;induction L with
  |nil=>simp
  |cons a r ih=>
   intro hL;simp only[List.map_cons,List.sum_cons,List.length_cons];rw[ih fun c hc=>hL c (List.mem_cons_of_mem _ hc),hL a (List.mem_cons_self ..)];omega
 have:=h2 m fun c hc=>by
  obtain⟨i,hi,e⟩:=List.mem_iff_getElem.1 hc;exact h8 i c (by rw[List.getElem?_eq_getElem hi,e])
 unfold countB;omega
theorem first_some{m:List UInt8}(hm:m.length=16)(h:countB m<128):1≤firstB m∧firstB m≤128∧usedB m (firstB m)=false:=by
 rcases firstFrom_in (m:=m) (f:=128) (n:=1) (by omega) (by omega)with⟨e,ha⟩|⟨h1,h2,h3,_⟩
 ·have:=count_full hm ha
  omega
 ·exact⟨h1,h2,h3⟩
def Vol.take(M:Vol):Vol:=(M.setMap (takeB M.map (firstB M.map))).setBlk (firstB M.map) (List.replicate 64 0)
end Gd
theorem run_loadAt_row{w:World}{b t:Nat}{C:Array Value}(h:w.heap[b]? =some (.cells C t (0,0)))(hs:C.size=16):(Instr.loadAt 107 (.pointer (some ⟨b,0,none⟩))).run prog w= .ok (.agg C) w:=by
 have hr:w.rangeAt b 0 C.toList:=fun j v hj=>by
  rw[Nat.zero_add,cell_of_row w b j _ _ _ h];simpa using hj
 have:=run_loadAt_mid (P:=prog) w b 0 107 C.toList _ hr underlying107 rfl (by rw[Array.length_toList,hs];exact sizeMap)
 rw[this]
theorem block_ok[MemNo]{x t c K:Nat}{S:List UInt8}{M:Gd.Vol}{F:Nat→Prop}(spare:Int)(w:World)(h:MetaV x t S M c K w F)(hsp:max 0 spare<128-(Gd.countB M.map:Int))(hc:c+2<64):
 Calls prog 151 #[.pointer (some ⟨x,0,none⟩),.int .i64 spare] w fun e w'=>e= .returned (.tuple #[.int .i64 (Gd.firstB M.map),.int .i64 0])∧Turns x t S M.take (c+2) K F w w':=by
 have hml:M.map.length=16:=by
  obtain⟨P,h,hG⟩:=h;exact hG.mapl
 obtain⟨m,hmm⟩:=nm M.map;have HMp:=hid (map_any w h);rw[←hmm]at hml HMp hsp
 (try rw[←hmm])
 have HM:=hid h;have HS:=hid (cellsB_len hml);have Hml:=hid hml;obtain⟨Z,hZ⟩:∃Z:Array Value,Z=#[.int .u8 0,.int .u8 0,.int .u8 0,.int .u8 0,.int .u8 0,.int .u8 0,.int .u8 0,.int .u8 0,.int .u8 0,.int .u8 0,.int .u8 0,.int .u8 0,.int .u8 0,.int .u8 0,.int .u8 0,.int .u8 0]:=⟨_,rfl⟩;have HZs:Hid (Z.size=16):=hid (by rw[hZ];rfl);have HZ:=hid hZ.symm;have HFi:=hid fun W=>first_any m hml W;have HCo:=hid fun W=>count_any m hml W;obtain⟨f,hf⟩:=nm (Gd.firstB m);obtain⟨cn,hcn⟩:=nm (Gd.countB m);rw[←hf]at HFi;rw[←hcn]at HCo hsp;have hcl:cn≤128:=by rw[hcn];exact Gd.count_le hml
 have hcw:IntKind.i64.wrap (128-(cn:Int))=128-(cn:Int):=by rw[IntKind.wrap_i64];omega
 have hcw2:(cn:Int)≤128:=by omega
 have Hf:=hid hf;have Hcn:=hid hcn;have Hmm:=hid hmm;unfold mapV at*;have hfs:1≤f∧f≤128:=by
  have h1:=Gd.first_some hml (by rw[←hcn];omega);rw[←hf]at h1;exact⟨h1.1,h1.2.1⟩
 have Hfs:=hid hfs;have htk:Gd.takeI m (f:Int)=Gd.takeB m f:=by
  unfold Gd.takeI Gd.isBlk;rw[Int.toNat_natCast,decide_eq_true (by omega),decide_eq_true (by omega)];rfl
 have HTk:=hid fun W=>take_any m hml (f:Int) W;rw[htk]at HTk;unfold mapV at HTk;obtain⟨m2,hm2⟩:=nm (Gd.takeB m f);rw[←hm2]at HTk;have hm2l:m2.length=16:=by rw[hm2,Gd.take_length];exact hml
 have Hm2l:=hid hm2l;have HTa:Hid (M.take=(M.setMap m2).setBlk f (List.replicate 64 0)):=hid (by unfold Gd.Vol.take;rw[←hmm,←hf,←hm2]);have HC:=hid hc;have hf0:¬(f:Int)=0:=by omega
 have hf2:((f:Int)==0)=false:=by simp;omega
 have hf3:(f==0)=false:=by simp;omega
 rw[←hf];clear h hmm hZ hf hcn hcl hml hfs htk hm2 hm2l hc;go_enter func151,ntmps151;go_wp2_with fail
 refine HMp.o.mono ?_;rintro e w1 ⟨rfl,hb1⟩;obtain⟨hb2,hn2⟩:=below_new w1 Z 107;obtain⟨w2,hw2⟩:=nm (w1.alloc (.cells Z 107));obtain⟨b,hbe⟩:=nm w1.heap.size;rw[←hw2,←hbe]at hn2;rw[←hw2]at hb2;obtain⟨hb3,hn3⟩:=whole_at hn2 (vs:=(cellsB m).toList) (B:=b) (by rw[HZs.o,Array.length_toList,HS.o]) (Nat.le_refl b);obtain⟨w3,hw3⟩:=nm (w2.setCells b 0 (cellsB m).toList);rw[←hw3]at hb3 hn3;have HN2:=hid hn2;have HN3:Hid (w3.heap[b]? =some (.cells (cellsB m) 107 (0,0))):=hid hn3;have HB3:Hid (Below w.heap.size w w3∧w.heap.size≤b):=hid (by
  have h1:=hb1.size;have h2:=hb2.size;have h3:w1.heap.size≤b:=by omega
  exact⟨(hb1.trans (hb2.mono h1)).trans (hb3.mono (by omega)),by omega⟩)
 have Hbe:=hid hbe.symm;have HW2:=hid hw2.symm;have HW3:=hid hw3.symm;rw[←HZ.o]at HW2;clear hb1 hb2 hn2 hw2 hbe hb3 hn3 hw3 HMp;go_upto_region 2 with(refine wpList_store_mid rfl 107 _ _ rfl b 0 (cellsB m) (by rw[←Hbe.o];rfl) rfl (by rw[HW2.o];exact there_at HN2.o (by rw[HZs.o,HS.o])) (by rw[HS.o];exact sizeMap) (cellsB_one _) ?_;rw[HW2.o,HW3.o])
 rw[Hbe.o];go_wp2_with(refine wpList_load_row rfl 107 _ rfl b rfl 107 (cellsB m) (0,0) _ HN3.o underlying107 rfl (by rw[HS.o];exact sizeMap) ?_)
 refine(HFi.o w3).mono ?_
 rintro e w4 ⟨rfl,hb4⟩;have HN4:=hid ((hb4.block b (lt_get HN3.o)).trans HN3.o);have HB4:=hid (HB3.o.1.trans (hb4.mono HB3.o.1.size));have HL4:=hid (run_loadAt_row HN4.o HS.o);clear hb4 HFi;have HN5:Hid (∀W,Below w4.heap.size w4 W→W.heap[b]? =some (.cells (cellsB m) 107 (0,0))):=hid fun W hW=>(hW.block b (lt_get HN4.o)).trans HN4.o;have HTu:Hid (∀(w5 w6:World),Below w4.heap.size w4 w5→Below w5.heap.size w5 w6→Calls prog 43 #[.pointer (some ⟨x,0,none⟩),.agg (cellsB m2)] w6 fun e w'=>e= .returned (.int .i64 0)∧Turns x t S (M.setMap m2) (c+1) K F w w'):=hid fun w5 w6 h5 h6=>by
  have hb6:Below w.heap.size w w6:=(HB4.o.trans (h5.mono HB4.o.size)).trans (h6.mono (Nat.le_trans HB4.o.size h5.size));refine(setmap_any m2 Hm2l.o w6 (HM.o.below hb6) (by have:=HC.o;omega)).mono ?_
  rintro e w7 ⟨he,ht⟩;exact⟨he,ht.behind hb6⟩
 have HFin:Hid (∀w7,Turns x t S (M.setMap m2) (c+1) K F w w7→∀v,OwnB (w7.alloc (.cells (cellsB (List.replicate 64 0)) 5)) w7.heap.size v (List.replicate 64 0)→Calls prog 41 #[.pointer (some ⟨x,0,none⟩),.int .i64 7,.int .i64 f,v] (w7.alloc (.cells (cellsB (List.replicate 64 0)) 5)) fun e w'=>e= .returned (.int .i64 0)∧Turns x t S M.take (c+2) K F w w'):=hid fun w7 ht7 v hv=>by
  obtain⟨F7,hs7⟩:=ht7;have hba:=(Below.refl w7.heap.size w7).alloc (Nat.le_refl _) (.cells (cellsB (List.replicate 64 0)) 5);refine(store_turns 7 f _ v (List.replicate 64 0) _ (hs7.inv.below hba) (Gd.ptAt_block Hfs.o.1 Hfs.o.2) hv.at_ (by rw[List.length_replicate];exact Nat.le_refl _) (by rw[List.length_replicate];exact Nat.le_refl _) (by have:=HC.o;omega) (fun q hq e=>by
   have h3:=(own_block hv q hq).1;have h4:=hs7.inv.tight q e;omega) (M':=M.take) (fun V hV=>by rw[HTa.o];exact hV.setBlk Hfs.o.1 Hfs.o.2 (by rw[List.length_replicate]))).mono ?_
  rintro e w8 ⟨he,F8,hs8⟩;exact⟨he,F8,hs7.trans (Step.behind hba hs8)⟩
 by_cases hs0:0<spare
 ·have hs1:¬(128:Int)-cn≤spare:=by omega
  have hs3:spare<(128:Int)-cn:=by omega
  clear hsp;go_wp2_with(first|(refine wpList_load_guarded _ _ rfl (by rfl) 107 _ rfl (.pointer (some ⟨b,0,none⟩)) (.agg (cellsB m)) rfl HL4.o ?_)|(refine wpList_load_row rfl 107 _ rfl b rfl 107 (cellsB m) (0,0) _ (HN5.o w5 hb5) underlying107 rfl (by rw[HS.o];exact sizeMap) ?_)|(go_at_call 180;refine(HCo.o w4).mono ?_;rintro e w5 ⟨rfl,hb5⟩))
  refine(HTk.o w5).mono ?_
  rintro e w6 ⟨rfl,hb6⟩;have HSm:=hid (HTu.o w5 w6 hb5 hb6);clear hb5 hb6 HTk HTu HN5;go_wp2_with fail
  refine HSm.o.mono ?_;rintro e w7 ⟨rfl,ht7⟩;have hmk:(Instr.makeSlice 23 (.int .i64 64) (.int .i64 64)).run prog w7= .ok (.slice (some ⟨w7.heap.size,0,none⟩) 64 64) (w7.alloc (.cells (cellsB (List.replicate 64 0)) 5)):=made_bytes 64 (by omega) w7;have HSt:=hid (HFin.o w7 ht7 _ (own_made w7 64 (by omega) w7.heap.size (Nat.le_refl _)));obtain⟨w8,hw8⟩:=nm (w7.alloc (.cells (cellsB (List.replicate 64 0)) 5));rw[←hw8]at hmk HSt;clear ht7 hw8 HSm HFin;go_wp2_with fail
  refine HSt.o.mono ?_;rintro e w9 ⟨rfl,ht9⟩;have HT9:=hid ht9;have HTo:Hid (Calls prog 68 #[.int .i64 f,.int .i64 0] w9 fun e' w'=>e'= .returned (.tuple #[.int .i64 f,.int .i64 0])∧w'=w9):=hid (metold_any f 0 w9);clear ht9 HSt;go_wp2_with fail
  refine HTo.o.mono ?_;rintro e w10 ⟨rfl,rfl⟩;go_wp2;go_ret2
  exact⟨rfl,HT9.o⟩
 ·have hs1:¬(128:Int)-cn≤0:=by omega
  have hs3:(cn:Int)<128:=by omega
  clear hsp;go_wp2_with(first|(refine wpList_load_guarded _ _ rfl (by rfl) 107 _ rfl (.pointer (some ⟨b,0,none⟩)) (.agg (cellsB m)) rfl HL4.o ?_)|(refine wpList_load_row rfl 107 _ rfl b rfl 107 (cellsB m) (0,0) _ (HN5.o w5 hb5) underlying107 rfl (by rw[HS.o];exact sizeMap) ?_)|(go_at_call 180;refine(HCo.o w4).mono ?_;rintro e w5 ⟨rfl,hb5⟩))
  refine(HTk.o w5).mono ?_
  rintro e w6 ⟨rfl,hb6⟩;have HSm:=hid (HTu.o w5 w6 hb5 hb6);clear hb5 hb6 HTk HTu HN5;go_wp2_with fail
  refine HSm.o.mono ?_;rintro e w7 ⟨rfl,ht7⟩;have hmk:(Instr.makeSlice 23 (.int .i64 64) (.int .i64 64)).run prog w7= .ok (.slice (some ⟨w7.heap.size,0,none⟩) 64 64) (w7.alloc (.cells (cellsB (List.replicate 64 0)) 5)):=made_bytes 64 (by omega) w7;have HSt:=hid (HFin.o w7 ht7 _ (own_made w7 64 (by omega) w7.heap.size (Nat.le_refl _)));obtain⟨w8,hw8⟩:=nm (w7.alloc (.cells (cellsB (List.replicate 64 0)) 5));rw[←hw8]at hmk HSt;clear ht7 hw8 HSm HFin;go_wp2_with fail
  refine HSt.o.mono ?_;rintro e w9 ⟨rfl,ht9⟩;have HT9:=hid ht9;have HTo:Hid (Calls prog 68 #[.int .i64 f,.int .i64 0] w9 fun e' w'=>e'= .returned (.tuple #[.int .i64 f,.int .i64 0])∧w'=w9):=hid (metold_any f 0 w9);clear ht9 HSt;go_wp2_with fail
  refine HTo.o.mono ?_;rintro e w10 ⟨rfl,rfl⟩;go_wp2;go_ret2
  exact⟨rfl,HT9.o⟩
end
section
attribute [local go_sem] Oper.semAt_some
namespace Gd
def slot0:Slot:=⟨0,0,0,0,0,0⟩
def rootI:Ino:=⟨2,1,0,[0,0,0,0],[0,0,0,0,0,0,0,0]⟩
def fmtS(k:Nat):List Pa:=(List.range k).flatMap fun c=>[(64+64*c,slotB slot0),(6784+1024*c,List.replicate 8 0)]
def fmtN(k:Nat):List Pa:=(List.range k).map fun i=>(inoAt (i+2),List.replicate 64 0)
def fmtP:List Pa:=[(0,headB 0)]++fmtS 8++[(576,List.replicate 16 0)]++[(inoAt 1,inoB rootI)]++fmtN 31
theorem fmtS_succ(k:Nat):fmtS (k+1)=fmtS k++[(64+64*k,slotB slot0)]++[(6784+1024*k,List.replicate 8 0)]:=by
 unfold fmtS;rw[List.range_succ,List.flatMap_append];simp
theorem fmtN_succ(k:Nat):fmtN (k+1)=fmtN k++[(inoAt (k+2),List.replicate 64 0)]:=by
 unfold fmtN;rw[List.range_succ,List.map_append];simp
theorem ptAt_slot{k:Nat}(h:k<8):ptAt 2 ((k:Int)+1)=some ⟨2,k+1,64+64*k,64⟩:=by
 unfold ptAt partAt;rw[if_neg (by omega),if_pos rfl,if_pos ⟨by omega,by omega⟩];simp
theorem ptAt_clog{k:Nat}(h:k<8):ptAt 6 ((k:Int)+1)=some ⟨6,k+1,6784+1024*k,1024⟩:=by
 unfold ptAt partAt;rw[if_neg (by omega),if_neg (by omega),if_neg (by omega),if_neg (by omega),if_neg (by omega),if_pos rfl,if_pos ⟨by omega,by omega⟩];simp
theorem ptAt_head:ptAt 1 0=some ⟨1,0,0,64⟩:=rfl
theorem slot0_may:slot0.May:=⟨by decide,by decide,by decide,by decide,by decide,by decide⟩
theorem root_may:mayI rootI=true:=by decide
theorem root_shape:rootI.Shape:=⟨rfl,rfl⟩
end Gd
theorem BytesAt.only{w w':World}{v:Value}{L:List UInt8}{G:Nat→Prop}(h:BytesAt w v L)(hO:Only G w w')(hn:∀q,v.ownBlock=some q→¬G q):BytesAt w' v L:=by
 obtain⟨A,c,rfl,hA⟩:=h;refine⟨A,c,rfl,hA.imp id ?_⟩;rintro⟨b,o,rfl,hb,hc⟩;exact⟨b,o,rfl,Nat.lt_of_lt_of_le hb hO.size,fun j x hx=>(hO.cell (p:=⟨b,o+j,none⟩) hb (hn b rfl)).trans (hc j x hx)⟩
theorem fmtfirst_any(eb:Nat)(w:World)(h:CellsAt w eb 31 #[.int .i64 0]):Calls prog 42 #[.int .i64 0,.pointer (some ⟨eb,0,none⟩)] w fun e w'=>e= .returned (.tuple #[])∧Only (fun k=>k=eb) w w'∧CellsAt w' eb 31 #[.int .i64 0]:=by
 have c0:=cell_of_row w eb 0 _ _ _ h;have f0:=frozen_of_row w eb 0 _ _ h;have H:=hid h;clear h;go_enter func42,ntmps42;go_wp2;go_end0
 exact⟨rfl,only_setCell w _ _ rfl,Go.heap_setCell_same _ _ 0 _ _ _ H.o⟩
def FmtI[MemNo](x t:Nat)(S:List UInt8)(P:List Gd.Pa)(c K:Nat)(F:Nat→Prop)(w0:World)(eb:Nat)(v5:Value)(wr:World):Prop:=
 ∃F',Step (MetaF x t S P c K) F w0 F' wr∧¬F' eb∧CellsAt wr eb 31 #[.int .i64 0]∧BytesAt wr v5 (Gd.slotB Gd.slot0)∧∀q,v5.ownBlock=some q→¬F' q∧q≠eb
theorem FmtI.below[MemNo]{x t c K eb:Nat}{S:List UInt8}{P:List Gd.Pa}{F:Nat→Prop}{w0 w w':World}{v5:Value}(h:FmtI x t S P c K F w0 eb v5 w)(hb:Below w.heap.size w w'):FmtI x t S P c K F w0 eb v5 w':=by
 obtain⟨F',h1,h2,h3,h4,h5⟩:=h;exact⟨F',h1.ahead hb,h2,(hb.block eb h3.lt).trans h3,h4.keep hb,h5⟩
theorem FmtI.first[MemNo]{x t c K eb:Nat}{S:List UInt8}{P:List Gd.Pa}{F:Nat→Prop}{w0 w w':World}{v5:Value}(h:FmtI x t S P c K F w0 eb v5 w)(h0:w0.heap.size≤eb)(hO:Only (fun k=>k=eb) w w')(hC:CellsAt w' eb 31 #[.int .i64 0]):FmtI x t S P c K F w0 eb v5 w':=by
 obtain⟨F',h1,h2,h3,h4,h5⟩:=h;refine⟨F',⟨h1.inv.keep hO.size fun k hk hF=>hO.block k hk fun e=>h2 (e▸hF),h1.old,h1.only.trans hO fun j hj e=> ?_⟩,h2,hC,h4.only hO fun q hq e=>(h5 q hq).2 e,h5⟩;omega
theorem fmt_store[MemNo]{x t c K eb:Nat}{S:List UInt8}{P:List Gd.Pa}{F:Nat→Prop}{w0 w1:World}{v5:Value}(k m:Int)(p:Gd.Pt)(v:Value)(L:List UInt8)(w:World)(h:FmtI x t S P c K F w0 eb v5 w1)(hb:Below w1.heap.size w1 w)(hp:Gd.ptAt k m=some p)(hv:BytesAt w v L)(hL:L.length≤64)(hLp:L.length≤p.s)(hc:c<64)(hap:∀q,v.ownBlock=some q→w1.heap.size≤q∨v5.ownBlock=some q):
 Calls prog 41 #[.pointer (some ⟨x,0,none⟩),.int .i64 k,.int .i64 m,v] w fun e w'=>e= .returned (.int .i64 0)∧FmtI x t S (P++[(p.a,L)]) (c+1) K F w0 eb v5 w':=by
 obtain⟨F',h1,h2,h3,h4,h5⟩:=h;have hap2:∀q,v.ownBlock=some q→¬F' q:=fun q hq e=>by
  rcases hap q hq with e2|e2
  ·have:=h1.inv.tight q e
   omega
  ·exact(h5 q e2).1 e
 refine(store_some k m p v L w (h1.inv.below hb) hp hv hL hLp hc hap2).mono ?_
 rintro e w' ⟨he,F2,hs⟩;have hH:FmtI x t S P c K F w0 eb v5 w:=(show FmtI x t S P c K F w0 eb v5 w1 from⟨F',h1,h2,h3,h4,h5⟩).below hb;have hs2:=Step.behind hb hs;have hlt:∀q,v5.ownBlock=some q→q<w1.heap.size:=fun q hq=>by
  obtain⟨A,c,rfl,hA⟩:=h4;rcases hA with⟨rfl,_⟩|⟨b,o,rfl,hb,_⟩
  ·cases hq
  ·cases hq
   exact hb
 exact⟨he,F2,h1.trans hs2,(hs2.own h3.lt h2).2,(hs2.own h3.lt h2).1.trans h3,h4.only hs2.only fun q hq=>(h5 q hq).1,fun q hq=>⟨(hs2.own (hlt q hq) (h5 q hq).1).2,(h5 q hq).2⟩⟩
theorem fmt_map[MemNo]{x t c K eb:Nat}{S:List UInt8}{P:List Gd.Pa}{F:Nat→Prop}{w0:World}{v5:Value}(m:List UInt8)(hm:m.length=16)(w:World)(h:FmtI x t S P c K F w0 eb v5 w)(hc:c<64):
 Calls prog 43 #[.pointer (some ⟨x,0,none⟩),mapV m] w fun e w'=>e= .returned (.int .i64 0)∧FmtI x t S (P++[(576,m)]) (c+1) K F w0 eb v5 w':=by
 have h0:=h;obtain⟨F',h1,h2,h3,h4,h5⟩:=h;refine(setmap_f m hm w h1.inv hc).mono ?_
 rintro e w' ⟨he,F2,hs⟩;have hlt:∀q,v5.ownBlock=some q→q<w.heap.size:=fun q hq=>by
  obtain⟨A,c,rfl,hA⟩:=h4;rcases hA with⟨rfl,_⟩|⟨b,o,rfl,hb,_⟩
  ·cases hq
  ·cases hq
   exact hb
 exact⟨he,F2,h1.trans hs,(hs.own h3.lt h2).2,(hs.own h3.lt h2).1.trans h3,h4.only hs.only fun q hq=>(h5 q hq).1,fun q hq=>⟨(hs.own (hlt q hq) (h5 q hq).1).2,(h5 q hq).2⟩⟩
theorem fmt_ino[MemNo]{x t c K eb:Nat}{S:List UInt8}{P:List Gd.Pa}{F:Nat→Prop}{w0:World}{v5:Value}(i:Int)(y:Gd.Ino)(hy:y.Shape)(hm:Gd.mayI y=true)(w:World)(h:FmtI x t S P c K F w0 eb v5 w)(i1:1≤i)(i2:i≤32)(hc:c<64):
 Calls prog 44 #[.pointer (some ⟨x,0,none⟩),.int .i64 i,inoV y] w fun e w'=>e= .returned (.int .i64 0)∧FmtI x t S (P++[(Gd.inoAt i.toNat,Gd.inoB y)]) (c+1) K F w0 eb v5 w':=by
 obtain⟨F',h1,h2,h3,h4,h5⟩:=h;refine(setino_f i y hy hm w h1.inv i1 i2 hc).mono ?_
 rintro e w' ⟨he,F2,hs⟩;have hlt:∀q,v5.ownBlock=some q→q<w.heap.size:=fun q hq=>by
  obtain⟨A,c,rfl,hA⟩:=h4;rcases hA with⟨rfl,_⟩|⟨b,o,rfl,hb,_⟩
  ·cases hq
  ·cases hq
   exact hb
 exact⟨he,F2,h1.trans hs,(hs.own h3.lt h2).2,(hs.own h3.lt h2).1.trans h3,h4.only hs.only fun q hq=>(h5 q hq).1,fun q hq=>⟨(hs.own (hlt q hq) (h5 q hq).1).2,(h5 q hq).2⟩⟩
theorem format_any[MemNo]{x t c K:Nat}{S:List UInt8}{P:List Gd.Pa}{F:Nat→Prop}(w:World)(h:MetaF x t S P c K w F)(hc:c+50≤64):
 Calls prog 16 #[.pointer (some ⟨x,0,none⟩)] w fun e w'=>e= .returned (.int .i64 0)∧∃F',Step (MetaF x t S (P++Gd.fmtP) (c+50) K) F w F' w':=by
 have H:=hid h;have HC:=hid hc;have HHd:Hid (Calls prog 39 #[.int .i64 0] w (Loads w (Gd.headB 0))):=hid (puthead_any 0 (by omega) w);have HSl:Hid (∀W,Calls prog 40 #[.agg #[.int .i64 0,.int .i64 0,.int .i64 0,.int .i64 0,.int .i64 0,.int .i64 0]] W (Loads W (Gd.slotB Gd.slot0))):=hid fun W=>putslot_any Gd.slot0 Gd.slot0_may W;clear h hc;go_enter func16,ntmps16;go_wp2_with fail
 refine HHd.o.mono ?_;rintro e w1 ⟨v3,rfl,ho3,hb1⟩;clear HHd;have HO3:=hid ho3;have HB1:=hid hb1;clear ho3 hb1;go_wp2_with fail
 refine(HSl.o w1).mono ?_
 rintro e w2 ⟨v5,rfl,ho5,hb2⟩;have HB2:=HB1.t hb2;have HSt:=hid (store_some 1 0 _ v3 (Gd.headB 0) w2 (H.o.below HB2.o) Gd.ptAt_head (HO3.o.keep hb2).at_ (by rw[Gd.headB_length];exact Nat.le_refl _) (by rw[Gd.headB_length];exact Nat.le_refl _) (by have:=HC.o;omega) (fun q hq e=>by
  have h3:=(own_block HO3.o q hq).1;have h4:=H.o.tight q e;omega))
 have HO5:=hid ho5;have HQ5:Hid (∀q,v5.ownBlock=some q→w.heap.size≤q∧q<w2.heap.size):=hid fun q hq=>by
  have h3:=own_block ho5 q hq;have h4:=HB1.o.size;omega
 clear ho5 hb2 HSl HO3;go_wp2_with fail
 refine HSt.o.mono ?_;rintro e w3 ⟨rfl,F3,hs3⟩;obtain⟨w4,hw4⟩:=nm (w3.alloc (.cells #[.int .i64 0] 31));obtain⟨eb,heb⟩:=nm w3.heap.size;have hb4:Below w3.heap.size w3 w4:=by rw[hw4];exact(Below.refl _ _).alloc (Nat.le_refl _) _
 have hc4:CellsAt w4 eb 31 #[.int .i64 0]:=by rw[hw4,heb];exact heap_alloc_new _ _
 have HI4:Hid (FmtI x t S (P++[(0,Gd.headB 0)]++Gd.fmtS 0) (c+1+2*0) K F w eb v5 w4):=hid (by
  have hs4:=(Step.behind HB2.o hs3).ahead hb4;rw[show Gd.fmtS 0=[] from rfl,List.append_nil];refine⟨F3,hs4,fun e=> ?_,hc4,?_,fun q hq=>⟨fun e=> ?_,?_⟩⟩
  ·have:=hs3.inv.tight eb e
   omega
  ·exact((HO5.o.at_).only hs3.only fun q hq e=>by have h1:=H.o.tight q e;have h2:=HQ5.o q hq;omega).keep hb4
  ·have h1:=hs3.old q (HQ5.o q hq).2 e;have h2:=H.o.tight q h1;have h3:=HQ5.o q hq;omega
  ·have h3:=(HQ5.o q hq).2;have h4:=hs3.only.size;omega)
 have HEb:Hid (w.heap.size≤eb):=hid (by have h1:=HB2.o.size;have h2:=hs3.only.size;omega);have Hw4:=hid hw4.symm;have Heb:=hid heb.symm;have HC4:=hid hc4;clear hs3 hw4 heb hb4 hc4 HSt;have HQ:=hid (And.intro HO5.o HQ5.o);go_upto_region 6 with fail
 rw[Hw4.o,Heb.o];go_loopw[24] (fun z wr=>∃k:Nat,z= .int .i64 k∧k≤8∧Hid (FmtI x t S (P++[(0,Gd.headB 0)]++Gd.fmtS k) (c+1+2*k) K F w eb v5 wr)) (fun z _=>8-(intOf z).toNat)
 case atStart=>exact⟨0,rfl,by omega,HI4⟩
 case round=>
  obtain⟨k,rfl,hk,HI⟩:=hrel;by_cases hlt:k<8
  ·have h1:(k:Int)<8:=by omega
   have hP5:BytesAt wr v5 (Gd.slotB Gd.slot0):=by
    obtain⟨_,_,_,_,h4,_⟩:=HI.o;exact h4
   have HSt:=hid (fmt_store 2 ((k:Int)+1) _ v5 (Gd.slotB Gd.slot0) wr HI.o (Below.refl _ _) (Gd.ptAt_slot hlt) hP5 (by rw[Gd.slotB_length];exact Nat.le_refl _) (by rw[Gd.slotB_length];exact Nat.le_refl _) (by have:=HC.o;omega) (fun q hq=>Or.inr hq));dsimp only at HSt;have Hlt:=hid hlt;clear hP5 hlt;go_wp2_with fail
   refine HSt.o.mono ?_;rintro e w5 ⟨rfl,hI5⟩;have HI5:=hid hI5;clear hI5 HSt;go_wp2_with fail
   refine(fmtfirst_any eb w5 (by obtain⟨_,_,_,h3,_⟩:=HI5.o;exact h3)).mono ?_
   rintro e w6 ⟨rfl,hO6,hC6⟩;have HI6:=hid (HI5.o.first HEb.o hO6 hC6);clear hO6 hC6;have hmk:(Instr.makeSlice 23 (.int .i64 8) (.int .i64 8)).run prog w6= .ok (.slice (some ⟨w6.heap.size,0,none⟩) 8 8) (w6.alloc (.cells (cellsB (List.replicate 8 0)) 5)):=made_bytes 8 (by omega) w6;have hom:=own_made w6 8 (by omega) w6.heap.size (Nat.le_refl _);have hba:=(Below.refl w6.heap.size w6).alloc (Nat.le_refl _) (.cells (cellsB (List.replicate 8 0)) 5);obtain⟨w7,hw7⟩:=nm (w6.alloc (.cells (cellsB (List.replicate 8 0)) 5));rw[←hw7]at hmk hom hba;have HSt:=hid (fmt_store 6 ((k:Int)+1) _ _ (List.replicate 8 0) w7 HI6.o hba (Gd.ptAt_clog Hlt.o) hom.at_ (by simp) (by rw[List.length_replicate];show 8≤1024;omega) (by have:=HC.o;have:=Hlt.o;omega) (fun q hq=>Or.inl (own_block hom q hq).1));dsimp only at HSt;clear hom hba hw7;go_wp2_with fail
   refine HSt.o.mono ?_;rintro e w8 ⟨rfl,hI8⟩;have HI8:=hid hI8;clear hI8 HSt hmk;go_wp2_with fail
   refine(fmtfirst_any eb w8 (by obtain⟨_,_,_,h3,_⟩:=HI8.o;exact h3)).mono ?_
   rintro e w9 ⟨rfl,hO9,hC9⟩;have HI9:=hid (HI8.o.first HEb.o hO9 hC9);clear hO9 hC9;have HI10:Hid (FmtI x t S (P++[(0,Gd.headB 0)]++Gd.fmtS (k+1)) (c+1+2*(k+1)) K F w eb v5 w9):=hid (by
    have:=HI9.o
    rw[Gd.fmtS_succ,←List.append_assoc,←List.append_assoc,show c+1+2*(k+1)=c+1+2*k+1+1 by omega];exact this)
   go_wp2;go_roundw
   case rel=>exact⟨k+1,by go_num,by have:=Hlt.o;omega,HI10⟩
   case measure=>simp[intOf];have:=Hlt.o;omega
  ·obtain rfl:k=8:=by omega
   clear hlt;have HSm:Hid (Calls prog 43 #[.pointer (some ⟨x,0,none⟩),.agg #[.int .u8 0,.int .u8 0,.int .u8 0,.int .u8 0,.int .u8 0,.int .u8 0,.int .u8 0,.int .u8 0,.int .u8 0,.int .u8 0,.int .u8 0,.int .u8 0,.int .u8 0,.int .u8 0,.int .u8 0,.int .u8 0]] wr fun e w'=>e= .returned (.int .i64 0)∧FmtI x t S (P++[(0,Gd.headB 0)]++Gd.fmtS 8++[(576,List.replicate 16 0)]) (c+1+2*8+1) K F w eb v5 w'):=hid (fmt_map (List.replicate 16 0) rfl wr HI.o (by have:=HC.o;omega));go_wp2_with fail
   refine HSm.o.mono ?_;rintro e w5 ⟨rfl,hI5⟩;have HI5:=hid hI5;clear hI5 HSm HI;go_wp2_with fail
   refine(fmtfirst_any eb w5 (by obtain⟨_,_,_,h3,_⟩:=HI5.o;exact h3)).mono ?_
   rintro e w6 ⟨rfl,hO6,hC6⟩;have HI6:=hid (HI5.o.first HEb.o hO6 hC6);clear hO6 hC6;have HSi:Hid (Calls prog 44 #[.pointer (some ⟨x,0,none⟩),.int .i64 1,.agg #[.int .i64 2,.int .i64 1,.int .i64 0,.int .i64 0,.int .i64 0,.int .i64 0,.int .i64 0,.int .i64 0,.int .i64 0,.int .i64 0,.int .i64 0,.int .i64 0,.int .i64 0,.int .i64 0,.int .i64 0]] w6 fun e w'=>e= .returned (.int .i64 0)∧FmtI x t S (P++[(0,Gd.headB 0)]++Gd.fmtS 8++[(576,List.replicate 16 0)]++[(Gd.inoAt 1,Gd.inoB Gd.rootI)]) (c+1+2*8+1+1) K F w eb v5 w'):=hid (fmt_ino 1 Gd.rootI Gd.root_shape Gd.root_may w6 HI6.o (by omega) (by omega) (by have:=HC.o;omega));go_wp2_with fail
   refine HSi.o.mono ?_;rintro e w7 ⟨rfl,hI7⟩;have HI7:=hid hI7;clear hI7 HSi HI5 HI6;go_wp2_with fail
   refine(fmtfirst_any eb w7 (by obtain⟨_,_,_,h3,_⟩:=HI7.o;exact h3)).mono ?_
   rintro e w8 ⟨rfl,hO8,hC8⟩;have HI8:=hid (HI7.o.first HEb.o hO8 hC8);clear hO8 hC8;have HI9:Hid (FmtI x t S (P++[(0,Gd.headB 0)]++Gd.fmtS 8++[(576,List.replicate 16 0)]++[(Gd.inoAt 1,Gd.inoB Gd.rootI)]++Gd.fmtN 0) (c+19+0) K F w eb v5 w8):=hid (by
    have:=HI8.o
    rw[show Gd.fmtN 0=[] from rfl,List.append_nil];exact this)
   clear HI7 HI8;go_upto_region 14 with fail
   go_loopw[10] (fun z wr=>∃k:Nat,z= .int .i64 (k+1:Nat)∧k≤31∧Hid (FmtI x t S (P++[(0,Gd.headB 0)]++Gd.fmtS 8++[(576,List.replicate 16 0)]++[(Gd.inoAt 1,Gd.inoB Gd.rootI)]++Gd.fmtN k) (c+19+k) K F w eb v5 wr)) (fun z _=>32-(intOf z).toNat)
   case atStart=>exact⟨0,rfl,by omega,HI9⟩
   case round=>
    obtain⟨k,rfl,hk,HI⟩:=hrel;by_cases hlt:k<31
    ·have h1:((k+1:Nat):Int)<32:=by omega
     have h2:(k:Int)+1<32:=by omega
     have HSi:Hid (Calls prog 44 #[.pointer (some ⟨x,0,none⟩),.int .i64 ((k:Int)+1+1),.agg #[.int .i64 0,.int .i64 0,.int .i64 0,.int .i64 0,.int .i64 0,.int .i64 0,.int .i64 0,.int .i64 0,.int .i64 0,.int .i64 0,.int .i64 0,.int .i64 0,.int .i64 0,.int .i64 0,.int .i64 0]] wr fun e w'=>e= .returned (.int .i64 0)∧FmtI x t S (P++[(0,Gd.headB 0)]++Gd.fmtS 8++[(576,List.replicate 16 0)]++[(Gd.inoAt 1,Gd.inoB Gd.rootI)]++Gd.fmtN (k+1)) (c+19+(k+1)) K F w eb v5 w'):=hid (by
      have:=fmt_ino ((k:Int)+1+1) Gd.noIno noIno_shape (by decide) wr HI.o (by omega) (by omega) (by have:=HC.o;omega)
      rw[Gd.fmtN_succ,←List.append_assoc];rw[show((k:Int)+1+1).toNat=k+2 by omega]at this;exact this)
     have Hlt:=hid hlt;clear hlt;go_wp2_with fail
     refine HSi.o.mono ?_;rintro e w5 ⟨rfl,hI5⟩;have HI5:=hid hI5;clear hI5 HSi;go_wp2_with fail
     refine(fmtfirst_any eb w5 (by obtain⟨_,_,_,h3,_⟩:=HI5.o;exact h3)).mono ?_
     rintro e w6 ⟨rfl,hO6,hC6⟩;have HI6:=hid (HI5.o.first HEb.o hO6 hC6);clear hO6 hC6;go_wp2;go_roundw
     case rel=>exact⟨k+1,by go_num,by have:=Hlt.o;omega,HI6⟩
     case measure=>simp[intOf];have:=Hlt.o;omega
    ·obtain rfl:k=31:=by omega
     have hce:=(show CellsAt wr eb 31 #[.int .i64 0] by obtain⟨_,_,_,h3,_⟩:=HI.o;exact h3);have c0:=cell_of_row wr eb 0 _ _ _ hce;clear hlt hce;go_wp2;go_ret
     obtain⟨F',h1,_⟩:=HI.o;refine⟨rfl,F',h1.mono fun h'=> ?_⟩;have e:P++Gd.fmtP=P++[(0,Gd.headB 0)]++Gd.fmtS 8++[(576,List.replicate 16 0)]++[(Gd.inoAt 1,Gd.inoB Gd.rootI)]++Gd.fmtN 31:=by
      unfold Gd.fmtP;simp only[List.append_assoc]
     rw[e];exact h'
end
namespace Np
def okc(c:UInt8):Bool:=(decide (97≤c.toNat)&&decide (c.toNat≤122))||(decide (48≤c.toNat)&&decide (c.toNat≤57))||c==46||c==95||c==45
def nameB(l:List UInt8):Bool:=l.all okc&& !l.isEmpty&&decide (l.length≤12)&& !(l==[46])&& !(l==[46,46])
def splitS:List UInt8→List (List UInt8)
 |[]=>[[]]
 |c::r=>if c=47 then[]::splitS r else
  match splitS r with
  |p::ps=>(c::p)::ps
  |[]=>[[c]]
def headS:List UInt8→List UInt8
 |[]=>[]
 |c::r=>if c=47 then[]else c::headS r
def tailS:List UInt8→List (List UInt8)
 |[]=>[]
 |c::r=>if c=47 then splitS r else tailS r
theorem splitS_eq:∀l,splitS l=headS l::tailS l
 |[]=>rfl
 |c::r=>by
  unfold splitS headS tailS;by_cases h:c=47
  ·simp[h]
  ·simp only[h,if_false];rw[splitS_eq r]
def pathL:List UInt8→Option (List (List UInt8))
 |[]=>none
 |c::r=>if c=47 then(if r=[]then some []else if decide ((splitS r).length≤6)&&(splitS r).all nameB then some (splitS r)else none)else none
def joinS:List (List UInt8)→List UInt8
 |[]=>[]
 |[x]=>x
 |x::y::r=>x++47::joinS (y::r)
def joinP(L:List (List UInt8)):List UInt8:=47::joinS L
theorem name_ne{l:List UInt8}(h:nameB l=true):l≠[]:=by
 intro e;subst e;simp[nameB]at h
theorem joinS_splitS:∀(l:List UInt8),joinS (splitS l)=l
 |[]=>rfl
 |c::r=>by
  have ih:=joinS_splitS r;unfold splitS;by_cases h:c=47
  ·rw[if_pos h];rw[splitS_eq r]at ih⊢;unfold joinS;rw[ih,h];rfl
  ·rw[if_neg h];rw[splitS_eq r]at ih⊢;simp only
   cases ht:tailS r with
   |nil=>rw[ht]at ih;simp only[joinS]at ih⊢;rw[ih]
   |cons y ys=>
    rw[ht]at ih;have e:joinS ((c::headS r)::y::ys)=c::joinS (headS r::y::ys):=rfl;rw[e,ih]
theorem pathL_some{l:List UInt8}{L:List (List UInt8)}(h:pathL l=some L):(decide (L.length≤6)&&L.all nameB)=true∧joinP L=l:=by
 unfold pathL at h;split at h
 ·cases h
 ·rename_i c r
  by_cases hc:c=47
  ·rw[if_pos hc]at h;by_cases hr:r=[]
   ·rw[if_pos hr]at h
    cases h
    exact⟨rfl,by subst hc hr;rfl⟩
   ·rw[if_neg hr]at h;split at h
    ·rename_i hcond
     cases h
     exact⟨hcond,by rw[joinP,joinS_splitS,hc]⟩
    ·cases h
  ·rw[if_neg hc]at h;cases h
def go:List (List UInt8)→List UInt8→List UInt8→Option (List (List UInt8))
 |out,cur,[]=>if nameB cur&&decide (out.length≠6)then some (out++[cur])else none
 |out,cur,c::r=>if c=47 then(if nameB cur&&decide (out.length≠6)then go (out++[cur]) [] r else none)else go out (cur++[c]) r
theorem go_eq:∀(r:List UInt8) (out:List (List UInt8)) (cur:List UInt8),out.length≤6→
 go out cur r=if(decide (out.length+1+(tailS r).length≤6)&&((cur++headS r)::tailS r).all nameB)=true then some (out++(cur++headS r)::tailS r)else none
 |[],out,cur,h6=>by
  simp only[go,headS,tailS,List.append_nil,List.length_nil,Nat.add_zero,List.all_cons,List.all_nil,Bool.and_true];by_cases h1:nameB cur=true<;>by_cases h2:out.length=6
  ·simp[h1,h2]
  ·have:out.length+1≤6:=by omega
   simp[h1,h2,this]
  ·simp[h1]
  ·simp[h1]
 |c::r,out,cur,h6=>by
  unfold go headS tailS;by_cases hc:c=47
  ·simp only[hc,if_true,List.append_nil];by_cases h1:nameB cur=true
   ·by_cases h2:out.length=6
    ·have h3:¬(out.length+1+(splitS r).length≤6):=by omega
     simp[h1,h2];intro h;omega
    ·rw[if_pos (by simp[h1,h2]),go_eq r (out++[cur]) [] (by simp;omega),splitS_eq r];simp only[List.length_append,List.length_cons,List.length_nil,List.nil_append,List.all_cons,h1,Bool.true_and,List.append_assoc,List.singleton_append];have e:(out.length+(0+1)+1+(tailS r).length≤6)=(out.length+1+((tailS r).length+1)≤6):=by
      apply propext;omega
     simp only[e]
   ·simp[h1]
  ·simp only[hc,if_false];rw[go_eq r out (cur++[c]) h6];simp only[List.append_assoc,List.singleton_append]
theorem pathL_go(r:List UInt8)(h:r≠[]):pathL (47::r)=go [] [] r:=by
 rw[go_eq r [] [] (by simp)];rw[pathL,if_pos rfl,if_neg h,splitS_eq r];simp only[List.length_nil,List.nil_append,List.length_cons];have e:((tailS r).length+1≤6)=(0+1+(tailS r).length≤6):=by apply propext;omega
 simp only[e]
def hashStep(h:Nat)(c:UInt8):Nat:=((h^^^c.toNat)*16777619) % 4294967296
def basis:Nat:=2166136261
theorem basis_lt:basis<4294967296:=by unfold basis;omega
def hashN(l:List UInt8):Nat:=l.foldl hashStep basis
theorem hashStep_lt(h:Nat)(c:UInt8):hashStep h c<4294967296:=by
 unfold hashStep;exact Nat.mod_lt _ (by decide)
theorem foldl_lt:∀(l:List UInt8) (h:Nat),h<4294967296→l.foldl hashStep h<4294967296
 |[],_,hh=>hh
 |c::r,h,_=>foldl_lt r _ (hashStep_lt h c)
theorem hashN_lt(l:List UInt8):hashN l<4294967296:=by
 unfold hashN;exact foldl_lt l _ basis_lt
theorem hashN_snoc(l:List UInt8)(c:UInt8):hashN (l++[c])=hashStep (hashN l) c:=by
 unfold hashN;rw[List.foldl_append,List.foldl_cons,List.foldl_nil]
end Np
def okr(r:Nat):Bool:=(decide (97≤r)&&decide (r≤122))||(decide (48≤r)&&decide (r≤57))||r==46||r==95||r==45
theorem okr_lt{r:Nat}(h:okr r=true):r<128:=by
 unfold okr at h;simp only[Bool.or_eq_true,Bool.and_eq_true,decide_eq_true_eq,beq_iff_eq]at h;omega
theorem okc_okr(c:UInt8):Np.okc c=okr c.toNat:=by
 have h46:(c==46)=(c.toNat==46):=by rw[Bool.eq_iff_iff];simp[←UInt8.toNat_inj]
 have h95:(c==95)=(c.toNat==95):=by rw[Bool.eq_iff_iff];simp[←UInt8.toNat_inj]
 have h45:(c==45)=(c.toNat==45):=by rw[Bool.eq_iff_iff];simp[←UInt8.toNat_inj]
 unfold Np.okc okr;rw[h46,h95,h45]
theorem take_snoc(s:ByteArray)(k:Nat)(h:k<s.size):s.data.toList.take (k+1)=s.data.toList.take k++[s[k]]:=by
 rw[List.take_succ_eq_append_getElem (by simpa using h)];rfl
theorem all_next{s:ByteArray}{pos:Nat}(h:(s.data.toList.take pos).all Np.okc=true)(hp:pos<s.size)(hr:okr (Utf8.decode s pos).1=true):
 (Utf8.decode s pos).2=1∧(s.data.toList.take (pos+1)).all Np.okc=true:=by
 have ha:(s[pos]'hp).toNat<128:=by
  rcases Nat.lt_or_ge (s[pos]'hp).toNat 128 with h1|h1
  ·exact h1
  ·have:=(decode_high s pos hp h1).1
   have:=okr_lt hr
   omega
 rw[decode_ascii s pos hp ha]at hr⊢;refine⟨rfl,?_⟩;rw[take_snoc s pos hp,List.all_append,h,Bool.true_and,List.all_cons,List.all_nil,Bool.and_true,okc_okr];exact hr
theorem all_stop{s:ByteArray}{pos:Nat}(hp:pos<s.size)(hr:okr (Utf8.decode s pos).1=false):Np.nameB s.data.toList=false:=by
 have hn:Np.okc (s[pos]'hp)=false:=by
  rw[okc_okr];rcases Nat.lt_or_ge (s[pos]'hp).toNat 128 with h1|h1
  ·rw[decode_ascii s pos hp h1]at hr;exact hr
  ·cases h:okr (s[pos]'hp).toNat with
   |false=>rfl
   |true=>have:=okr_lt h;omega
 have hm:(s[pos]'hp)∈s.data.toList:=by simp[ByteArray.getElem_eq_getElem_data]
 have:s.data.toList.all Np.okc=false:=by
  rw[List.all_eq_false];exact⟨_,hm,by rw[hn];simp⟩
 unfold Np.nameB;rw[this];rfl
theorem all_end{s:ByteArray}{pos:Nat}(h:(s.data.toList.take pos).all Np.okc=true)(hp:¬pos<s.size):
 Np.nameB s.data.toList=(!s.data.toList.isEmpty&&decide (s.data.toList.length≤12)&& !(s.data.toList==[46])&& !(s.data.toList==[46,46])):=by
 rw[List.take_of_length_le (by rw[←Lib.size_eq];omega)]at h;unfold Np.nameB;rw[h,Bool.true_and]
theorem may_any(s:ByteArray)(w:World)(hs:s.size≤9223372036854775807):
 Calls prog 145 #[.string s] w fun e w'=>e= .returned (.bool (Np.nameB s.data.toList))∧Below w.heap.size w w':=by
 go_enter func145,ntmps145;go_wp2;go_loopw[] (fun wr=>∃pos:Nat,wr.heap[w.heap.size]? =some (.stringIter s pos)∧Below w.heap.size w wr∧Hid ((s.data.toList.take pos).all Np.okc=true)) (fun wr=>s.size-wr.iterPos w.heap.size)
 case atStart=>
  refine⟨0,?_,(Below.refl _ w).alloc (Nat.le_refl _) _,by show(s.data.toList.take 0).all Np.okc=true;simp⟩;have:=World.iter_heap w s 0
  simpa using this
 case round=>
  obtain⟨pos,hit,hbw,hok⟩:=hrel;by_cases hp:pos<s.size
  ·have hnx:∀ty,(Instr.next (.pointer (some ⟨w.heap.size,0,none⟩)) true ty).run prog wr=_:=fun ty=>Lib.run_next_any_at wr w.heap.size s pos ty hit hp;have hbw2:=Lib.below_iterAt hbw (k:=w.heap.size) (by omega) s (pos+(Utf8.decode s pos).2);have hit2:=Lib.iterAt_heap wr w.heap.size s pos (pos+(Utf8.decode s pos).2) hit;obtain⟨r,hr⟩:=nm ((Utf8.decode s pos).1);have Hr:=hid hr;rw[←hr]at hnx;clear hr;go_wp2;all_goals first
    |(have hk:okr r=true:=by
       (simp only[okr,Bool.or_eq_true,Bool.and_eq_true,decide_eq_true_eq,beq_iff_eq]
        try simp only[Bool.not_eq_eq_eq_not,Bool.not_true,Bool.not_false,decide_eq_true_eq,decide_eq_false_iff_not,bne_iff_ne,bne_eq_false_iff_eq,ne_eq]at*
        omega)
      rw[Hr.o]at hk;obtain⟨h1,h2⟩:=all_next hok.o hp hk;go_roundw
      case rel=>exact⟨_,hit2,hbw2,by rw[h1];exact h2⟩
      case measure=>
       rw[World.iterPos,World.iterPos,hit2,hit];show s.size-(pos+(Utf8.decode s pos).2)<s.size-pos
       omega)
    |(have hk:okr r=false:=by
       (rw[Bool.eq_false_iff]
        simp only[okr,ne_eq,Bool.or_eq_true,Bool.and_eq_true,decide_eq_true_eq,beq_iff_eq];try simp only[Bool.not_eq_eq_eq_not,Bool.not_true,Bool.not_false,decide_eq_true_eq,decide_eq_false_iff_not,bne_iff_ne,bne_eq_false_iff_eq,ne_eq]at*
        omega)
      rw[Hr.o]at hk;go_ret
      exact⟨ret_bool (all_stop hp hk).symm,hbw2⟩)
  ·have hnx:∀ty,(Instr.next (.pointer (some ⟨w.heap.size,0,none⟩)) true ty).run prog wr=_:=fun ty=>Lib.run_next_end_at wr w.heap.size s pos ty hit hp;have hend:=all_end hok.o hp;rw[←Lib.toList_data,show s.toList.length=s.size by rw[Lib.toList_data,←Lib.size_eq]]at hend;have Hend:=hid hend;clear hend;go_wp2;all_goals
    go_ret
    refine⟨ret_bool ?_,hbw⟩;rw[←Lib.toList_data,Hend.o];generalize s.toList=l at*;first
     |(have h:l=[]:=by assumption
       rw[h];rfl)
     |(have h:l=[46]:=by assumption
       rw[h];simp;done)
     |(have h:(s.size:Int)≤12:=by assumption
       rw[decide_eq_true (by omega:s.size≤12)];simp;done)
     |(rw[decide_eq_false (by omega:¬s.size≤12)];simp;done)
theorem nameB_no(l:List UInt8)(h:l.isEmpty=true∨12<l.length∨l=[46]∨l=[46,46]):Np.nameB l=false:=by
 unfold Np.nameB;rcases h with h|h|h|h
 ·rw[h];simp
 ·rw[decide_eq_false (by omega:¬l.length≤12)];simp
 ·rw[h];simp
 ·rw[h];simp
theorem nameB_yes(l:List UInt8)(h1:l.isEmpty=false)(h2:l.length≤12)(h3:l≠[46])(h4:l≠[46,46]):Np.nameB l=l.all Np.okc:=by
 unfold Np.nameB;rw[h1,decide_eq_true h2,beq_eq_false_iff_ne.2 h3,beq_eq_false_iff_ne.2 h4];simp
theorem okc_num{s:ByteArray}{k:Nat}(hp:k<s.size){b:Bool}(h:okr (s[k]'hp).toNat=b):(s.data.toList.take (k+1)).all Np.okc=((s.data.toList.take k).all Np.okc&&b):=by
 rw[take_snoc s k hp,List.all_append,List.all_cons,List.all_nil,Bool.and_true,okc_okr,h]
theorem all_take_false{l:List UInt8}{k:Nat}(h:(l.take k).all Np.okc=false):l.all Np.okc=false:=by
 rw[List.all_eq_false]at h⊢;obtain⟨x,hx,h2⟩:=h;exact⟨x,List.mem_of_mem_take hx,h2⟩
def Strs(w:World)(B:Nat)(A:Option Addr)(L:List (List UInt8)):Prop:=
 L=[]∨∃b o,A=some ⟨b,o,none⟩∧B≤b∧b<w.heap.size∧(∀j x,L[j]? =some x→w.cell? ⟨b,o+j,none⟩=some (.string ⟨x.toArray⟩))∧∀j,w.frozen? ⟨b,j,none⟩=false
theorem Strs.keep{w w':World}{B:Nat}{A:Option Addr}{L:List (List UInt8)}(h:Strs w B A L)(hb:Below w.heap.size w w'):Strs w' B A L:=by
 rcases h with h|⟨b,o,h1,h2,h3,h4,h5⟩
 ·exact Or.inl h
 ·have:=hb.size
  exact Or.inr ⟨b,o,h1,h2,by omega,fun j x hx=>(hb.cell (p:=⟨b,o+j,none⟩) h3).trans (h4 j x hx),fun j=>(hb.frozen (p:=⟨b,j,none⟩) h3).trans (h5 j)⟩
theorem Strs.low{w:World}{B B':Nat}{A:Option Addr}{L:List (List UInt8)}(h:Strs w B A L)(hB:B'≤B):Strs w B' A L:=by
 rcases h with h|⟨b,o,h1,h2,h3,h4⟩
 ·exact Or.inl h
 ·exact Or.inr ⟨b,o,h1,by omega,h3,h4⟩
theorem Strs.drewN{w:World}{B:Nat}{A:Option Addr}{L:List (List UInt8)}(h:Strs w B A L)(n:Nat):Strs (w.drewN n) B A L:=h
theorem lit_any(s:ByteArray)(w:World)(hs:s.size≤9223372036854775807):
 Calls prog 144 #[.string s] w fun e w'=>e= .returned (.bool (!Np.nameB s.data.toList))∧Below w.heap.size w w':=by
 go_enter func144,ntmps144;go_wp2_with(go_at_call 145;refine(may_any s _ hs).mono ?_;rintro e w' ⟨rfl,hb⟩)
 go_ret
 exact⟨rfl,by assumption⟩
theorem all_step{L:List (List UInt8)}{k:Nat}{x:List UInt8}(h:(L.take k).all Np.nameB=true)(hx:L[k]? =some x):(L.take (k+1)).all Np.nameB=Np.nameB x:=by
 rw[List.take_add_one,hx,List.all_append,h];simp
theorem lit_l(x:List UInt8)(b:Bool)(h:Np.nameB x=b)(w:World)(hs:x.length≤1000000):
 Calls prog 144 #[.string ⟨x.toArray⟩] w fun e w'=>e= .returned (.bool (!b))∧Below w.heap.size w w':=by
 have:=lit_any ⟨x.toArray⟩ w (by rw[Lib.size_eq];show x.length≤_;omega)
 rw[show(⟨x.toArray⟩:ByteArray).data.toList=x from rfl,h]at this;exact this
def IdxPost(L:List (List UInt8))(w:World)(e:Ending)(w':World):Prop:=∃r:Int,e= .returned (.int .i64 r)∧decide (0≤r)= !L.all Np.nameB∧Below w.heap.size w w'
theorem all_found{L:List (List UInt8)}{k:Nat}{x:List UInt8}(hx:L[k]? =some x)(h:Np.nameB x=false):L.all Np.nameB=false:=by
 rw[List.all_eq_false];exact⟨x,List.mem_of_getElem? hx,by rw[h];simp⟩
theorem index_any(A:Option Addr)(L:List (List UInt8))(c:Nat)(B:Nat)(w:World)(hL:L.length≤1000000)(hsz:∀x∈L,x.length≤1000000)(hS:Strs w B A L):
 Calls prog 161 #[.slice A L.length c,.func (.func 144) #[] #[]] w (IdxPost L w):=by
 have HS:=hid hS;clear hS;have HZ:=hid hsz;clear hsz;go_enter func161,ntmps161;go_wp2;go_loopw[5,8] (fun _ i wr=>∃k:Nat,k≤L.length∧i= .int .i64 k∧Hid ((L.take k).all Np.nameB=true)∧Below w.heap.size w wr) (fun _ i _=>L.length-(intOf i).toNat)
 case atStart=>exact⟨0,by omega,rfl,by show(L.take 0).all _=true;simp,Below.refl _ _⟩
 case round=>
  obtain⟨k,hk,rfl,hok,hbw⟩:=hrel;by_cases hlt:k<L.length
  ·obtain⟨x,hx⟩:∃x,L[k]? =some x:=⟨_,List.getElem?_eq_getElem hlt⟩;rcases HS.o with h|⟨b,o,rfl,h2,h3,h4,_⟩
   ·subst h;simp at hlt
   have hc:wr.cell? ⟨b,o+k,none⟩=some (.string ⟨x.toArray⟩):=(hbw.cell (p:=⟨b,o+k,none⟩) h3).trans (h4 k x hx);clear h4;have hxl:=HZ.o x (List.mem_of_getElem? hx);have Hx:=hid hx;clear hx;by_cases hn:Np.nameB x=true
   ·have Hn:=hid hn;clear hn;go_wp2_with fail
    refine(lit_l x true Hn.o _ hxl).mono ?_
    rintro e w2 ⟨rfl,hb⟩;go_wp2;go_roundw
    case rel=>exact⟨k+1,by omega,by go_num,by show _=_;rw[all_step hok.o Hx.o,Hn.o],hbw.trans (hb.mono hbw.size)⟩
    case measure=>simp[intOf];omega
   ·have hn':Np.nameB x=false:=by simpa using hn
    have Hn:=hid hn';clear hn hn';go_wp2_with fail
    refine(lit_l x false Hn.o _ hxl).mono ?_
    rintro e w2 ⟨rfl,hb⟩;go_wp2;go_ret
    refine⟨_,rfl,?_,hbw.trans (hb.mono hbw.size)⟩;rw[all_found Hx.o Hn.o];simp
  ·go_wp2;go_ret
   refine⟨_,rfl,?_,hbw⟩;have:=hok.o
   rw[List.take_of_length_le (by omega)]at this;rw[this];rfl
theorem contains_any(A:Option Addr)(L:List (List UInt8))(c:Nat)(B:Nat)(w:World)(hL:L.length≤1000000)(hsz:∀x∈L,x.length≤1000000)(hS:Strs w B A L):
 Calls prog 143 #[.slice A L.length c,.func (.func 144) #[] #[]] w fun e w'=>e= .returned (.bool (!L.all Np.nameB))∧Below w.heap.size w w':=by
 have h:=fun W=>index_any A L c B W hL hsz;have H:=hid h;clear h;have HS:=hid hS;clear hS;clear hsz;go_enter func143,ntmps143;go_wp2_with fail
 refine(H.o _ HS.o).mono ?_
 rintro e w2 ⟨r,rfl,hr,hb⟩;have Hr:=hid hr;clear hr;go_wp2;go_ret
 exact⟨ret_bool Hr.o,hb⟩
end Go.Proofs.YtckoobkjpndgnaaGreatDoor
