/- Walks: a directory's table: Read. -/
import Derived.Test.YtjlpkbhgphjpeaaGreatDoorV11
set_option linter.unusedVariables false
set_option linter.unusedSimpArgs false
set_option linter.unusedSectionVars false
set_option maxHeartbeats 8000000
set_option maxRecDepth 100000
namespace Go.Proofs.YtjlpkbhgphjpeaaGreatDoor
open Go.RowKit
open Lib(hid)
open Go.Proofs.Tryz
section
open Go.Shelf
attribute [local go_sem] Oper.semAt_some
theorem QY(T T2:Gd.Tab)(hOk:Gd.TabOk T)(hOk2:Gd.TabOk T2)(k:Nat)(hk:k<4)(v:Value)(B:Nat)(w:World)(hv:zV w B v (Gd.blkT T2 k)):
 Calls prog 123 #[zW T,.int .i64 k,v] w fun e w'=>e= .returned (.tuple #[zW (Gd.rdT T T2 k 4),.int .i64 0])∧Below w.heap.size w w':=by
 obtain⟨T4,hTe⟩:=nm (Gd.rdT T T2 k 4);rw[←hTe];have HTe:=hid hTe;clear hTe;have hlen:(Gd.blkT T2 k).length=64:=Gd.blkT_len hOk2 hk;obtain⟨b,c,rfl,hc,-,hbl,hcell⟩:=hv.lies (by intro h;rw[h]at hlen;simp at hlen);rw[hlen]at hc⊢;have hsz:=zF hOk.len;obtain⟨tb,htb⟩:=nm w.heap.size;obtain⟨w2,hw2⟩:=nm ((w.alloc (.cells (zk T) 77)).alloc (.cells (zk Gd.noTab) 77));obtain⟨w3,hw3⟩:=nm (w2.alloc (.cells (zk Gd.noTab) 77));have hs2:w2.heap.size=tb+1+1:=by rw[hw2,htb];simp
 have hB2:Below w.heap.size w w2:=by rw[hw2];exact((Below.refl _ _).alloc (Nat.le_refl _) _).alloc (by simp) _
 have hB3:Below w.heap.size w w3:=by rw[hw3];exact hB2.alloc hB2.size _
 have r0:w2.heap[tb]? =some (.cells (zk T) 77 (0,0)):=by rw[hw2,htb];exact zh.alloc (heap_alloc_new w _) _
 have r1:w2.heap[tb+1]? =some (.cells (zk Gd.noTab) 77 (0,0)):=by
  have:=heap_alloc_new (w.alloc (.cells (zk T) 77)) (.cells (zk Gd.noTab) 77)
  rw[World.size_alloc]at this;rw[hw2,htb];exact this
 have s1:w3.heap[tb+1]? =some (.cells (zk Gd.noTab) 77 (0,0)):=by rw[hw3];exact zh.alloc r1 _
 have s2:w3.heap[tb+1+1]? =some (.cells (zk Gd.noTab) 77 (0,0)):=by rw[hw3,←hs2];exact heap_alloc_new _ _
 have HI:=hid fun W=>Zm (k:Int) W;rw[show(decide ((0:Int)≤k)&&decide ((k:Int)<4))=true by simp;omega]at HI;have HZs:Hid ((zk Gd.noTab).size=32):=hid (zF rfl);have HS:=hid hsz;have Htb:=hid htb.symm;have HW2:=hid hw2;have HW3:=hid hw3;have Hs2:=hid hs2;have HB2:=hid hB2;have HB3:=hid hB3;have HR0:=hid r0;have HS1:=hid s1;have HS2:=hid s2;have HOk:=hid (And.intro hOk hOk2);have HCl:=hid (And.intro hbl hcell);have hk4:(k:Int)<4:=by omega
 have hk0:(0:Int)≤k:=by omega
 clear hlen hv hbl hcell hsz htb hw2 hw3 hs2 hB2 hB3 r0 r1 s1 s2 hOk hOk2;unfold zW;go_enter func123,ntmps123;go_upto_region 1 with fail
 rw[←qh,←HW2.o,Htb.o];go_upto_region 5 with(go_at_call 163;refine(HI.o _).mono ?_;rintro e wq ⟨rfl,rfl⟩)
 go_upto_region 6 with(first|(refine wpList_load_row rfl 77 _ rfl tb rfl 77 (zk T) (0,0) _ HR0.o underlying77 rfl (by rw[HS.o];exact sizeTab) ?_)|(rw[←qh,←HW3.o,Hs2.o];refine wpList_store_mid rfl 77 _ _ rfl (tb+1+1) 0 (zk T) rfl rfl (zd HS2.o (by rw[HZs.o,HS.o])) (by rw[HS.o];exact sizeTab) (zQ _) ?_;obtain⟨hbw,hbg⟩:=zC HS2.o (vs:=(zk T).toList) (B:=tb+1+1) (by rw[HZs.o,Array.length_toList,HS.o]) (Nat.le_refl _);generalize (World.setCells _ _ _ _)=w4 at hbw hbg⊢))
 have HN4:Hid (w4.heap[tb+1+1]? =some (.cells (zk T) 77 (0,0))):=hid hbg;have HR4:Hid (w4.heap[tb+1]? =some (.cells (zk Gd.noTab) 77 (0,0))):=hid ((hbw.block (tb+1) (show tb+1<tb+1+1 by omega)).trans HS1.o);have HB4:=hid (HB3.o.trans (hbw.mono (show w.heap.size≤tb+1+1 by rw[Htb.o];omega)));clear hbw hbg;go_upto_region 7 with fail
 go_loopw[9,10,11,25] (fun _ _ _ z wr=>∃i:Nat,z= .int .i64 i∧i≤4∧Hid (wr.heap[tb+1+1]? =some (.cells (zk (Gd.rdT T T2 k i)) 77 (0,0)))∧Hid (wr.heap[tb+1]? =some (.cells (zk Gd.noTab) 77 (0,0)))∧Hid (Below w.heap.size w wr)) (fun _ _ _ z _=>4-(intOf z).toNat)
 case atStart=>exact⟨0,rfl,by omega,HN4,HR4,HB4⟩
 case round=>
  obtain⟨i,rfl,hin,HN,HR,HB⟩:=hrel;by_cases hlt:i<4
  ·obtain⟨e,he⟩:=nm (Gd.entAt T2 (4*k+i));have hem:=Gd.May.len (Gd.entAt_may HOk.o.2 (4*k+i));rw[←he]at hem;obtain⟨b0,b1,bs⟩:=Gd.blkT_read HOk.o.2 hk hlt he;obtain⟨q,hq⟩:=nm e.i;obtain⟨s,hs⟩:∃s:ByteArray,s=⟨e.s.toArray⟩:=⟨_,rfl⟩;obtain⟨l,hl⟩:=nm e.s.length;rw[←hl]at hem b1;rw[←hq]at hem b0;have c0:=HCl.o.2 _ _ b0;have c1:=HCl.o.2 _ _ b1;rw[UInt8.toNat_ofNat',Nat.mod_eq_of_lt (by omega)]at c0 c1;have d0:=(HB.o.cell (p:=⟨b,16*i,none⟩) HCl.o.1).trans c0;have d1:=(HB.o.cell (p:=⟨b,16*i+1,none⟩) HCl.o.1).trans c1;have h1:(i:Int)<4:=by omega
   have h0:(0:Int)≤i:=by omega
   have hl12:(l:Int)≤12:=by omega
   have hCV:∀W,Below w.heap.size w W→W.cell? ⟨b,16*i,none⟩=some (.int .u8 q)∧(convert 60 9 (.slice (some ⟨b,16*i+2,none⟩) l (c-16*i-2))).run prog W= .ok (.string s) W:=fun W hW=>by
    refine⟨(hW.cell (p:=⟨b,16*i,none⟩) HCl.o.1).trans c0,?_⟩;rw[hs];exact xD _ _ _ ⟨_,_,by rw[hl],Or.inr ⟨b,16*i+2,rfl,Nat.lt_of_lt_of_le HCl.o.1 hW.size,fun j x hx=>(hW.cell (p:=⟨b,16*i+2+j,none⟩) HCl.o.1).trans (HCl.o.2 _ _ (bs j x hx))⟩⟩
   have HCV:=hid hCV;have hS1:∀W,(Instr.slice 60 (.slice (some ⟨b,0,none⟩) 64 c) (some (.int .i64 (16*(i:Int)))) (some (.int .i64 (16*((i:Int)+1)))) none).run prog W= .ok (.slice (some ⟨b,16*i,none⟩) 16 (c-16*i)) W:=fun W=>by
    have:=Yu (b:=b) (o:=0) (n:=64) (c:=c) (l:=16*i) (h:=16*(i+1)) (by omega) (by omega) (by omega) W
    rw[show 0+16*i=16*i by omega,show 16*(i+1)-16*i=16 by omega]at this;rw[←this];push_cast
    rfl
   have hS2:∀W,(Instr.slice 60 (.slice (some ⟨b,16*i,none⟩) 16 (c-16*i)) (some (.int .i64 2)) (some (.int .i64 (2+(l:Int)))) none).run prog W= .ok (.slice (some ⟨b,16*i+2,none⟩) l (c-16*i-2)) W:=fun W=>by
    have:=Yu (b:=b) (o:=16*i) (n:=16) (c:=c-16*i) (l:=2) (h:=2+l) (by omega) (by omega) (by omega) W
    rw[show 2+l-2=l by omega]at this;rw[←this];push_cast
    rfl
   have HE:=hid (And.intro he (And.intro hq (And.intro hs hl)));clear he b0 b1 bs hq hs hl c0 c1 hlt hCV;go_upto_region 13 with fail
   have hs0:=HCV.o wr.drew HB.o.drew;obtain⟨n0,n1⟩:=jH HN.o (Gd.entAt_get (Gd.rdT_ok HOk.o.1 HOk.o.2 k i).len (show 4*k+i<16 by omega));have m0:=frozen_of_row wr (tb+1+1) ((4*k+i)*2) _ _ HN.o;have m1:=frozen_of_row wr (tb+1+1) ((4*k+i)*2+1) _ _ HN.o;obtain⟨w5,hw5⟩:=nm (((wr.setCell ⟨tb+1+1,(4*k+i)*2,none⟩ (.string s)).setCell ⟨tb+1+1,(4*k+i)*2+1,none⟩ (.int .i64 q)).drew);have hsl:∀x:Nat,x≠tb+1+1→w5.heap[x]? =wr.heap[x]? :=fun x hx=>by
    rw[hw5];exact(Go.heap_setCell_other _ ⟨tb+1+1,(4*k+i)*2+1,none⟩ x _ hx).trans (Go.heap_setCell_other _ ⟨tb+1+1,(4*k+i)*2,none⟩ x _ hx)
   have HB5:Hid (Below w.heap.size w w5):=hid (by rw[hw5];exact((HB.o.setCell (show w.heap.size≤tb+1+1 by rw[Htb.o];omega) _).setCell (show w.heap.size≤tb+1+1 by rw[Htb.o];omega) _).drew);have HR5:Hid (w5.heap[tb+1]? =some (.cells (zk Gd.noTab) 77 (0,0))):=hid ((hsl (tb+1) (by omega)).trans HR.o);have HN5:Hid (w5.heap[tb+1+1]? =some (.cells (zk (Gd.rdT T T2 k (i+1))) 77 (0,0))):=hid (by
    unfold Gd.rdT;rw[ZE (by rw[(Gd.rdT_ok HOk.o.1 HOk.o.2 k i).len];omega),←HE.o.1,←HE.o.2.1,←HE.o.2.2.1,hw5];exact Go.heap_setCell_same _ (tb+1+1) _ _ _ _ (Go.heap_setCell_same wr (tb+1+1) _ _ _ _ HN.o))
   have HW5:=hid hw5;have hs5:=HCV.o w5 HB5.o;have g7:IntKind.i64.wrap (q:Int)=q:=by rw[IntKind.wrap_i64];omega
   clear d0 d1 hem hw5 hsl;have g1:IntKind.i64.wrap (2+(l:Int))=2+l:=by rw[IntKind.wrap_i64];omega
   have g2:IntKind.i64.wrap (4*(k:Int))=4*k:=by rw[IntKind.wrap_i64];omega
   have g3:IntKind.i64.wrap (4*(k:Int)+i)=4*k+i:=by rw[IntKind.wrap_i64];omega
   have g4:(0:Int)≤4*(k:Int)+i:=by omega
   have g5:4*(k:Int)+i<16:=by omega
   have g6:(4*(k:Int)+i).toNat=4*k+i:=by omega
   refine wp_region_held_drew (S:=(fun W=>W.cell? ⟨b,16*i,none⟩=some (.int .u8 q)∧(convert 60 9 (.slice (some ⟨b,16*i+2,none⟩) l (c-16*i-2))).run prog W= .ok (.string s) W)) (by kernel_rfl) ?_ (fun hHeld=> ?_)
   ·exact hs0
   refine tk 0 ?_;refine tk 1 ?_;refine tk 2 ?_;refine tk 3 ?_;refine tk 4 ?_;refine tk 5 ?_;refine tk 6 ?_;refine tk 7 ?_;refine tk 8 ?_;refine tk 9 ?_;refine tk 10 ?_;refine tk 11 ?_;refine tk 12 ?_;refine tk 13 ?_;refine tk 14 ?_;refine rd 15 (fun K hK=> ?_);go_simp
   rw[←HW5.o];try dsimp only
   refine hK.o _ _ hs5 (fun hHeld=> ?_);clear hK K;try simp only[put]
   refine dn ?_
   (try simp only[Exit.then])
   go_wp2;go_roundw
   case rel=>exact⟨i+1,by go_num,by omega,HN5,HR5,HB5⟩
   case measure=>simp[intOf];omega
  ·obtain rfl:i=4:=by omega
   clear hlt;have hT4:=Gd.rdT_ok HOk.o.1 HOk.o.2 k 4;have hbk:=Gd.rdT_blk HOk.o.1 HOk.o.2 hk;rw[←HTe.o]at hT4 hbk HN;have HBk:=hid (xT T4 hT4 k hk wr);rw[hbk]at HBk;have HS4:=hid (zF hT4.len);obtain⟨M,hM⟩:=nm (Gd.blkT T2 k);have hMl:M.length=64:=by rw[hM];exact Gd.blkT_len HOk.o.2 hk
   rw[←hM]at HBk HCl;have HMl:=hid hMl;have hc64:(64:Int)≤c:=by omega
   clear hT4 hbk hM hMl;unfold zW at HBk;go_upto_region 16 with(first|(refine wpList_load_row rfl 77 _ rfl (tb+1+1) rfl 77 (zk T4) (0,0) _ HN.o underlying77 rfl (by rw[HS4.o];exact sizeTab) ?_)|(go_at_call 164;refine HBk.o.mono ?_;rintro e w5 ⟨v5,rfl,ho5,hb5⟩))
   have HB5:=HB.t hb5;have hn5:=(hb5.block _ (za HN.o)).trans HN.o;have hr5:=(hb5.block _ (za HR.o)).trans HR.o;have HN5:=hid hn5;have HR5:=hid hr5;have HEq:=hid (JI v5 (.slice (some ⟨b,0,none⟩) 64 c) M w5 ho5.at_ ⟨_,_,by rw[HMl.o],Or.inr ⟨b,0,rfl,Nat.lt_of_lt_of_le HCl.o.1 HB5.o.size,fun j x hx=>by rw[Nat.zero_add];exact(HB5.o.cell (p:=⟨b,j,none⟩) HCl.o.1).trans (HCl.o.2 j x hx)⟩⟩ (by rw[HMl.o];omega));clear hb5 ho5 hn5 hr5 HBk;go_upto_region 18 with(go_at_call 165;refine HEq.o.mono ?_;rintro e w6 ⟨rfl,hb6⟩)
   have HB6:=HB5.t hb6;have HN6:=HN5.r hb6;have HR6:=HR5.r hb6;clear hb6;go_wp2_with(first|(refine wpList_load_row rfl 77 _ rfl (tb+1+1) rfl 77 (zk T4) (0,0) _ HN6.o underlying77 rfl (by rw[HS4.o];exact sizeTab) ?_)|(refine wpList_store_mid rfl 77 _ _ rfl (tb+1) 0 (zk T4) rfl rfl (zd HR6.o (by rw[HZs.o,HS4.o])) (by rw[HS4.o];exact sizeTab) (zQ _) ?_;obtain⟨hbw,hbg⟩:=zC HR6.o (vs:=(zk T4).toList) (B:=tb) (by rw[HZs.o,Array.length_toList,HS4.o]) (show tb≤tb+1 by omega);generalize (World.setCells _ _ _ _)=wf at hbw hbg⊢))
   refine bodyPost_ret (zO rfl _ _ (tb+1) 77 (zk T4) (0,0) _ rfl hbg underlying77 rfl (by rw[HS4.o];exact sizeTab)) rfl ?_;exact⟨rfl,HB6.o.trans (by rw[Htb.o];exact hbw)⟩
end
section
open Go.Shelf
attribute [local go_sem] Oper.semAt_some
namespace Gd
structure DirOf(M:Vol)(d:Nat)(T:Tab):Prop where
 lo:1≤d
 hi:d≤32
 kind:(M.ino d).k=2
 ok:TabOk T
 blk:∀k,k<4→∃n:Nat,(M.ino d).B[k]? =some (n:Int)∧((n=0∧∀i,i<4→entAt T (4*k+i)=noEnt)∨(1≤n∧n≤128∧M.blk n=blkT T k))
def upT(T:Tab)(k:Nat):Tab:=(List.range 16).map fun j=>if j<4*k then entAt T j else noEnt
theorem upT_len(T:Tab)(k:Nat):(upT T k).length=16:=by unfold upT;rw[List.length_map,List.length_range]
theorem upT_at(T:Tab)(k:Nat){j:Nat}(hj:j<16):entAt (upT T k) j=if j<4*k then entAt T j else noEnt:=by
 show(upT T k).getD j noEnt=_
 unfold upT;rw[List.getD_eq_getElem?_getD,List.getElem?_map,List.getElem?_range hj];rfl
theorem upT_ok{T:Tab}(h:TabOk T)(k:Nat):TabOk (upT T k):=⟨upT_len T k,fun e he=>by
 unfold upT at he;obtain⟨j,_,rfl⟩:=List.mem_map.1 he;split
 ·exact entAt_may h j
 ·exact Or.inl rfl⟩
theorem noTab_at(j:Nat):entAt noTab j=noEnt:=by
 unfold entAt noTab;rw[List.getD_eq_getElem?_getD,List.getElem?_replicate];split<;>rfl
theorem upT_zero(T:Tab):upT T 0=noTab:=tab_ext (upT_len T 0) rfl fun j hj=>by rw[upT_at T 0 hj,if_neg (by omega),noTab_at]
theorem upT_skip{T:Tab}{k:Nat}(hk:k<4)(h:∀i,i<4→entAt T (4*k+i)=noEnt):upT T (k+1)=upT T k:=tab_ext (upT_len _ _) (upT_len _ _) fun j hj=>by
 rw[upT_at _ _ hj,upT_at _ _ hj];by_cases h1:j<4*k
 ·rw[if_pos h1,if_pos (by omega)]
 ·rw[if_neg h1];by_cases h2:j<4*(k+1)
  ·rw[if_pos h2,show j=4*k+(j-4*k) by omega,h _ (by omega)]
  ·rw[if_neg h2]
theorem upT_read{T:Tab}(hT:TabOk T){k:Nat}(hk:k<4):rdT (upT T k) T k 4=upT T (k+1):=tab_ext (rdT_ok (upT_ok hT k) hT k 4).len (upT_len _ _) fun j hj=>by
 rw[rdT_at (upT_ok hT k) hT hk 4 (Nat.le_refl _),upT_at _ _ hj,upT_at _ _ hj];by_cases h1:4*k≤j∧j<4*k+4
 ·rw[if_pos h1,if_pos (by omega)]
 ·rw[if_neg h1];by_cases h2:j<4*k
  ·rw[if_pos h2,if_pos (by omega)]
  ·rw[if_neg h2,if_neg (by omega)]
theorem upT_all{T:Tab}(hT:TabOk T):upT T 4=T:=tab_ext (upT_len _ _) hT.len fun j hj=>by rw[upT_at _ _ hj,if_pos (by omega)]
end Gd
theorem zA:zU=#[Value.int .i64 0,Value.int .i64 0,Value.int .i64 0,Value.int .i64 0,Value.int .i64 0,Value.int .i64 0,Value.int .i64 0,Value.int .i64 0,Value.int .i64 0,Value.int .i64 0,Value.int .i64 0,Value.int .i64 0,Value.int .i64 0,Value.int .i64 0,Value.int .i64 0]:=by rfl
theorem zi(w:World)(Z:Array Value)(t:TypeId)(vs:List Value)(h:Z.size=vs.length):
 Below w.heap.size w ((w.alloc (.cells Z t)).setCells w.heap.size 0 vs)∧((w.alloc (.cells Z t)).setCells w.heap.size 0 vs).heap[w.heap.size]? =some (.cells vs.toArray t (0,0)):=by
 obtain⟨h1,h2⟩:=zC (heap_alloc_new w (.cells Z t)) h (Nat.le_refl _);exact⟨((Below.refl _ w).alloc (Nat.le_refl _) _).trans h1,h2⟩
theorem zn:(zk Gd.noTab).size=32:=zF rfl
theorem us[zg]{x t c K d:Nat}{S:List UInt8}{M:Gd.Vol}{T:Gd.Tab}{F:Nat→Prop}(w:World)(h:zy x t S M c K w F)(hD:Gd.DirOf M d T):
 Calls prog 64 #[.pointer (some ⟨x,0,none⟩),zv (M.ino d)] w fun e w'=>e= .returned (.tuple #[zW T,.int .i64 0])∧Below w.heap.size w w':=by
 obtain⟨P,h,hG⟩:=h;have hs:=hG.shape d hD.lo hD.hi;have hblk:=hD.blk;obtain⟨y,hy⟩:=nm (M.ino d);rw[←hy]at hs hblk⊢;obtain⟨hb0,hbb⟩:=xK w hs;obtain⟨b,hbe⟩:=nm w.heap.size;obtain⟨wb,hwb⟩:=nm (w.alloc (.cells (zf y) 48));rw[←hwb,←hbe]at hb0;rw[←hwb]at hbb;have hsb:wb.heap.size=b+1:=by rw[hwb,hbe];simp
 obtain⟨w2,hw2⟩:=nm ((wb.alloc (.cells (zk Gd.noTab) 77)).alloc (.cells (zk Gd.noTab) 77));have hb2:Below wb.heap.size wb w2:=by rw[hw2];exact((Below.refl _ _).alloc (Nat.le_refl _) _).alloc (by simp) _
 have r4:w2.heap[b+1]? =some (.cells (zk Gd.noTab) 77 (0,0)):=by rw[hw2,←hsb];exact zh.alloc (heap_alloc_new wb _) _
 have r6:w2.heap[b+1+1]? =some (.cells (zk Gd.noTab) 77 (0,0)):=by
  have:=heap_alloc_new (wb.alloc (.cells (zk Gd.noTab) 77)) (.cells (zk Gd.noTab) 77)
  rw[World.size_alloc,hsb]at this;rw[hw2];exact this
 have hI2:=hb0.keep hb2;have hB2:Below w.heap.size w w2:=hbb.trans (hb2.mono hbb.size);have H:=hid h;have HG:=hid hG;have HBl:=hid hblk;have HOk:=hid hD.ok;have Hbe:=hid hbe.symm;have Hwb:=hid hwb.symm;have Hsb:=hid hsb;have Hw2:=hid hw2.symm;have HB2:=hid hB2;have HR4:=hid r4;have HR6:Hid (w2.heap[b+1+1]? =some (.cells (zk (Gd.upT T 0)) 77 (0,0))):=hid (by rw[Gd.upT_zero];exact r6);have HI:=hid hI2;have HL:Hid ((zY y.B).length=4):=hid (by rw[ju];exact hs.1);clear h hG hs hblk hD hy hb0 hbb hbe hwb hsb hw2 hb2 r4 r6 hI2 hB2;unfold zv zW at*;go_enter func64,ntmps64;go_upto_region 2 with fail
 rw[Hwb.o,Hbe.o,←qh,Hw2.o]
 (try rw[Hsb.o])
 go_upto_region 3 with(refine wpList_load_mid rfl 46 _ rfl b 3 rfl (zY y.B) _ HI.o.blocks underlying46 rfl (by rw[HL.o];exact size4) ?_)
 go_loopw[15] (fun z wr=>∃i:Nat,z= .int .i64 i∧i≤4∧Hid (wr.heap[b+1]? =some (.cells (zk Gd.noTab) 77 (0,0)))∧Hid (wr.heap[b+1+1]? =some (.cells (zk (Gd.upT T i)) 77 (0,0)))∧Hid (Below w.heap.size w wr)) (fun z _=>4-(intOf z).toNat)
 case atStart=>exact⟨0,rfl,by omega,HR4,HR6,HB2⟩
 case round=>
  obtain⟨i,rfl,hi,HR,HT,HB⟩:=hrel;by_cases hlt:i<4
  ·obtain⟨n,hn,hnb⟩:=HBl.o i hlt;have hc:=jx 46 3 4 (zY y.B).toArray .i64 .i64 i _ wr underlying46 underlying3 infoInts hlt (by rw[List.getElem?_toArray];exact jy hn);have h1:(i:Int)<4:=by omega
   by_cases h0:n=0
   ·have hno:∀j,j<4→Gd.entAt T (4*i+j)=Gd.noEnt:=by
     rcases hnb with⟨_,h⟩|⟨h,_⟩
     ·exact h
     ·omega
    have HT2:Hid (wr.heap[b+1+1]? =some (.cells (zk (Gd.upT T (i+1))) 77 (0,0))):=hid (by rw[Gd.upT_skip hlt hno];exact HT.o);subst h0;clear hn hnb hlt hno;go_wp2_with fail
    go_roundw
    case rel=>exact⟨i+1,by go_num,by omega,HR,HT2,HB⟩
    case measure=>simp[intOf];omega
   ·have hnb:1≤n∧n≤128∧M.blk n=Gd.blkT T i:=by
     rcases hnb with⟨h,_⟩|h
     ·omega
     ·exact h
    have hn0:¬(n:Int)=0:=by omega
    have HLd:=hid (yI 7 n _ wr (H.o.below HB.o) (Gd.ptAt_block hnb.1 hnb.2.1));dsimp only at HLd;rw[HG.o.blk n hnb.1 hnb.2.1,hnb.2.2]at HLd;have HRd:=hid fun v B W hv=>QY (Gd.upT T i) T (Gd.upT_ok HOk.o i) HOk.o i hlt v B W hv;rw[Gd.upT_read HOk.o hlt]at HRd;unfold zW at HRd;have HSi:=hid (zF (Gd.upT_len T i));have HSj:=hid (zF (Gd.upT_len T (i+1)));clear hn hnb hlt;go_wp2_with fail
    refine HLd.o.mono ?_;rintro e w3 ⟨v3,rfl,ho3,hb3⟩;have HO3:=hid ho3;have HB3:=HB.t hb3;have hrr:=(hb3.block _ (za HR.o)).trans HR.o;have htt:=(hb3.block _ (za HT.o)).trans HT.o;have HR3:=hid hrr;have HT3:=hid htt;clear ho3 hb3 hrr htt HLd hc
    go_upto_region 8 with(first|(refine wpList_load_row rfl 77 _ rfl (b+1+1) rfl 77 (zk (Gd.upT T i)) (0,0) _ HT3.o underlying77 rfl (by rw[HSi.o];exact sizeTab) ?_)|(go_at_call 123;refine(HRd.o v3 _ w3 HO3.o).mono ?_;rintro e w4 ⟨rfl,hb4⟩;have HB4:=HB3.t hb4;have HR4:=HR3.r hb4;have HT4:=HT3.r hb4;clear hb4)|(rw[←qh];refine wpList_store_mid rfl 77 _ _ rfl w4.heap.size 0 (zk (Gd.upT T (i+1))) rfl rfl (zd (heap_alloc_new _ _) (by rw[zn,HSj.o])) (by rw[HSj.o];exact sizeTab) (zQ _) ?_;obtain⟨hbw,hbg⟩:=zi w4 (zk Gd.noTab) 77 (zk (Gd.upT T (i+1))).toList (by rw[zn,Array.length_toList,HSj.o]);generalize (World.setCells _ _ _ _)=w5 at hbw hbg⊢;have HN5:Hid (w5.heap[w4.heap.size]? =some (.cells (zk (Gd.upT T (i+1))) 77 (0,0))):=hid hbg;have HB5:=HB4.t hbw;have HR5:=HR4.r hbw;have HT5:=HT4.r hbw;clear hbw hbg))
    go_upto_region 11 with(first|(refine wpList_load_row rfl 77 _ rfl w4.heap.size rfl 77 (zk (Gd.upT T (i+1))) (0,0) _ HN5.o underlying77 rfl (by rw[HSj.o];exact sizeTab) ?_)|(refine wpList_store_mid rfl 77 _ _ rfl (b+1+1) 0 (zk (Gd.upT T (i+1))) rfl rfl (zd HT5.o (by rw[HSi.o,HSj.o])) (by rw[HSj.o];exact sizeTab) (zQ _) ?_;obtain⟨hbw,hbg⟩:=zC HT5.o (vs:=(zk (Gd.upT T (i+1))).toList) (B:=b+1+1) (by rw[HSi.o,Array.length_toList,HSj.o]) (Nat.le_refl _);generalize (World.setCells _ _ _ _)=w6 at hbw hbg⊢))
    have HB6:=hid (HB5.o.trans (hbw.mono (show w.heap.size≤b+1+1 by rw[Hbe.o];omega)));have HR6:=hid ((hbw.block (b+1) (show b+1<b+1+1 by omega)).trans HR5.o);have HT6:Hid (w6.heap[b+1+1]? =some (.cells (zk (Gd.upT T (i+1))) 77 (0,0))):=hid hbg;clear hbw hbg;go_wp2;go_roundw
    case rel=>exact⟨i+1,by go_num,by omega,HR6,HT6,HB6⟩
    case measure=>simp[intOf];omega
  ·obtain rfl:i=4:=by omega
   clear hlt;have hu:=Gd.upT_all HOk.o;rw[hu]at HT;have HS4:=hid (zF HOk.o.len);clear hu;go_wp2_with(first|(refine wpList_load_row rfl 77 _ rfl (b+1+1) rfl 77 (zk T) (0,0) _ HT.o underlying77 rfl (by rw[HS4.o];exact sizeTab) ?_)|(refine wpList_store_mid rfl 77 _ _ rfl (b+1) 0 (zk T) rfl rfl (zd HR.o (by rw[zn,HS4.o])) (by rw[HS4.o];exact sizeTab) (zQ _) ?_;obtain⟨hbw,hbg⟩:=zC HR.o (vs:=(zk T).toList) (B:=b) (by rw[zn,Array.length_toList,HS4.o]) (show b≤b+1 by omega);generalize (World.setCells _ _ _ _)=wf at hbw hbg⊢))
   refine bodyPost_ret (zO rfl _ _ (b+1) 77 (zk T) (0,0) _ rfl hbg underlying77 rfl (by rw[HS4.o];exact sizeTab)) rfl ?_;exact⟨rfl,HB.o.trans (by rw[Hbe.o];exact hbw)⟩
end
section
open Go.Shelf
attribute [local go_sem] Oper.semAt_some
theorem jO{M:Gd.Vol}{V:List UInt8}(hG:Gd.Good V M){i:Nat}(h1:1≤i)(h2:i≤32):(zf (M.ino i)).size=15:=zm (hG.shape i h1 h2)
theorem zc:zU.size=15:=rfl
theorem jw[zg]{x t c K d:Nat}{S:List UInt8}{M:Gd.Vol}{T:Gd.Tab}{F:Nat→Prop}(w:World)(h:zy x t S M c K w F)(hD:Gd.DirOf M d T):
 Calls prog 28 #[.pointer (some ⟨x,0,none⟩),.int .i64 d] w fun e w'=>e= .returned (.tuple #[zW T,.int .i64 0])∧Below w.heap.size w w':=by
 obtain⟨w0,hw0⟩:=nm (w.alloc (.cells (zk Gd.noTab) 77));have hb0:Below w.heap.size w w0:=by rw[hw0];exact(Below.refl _ _).alloc (Nat.le_refl _) _
 have hr0:w0.heap[w.heap.size]? =some (.cells (zk Gd.noTab) 77 (0,0)):=by rw[hw0];exact heap_alloc_new _ _
 obtain⟨r,hr⟩:=nm w.heap.size;rw[←hr]at hr0;have HIn:=hid (zZ (d:Int) w0 (h.below hb0) (by have:=hD.lo;omega) (by have:=hD.hi;omega));rw[Int.toNat_natCast]at HIn;have HTb:=hid fun W hW=>us W (h.below hW) hD;have HS:Hid ((zf (M.ino d)).size=15):=hid (by
  obtain⟨P,h1,h2⟩:=h;exact jO h2 hD.lo hD.hi)
 have HTs:=hid (zF hD.ok.len);have HK:=hid hD.kind;obtain⟨y,hy⟩:=nm (M.ino d);rw[←hy]at HIn HTb HS HK;have HR0:=hid hr0;have HB0:=hid hb0;have HW0:=hid hw0.symm;have Hr:=hid hr.symm;clear h hD hw0 hb0 hr0 hr hy;unfold zv zW at*;go_enter func28,ntmps28;go_upto_region 1 with fail
 rw[←qh,HW0.o,Hr.o];go_upto_region 2 with(first|(go_at_call 17;refine HIn.o.mono ?_;rintro e w2 ⟨rfl,hb2⟩;have HR2:=hid ((hb2.block r (za HR0.o)).trans HR0.o);have HB2:=HB0.t hb2;clear hb2)|(rw[←zA];refine wpList_store_mid rfl 48 _ _ rfl w2.heap.size 0 (zf y) rfl rfl (zd (heap_alloc_new _ _) (by rw[zc,HS.o])) (by rw[HS.o];exact sizeIno) (zr _) ?_;obtain⟨hbw,hbg⟩:=zi w2 zU 48 (zf y).toList (by rw[zc,Array.length_toList,HS.o]);generalize (World.setCells _ _ _ _)=w3 at hbw hbg⊢;have HN3:Hid (w3.heap[w2.heap.size]? =some (.cells (zf y) 48 (0,0))):=hid hbg;have HB3:=HB2.t hbw;have HR3:=HR2.r hbw;clear hbw hbg))
 have n0:w3.cell? ⟨w2.heap.size,0,none⟩=some (.int .i64 2):=by
  have:=cell_of_row w3 w2.heap.size 0 _ _ _ HN3.o
  rw[this,←HK.o];exact jR rfl
 go_upto_region 6 with fail
 have HTc:=hid (HTb.o w3 HB3.o);go_wp2_with(first|(refine wpList_load_row rfl 48 _ rfl w2.heap.size rfl 48 (zf y) (0,0) _ HN3.o underlying48 rfl (by rw[HS.o];exact sizeIno) ?_)|(go_at_call 64;refine HTc.o.mono ?_;rintro e w4 ⟨rfl,hb4⟩;have HR4:=hid ((hb4.block r (za HR3.o)).trans HR3.o);have HB4:=HB3.t hb4;clear hb4)|(refine wpList_store_mid rfl 77 _ _ rfl r 0 (zk T) rfl rfl (zd HR4.o (by rw[zn,HTs.o])) (by rw[HTs.o];exact sizeTab) (zQ _) ?_;obtain⟨hbw,hbg⟩:=zC HR4.o (vs:=(zk T).toList) (B:=r) (by rw[zn,Array.length_toList,HTs.o]) (Nat.le_refl r);generalize (World.setCells _ _ _ _)=wf at hbw hbg⊢))
 refine bodyPost_ret (zO rfl _ _ r 77 (zk T) (0,0) _ rfl hbg underlying77 rfl (by rw[HTs.o];exact sizeTab)) rfl ?_;exact⟨rfl,HB4.o.trans (by rw[Hr.o];exact hbw)⟩
theorem qV[zg]{x t c K d:Nat}{S:List UInt8}{M:Gd.Vol}{F:Nat→Prop}(w:World)(h:zy x t S M c K w F)(h1:1≤d)(h2:d≤32)(hk:(M.ino d).k≠2):
 Calls prog 28 #[.pointer (some ⟨x,0,none⟩),.int .i64 d] w fun e w'=>e= .returned (.tuple #[zW Gd.noTab,.int .i64 12])∧Below w.heap.size w w':=by
 obtain⟨w0,hw0⟩:=nm (w.alloc (.cells (zk Gd.noTab) 77));have hb0:Below w.heap.size w w0:=by rw[hw0];exact(Below.refl _ _).alloc (Nat.le_refl _) _
 have hr0:w0.heap[w.heap.size]? =some (.cells (zk Gd.noTab) 77 (0,0)):=by rw[hw0];exact heap_alloc_new _ _
 obtain⟨r,hr⟩:=nm w.heap.size;rw[←hr]at hr0;have HIn:=hid (zZ (d:Int) w0 (h.below hb0) (by omega) (by omega));rw[Int.toNat_natCast]at HIn;have HS:Hid ((zf (M.ino d)).size=15):=hid (by
  obtain⟨P,h3,h4⟩:=h;exact jO h4 h1 h2)
 obtain⟨y,hy⟩:=nm (M.ino d);rw[←hy]at HIn HS hk;have HR0:=hid hr0;have HB0:=hid hb0;have HW0:=hid hw0.symm;have Hr:=hid hr.symm;clear h hw0 hb0 hr0 hr hy h1 h2;unfold zv zW at*;go_enter func28,ntmps28;go_upto_region 1 with fail
 rw[←qh,HW0.o,Hr.o];go_upto_region 2 with(first|(go_at_call 17;refine HIn.o.mono ?_;rintro e w2 ⟨rfl,hb2⟩;have HR2:=hid ((hb2.block r (za HR0.o)).trans HR0.o);have HB2:=HB0.t hb2;clear hb2)|(rw[←zA];refine wpList_store_mid rfl 48 _ _ rfl w2.heap.size 0 (zf y) rfl rfl (zd (heap_alloc_new _ _) (by rw[zc,HS.o])) (by rw[HS.o];exact sizeIno) (zr _) ?_;obtain⟨hbw,hbg⟩:=zi w2 zU 48 (zf y).toList (by rw[zc,Array.length_toList,HS.o]);generalize (World.setCells _ _ _ _)=w3 at hbw hbg⊢;have HN3:Hid (w3.heap[w2.heap.size]? =some (.cells (zf y) 48 (0,0))):=hid hbg;have HB3:=HB2.t hbw;have HR3:=HR2.r hbw;clear hbw hbg))
 have n0:w3.cell? ⟨w2.heap.size,0,none⟩=some (.int .i64 y.k):=(cell_of_row w3 w2.heap.size 0 _ _ _ HN3.o).trans (jR rfl);go_upto_region 5 with fail
 go_wp2_with(refine wpList_store_mid rfl 77 _ _ rfl r 0 (zk Gd.noTab) rfl rfl (zd HR3.o zn) (by rw[zn];exact sizeTab) (zQ _) ?_;obtain⟨hbw,hbg⟩:=zC HR3.o (vs:=(zk Gd.noTab).toList) (B:=r) (by rw[zn,Array.length_toList,zn]) (Nat.le_refl r);generalize (World.setCells _ _ _ _)=wf at hbw hbg⊢)
 refine bodyPost_ret (zO rfl _ _ r 77 (zk Gd.noTab) (0,0) _ rfl hbg underlying77 rfl (by rw[zn];exact sizeTab)) rfl ?_;exact⟨rfl,HB3.o.trans (by rw[Hr.o];exact hbw)⟩
theorem Zh[zg]{x t c K:Nat}{S:List UInt8}{M:Gd.Vol}{F:Nat→Prop}(d:Nat)(w:World)(h:zy x t S M c K w F)(h1:1≤d)(h2:d≤32)(hk:(M.ino d).k≠0):
 Calls prog 122 #[.pointer (some ⟨x,0,none⟩),.int .i64 d] w fun e w'=>e= .returned (.tuple #[zv (M.ino d),.int .i64 0])∧Below w.heap.size w w':=by
 obtain⟨w0,hw0⟩:=nm (w.alloc (.cells zU 48));have hb0:Below w.heap.size w w0:=by rw[hw0];exact(Below.refl _ _).alloc (Nat.le_refl _) _
 have hr0:w0.heap[w.heap.size]? =some (.cells zU 48 (0,0)):=by rw[hw0];exact heap_alloc_new _ _
 obtain⟨r,hr⟩:=nm w.heap.size;rw[←hr]at hr0;have HIn:=hid (zZ (d:Int) w0 (h.below hb0) (by omega) (by omega));rw[Int.toNat_natCast]at HIn;have HS:Hid ((zf (M.ino d)).size=15):=hid (by
  obtain⟨P,h3,h4⟩:=h;exact jO h4 h1 h2)
 obtain⟨y,hy⟩:=nm (M.ino d);rw[←hy]at HIn HS hk;rw[←hy];have HR0:=hid hr0;have HB0:=hid hb0;have HW0:=hid hw0.symm;have Hr:=hid hr.symm;clear h hw0 hb0 hr0 hr hy h1 h2;unfold zv at*;go_enter func122,ntmps122;go_upto_region 1 with fail
 rw[←zA,HW0.o,Hr.o];go_upto_region 2 with(first|(go_at_call 17;refine HIn.o.mono ?_;rintro e w2 ⟨rfl,hb2⟩;have HR2:=hid ((hb2.block r (za HR0.o)).trans HR0.o);have HB2:=HB0.t hb2;clear hb2)|(rw[←zA];refine wpList_store_mid rfl 48 _ _ rfl w2.heap.size 0 (zf y) rfl rfl (zd (heap_alloc_new _ _) (by rw[zc,HS.o])) (by rw[HS.o];exact sizeIno) (zr _) ?_;obtain⟨hbw,hbg⟩:=zi w2 zU 48 (zf y).toList (by rw[zc,Array.length_toList,HS.o]);generalize (World.setCells _ _ _ _)=w3 at hbw hbg⊢;have HN3:Hid (w3.heap[w2.heap.size]? =some (.cells (zf y) 48 (0,0))):=hid hbg;have HB3:=HB2.t hbw;have HR3:=HR2.r hbw;clear hbw hbg))
 have n0:w3.cell? ⟨w2.heap.size,0,none⟩=some (.int .i64 y.k):=(cell_of_row w3 w2.heap.size 0 _ _ _ HN3.o).trans (jR rfl);go_upto_region 4 with fail
 go_wp2_with(first|(refine wpList_load_row rfl 48 _ rfl w2.heap.size rfl 48 (zf y) (0,0) _ HN3.o underlying48 rfl (by rw[HS.o];exact sizeIno) ?_)|(refine wpList_store_mid rfl 48 _ _ rfl r 0 (zf y) rfl rfl (zd HR3.o (by rw[zc,HS.o])) (by rw[HS.o];exact sizeIno) (zr _) ?_;obtain⟨hbw,hbg⟩:=zC HR3.o (vs:=(zf y).toList) (B:=r) (by rw[zc,Array.length_toList,HS.o]) (Nat.le_refl r);generalize (World.setCells _ _ _ _)=wf at hbw hbg⊢))
 refine bodyPost_ret (zO rfl _ _ r 48 (zf y) (0,0) _ rfl hbg underlying48 rfl (by rw[HS.o];exact sizeIno)) rfl ?_;exact⟨rfl,HB3.o.trans (by rw[Hr.o];exact hbw)⟩
end
section
open Go.Shelf
attribute [local go_sem] Oper.semAt_some
namespace Gd
def hN(s:List UInt8):Nat:=Np.hashN s/268435456
structure Tree(M:Vol)(T:Nat→Tab):Prop where
 root:(M.ino 1).k=2
 dir:∀d,1≤d→d≤32→(M.ino d).k=2→DirOf M d (T d)
 ent:∀d,1≤d→d≤32→(M.ino d).k=2→∀e∈T d,e≠noEnt→(M.ino e.i).k≠0
def walkT(M:Vol)(T:Nat→Tab):List (List UInt8)→Nat→Nat×Nat
 |[],i=>(i,0)
 |s::r,i=>if(M.ino i).k=2 then(match findT (T i) s (hN s)with|none=>(0,10)|some j=>walkT M T r (entAt (T i) j.val).i)else(0,12)
theorem find_ent{M:Vol}{T:Nat→Tab}(hT:Tree M T){d:Nat}(h1:1≤d)(h2:d≤32)(hk:(M.ino d).k=2){s:List UInt8}{h:Nat}{j:Fin 16}(hj:findT (T d) s h=some j):
 1≤(entAt (T d) j.val).i∧(entAt (T d) j.val).i≤32∧(M.ino (entAt (T d) j.val).i).k≠0∧(T d)[j.val]? =some (entAt (T d) j.val):=by
 have hD:=hT.dir d h1 h2 hk;have hg:=entAt_get hD.ok.len j.isLt;have hm:=List.find?_some hj;simp only[Bool.and_eq_true,decide_eq_true_eq]at hm;have hne:entAt (T d) j.val≠noEnt:=by
  intro h;rw[h]at hm;obtain⟨h3,h4⟩:=hm;rw[←h3]at h4;exact absurd h4 (by decide)
 have hi:=hT.ent d h1 h2 hk _ (List.mem_of_getElem? hg) hne;rcases entAt_may hD.ok j.val with h|⟨_,h3,h4⟩
 ·exact absurd h hne
 ·exact⟨h3,h4,hi,hg⟩
end Gd
theorem Zx[zg]{x t c K:Nat}{S:List UInt8}{M:Gd.Vol}{T:Nat→Gd.Tab}{F:Nat→Prop}(A:Option Addr)(L:List (List UInt8))(cc B:Nat)(w:World)(h:zy x t S M c K w F)(hT:Gd.Tree M T)(hS:jb w B A L)(hL:∀s∈L,s≠[]∧s.length≤1000)(hl:L.length≤1000):
 Calls prog 62 #[.pointer (some ⟨x,0,none⟩),.slice A L.length cc] w fun e w'=>e= .returned (.tuple #[.int .i64 (Gd.walkT M T L 1).1,.int .i64 (Gd.walkT M T L 1).2])∧Below w.heap.size w w':=by
 obtain⟨R,hR⟩:=nm (Gd.walkT M T L 1);rw[←hR];have HR:=hid hR;have H:=hid h;have HT:=hid hT;have HS:=hid hS;have HL:=hid hL;clear hR h hT hS hL;go_enter func62,ntmps62;go_upto_region 3 with fail
 go_loopw[6,16] (fun v z wr=>∃(i d:Nat),z= .int .i64 i∧v= .int .i64 d∧i≤L.length∧Hid (R=Gd.walkT M T (L.drop i) d∧1≤d∧d≤32)∧Hid (Below w.heap.size w wr)) (fun _ z _=>L.length-(intOf z).toNat)
 case atStart=>exact⟨0,1,rfl,rfl,by omega,hid ⟨by rw[HR.o];rfl,by omega,by omega⟩,hid (Below.refl _ _)⟩
 case round=>
  obtain⟨i,d,rfl,rfl,hi,HW,HB⟩:=hrel;by_cases hlt:i<L.length
  ·obtain⟨s,hs⟩:∃s,L[i]? =some s:=⟨_,List.getElem?_eq_getElem hlt⟩;rcases HS.o with h|⟨b,o,rfl,hb1,hb2,hcell,-⟩
   ·subst h;simp at hlt
   have c0:=(HB.o.cell (p:=⟨b,o+i,none⟩) hb2).trans (hcell i s hs);have hdrop:L.drop i=s::L.drop (i+1):=by
    rw[List.drop_eq_getElem_cons hlt,(List.getElem?_eq_some_iff.1 hs).2]
   have hsl:=HL.o s (List.mem_of_getElem? hs);have hW:=HW.o.1;rw[hdrop]at hW;unfold Gd.walkT at hW;have h1:(i:Int)<L.length:=by omega
   have h0:(0:Int)≤i:=by omega
   by_cases hk:(M.ino d).k=2
   ·rw[if_pos hk]at hW;have hD:=HT.o.dir d HW.o.2.1 HW.o.2.2 hk;have HTb:=hid (jw wr (H.o.below HB.o) hD);have HTs:=hid (zF hD.ok.len);have HFd:=hid fun W=>xH (T d) hD.ok.len ⟨s.toArray⟩ (by rw[Lib.size_eq];show s.length≤_;omega) hsl.1 (Gd.hN s) rfl W;rw[show(⟨s.toArray⟩:ByteArray).data.toList=s from rfl]at HFd;obtain⟨sb,hsb⟩:∃sb:ByteArray,sb=⟨s.toArray⟩:=⟨_,rfl⟩;rw[←hsb]at c0 HFd;obtain⟨f,hf⟩:=nm (Gd.findT (T d) s (Gd.hN s));rw[←hf]at hW HFd;obtain⟨D,hDe⟩:=nm (T d);have HDe:=hid hDe;rw[←hDe]at HTb HTs HFd;have Hf:=hid hf;have HW2:=hid hW;have Hk:=hid hk;unfold zW at HTb HFd;clear hs hcell hdrop hsl hW hk hD hsb hDe hlt hf
    go_upto_region 8 with(first|(go_at_call 28;refine HTb.o.mono ?_;rintro e w2 ⟨rfl,hb2⟩;have HB2:=HB.t hb2;clear hb2)|(rw[←qh];refine wpList_store_mid rfl 77 _ _ rfl w2.heap.size 0 (zk D) rfl rfl (zd (heap_alloc_new _ _) (by rw[zn,HTs.o])) (by rw[HTs.o];exact sizeTab) (zQ _) ?_;obtain⟨hbw,hbg⟩:=zi w2 (zk Gd.noTab) 77 (zk D).toList (by rw[zn,Array.length_toList,HTs.o]);generalize (World.setCells _ _ _ _)=w3 at hbw hbg⊢;have HN3:Hid (w3.heap[w2.heap.size]? =some (.cells (zk D) 77 (0,0))):=hid hbg;have HB3:=HB2.t hbw;clear hbw hbg))
    go_upto_region 9 with(first|(refine wpList_load_row rfl 77 _ rfl w2.heap.size rfl 77 (zk D) (0,0) _ HN3.o underlying77 rfl (by rw[HTs.o];exact sizeTab) ?_)|(go_at_call 29;refine(HFd.o w3).mono ?_;rintro e w4 ⟨rfl,hb4⟩;have HB4:=HB3.t hb4;have HN4:=HN3.r hb4;clear hb4))
    cases f with
    |none=>
     have HR0:Hid (R=(0,10)):=HW2;have hn1:vG none= -1:=rfl;rw[hn1];go_wp2;go_ret2
     refine⟨?_,HB4.o⟩;rw[HR0.o];rfl
    |some j=>
     have HR0:Hid (R=Gd.walkT M T (L.drop (i+1)) (Gd.entAt (T d) j.val).i):=HW2;have hfe:=Gd.find_ent HT.o HW.o.2.1 HW.o.2.2 Hk.o Hf.o.symm;rw[←HDe.o]at hfe HR0;obtain⟨q,hq⟩:=nm ((Gd.entAt D j.val).i);obtain⟨-,n1⟩:=jH HN4.o hfe.2.2.2;rw[←hq]at hfe HR0 n1;have hj16:=j.isLt;obtain⟨k,hk⟩:=nm j.val;have hnk:vG (some j)=(k:Int):=by rw[hk];rfl
     rw[←hk]at n1 hj16;rw[hnk];have HNd:=hid (Zh q w4 (H.o.below HB4.o) hfe.1 hfe.2.1 hfe.2.2.1);have HSq:Hid ((zf (M.ino q)).size=15):=hid (by
      obtain⟨P,h3,h4⟩:=H.o;exact jO h4 hfe.1 hfe.2.1)
     have HQ:=hid (And.intro hfe.1 hfe.2.1);obtain⟨y,hy⟩:=nm (M.ino q);rw[←hy]at HNd HSq;unfold zv at HNd;have hk16:(k:Int)<16:=by omega
     have hk0:(0:Int)≤k:=by omega
     clear hfe hq hk hnk hy HFd hj16;go_upto_region 13 with(first|(go_at_call 122;refine HNd.o.mono ?_;rintro e w5 ⟨rfl,hb5⟩;have HB5:=HB4.t hb5;clear hb5)|(rw[←zA];refine wpList_store_mid rfl 48 _ _ rfl w5.heap.size 0 (zf y) rfl rfl (zd (heap_alloc_new _ _) (by rw[zc,HSq.o])) (by rw[HSq.o];exact sizeIno) (zr _) ?_;obtain⟨hbw,hbg⟩:=zi w5 zU 48 (zf y).toList (by rw[zc,Array.length_toList,HSq.o]);generalize (World.setCells _ _ _ _)=w6 at hbw hbg⊢;have HB6:=HB5.t hbw;clear hbw hbg))
     go_wp2;go_roundw
     case rel=>exact⟨i+1,q,by go_num,rfl,by omega,hid ⟨HR0.o,HQ.o⟩,HB6⟩
     case measure=>simp[intOf];omega
   ·rw[if_neg hk]at hW;have HR0:=hid hW;have HTb:=hid (qV wr (H.o.below HB.o) HW.o.2.1 HW.o.2.2 hk);unfold zW at HTb;clear hs hcell hdrop hsl hW hk hlt;go_wp2_with(first|(go_at_call 28;refine HTb.o.mono ?_;rintro e w2 ⟨rfl,hb2⟩;have HB2:=HB.t hb2;clear hb2)|(rw[←qh];refine wpList_store_mid rfl 77 _ _ rfl w2.heap.size 0 (zk Gd.noTab) rfl rfl (zd (heap_alloc_new _ _) zn) (by rw[zn];exact sizeTab) (zQ _) ?_;obtain⟨hbw,hbg⟩:=zi w2 (zk Gd.noTab) 77 (zk Gd.noTab).toList (by rw[Array.length_toList]);generalize (World.setCells _ _ _ _)=w3 at hbw hbg⊢;have HB3:=HB2.t hbw;clear hbw hbg))
    go_ret2
    refine⟨?_,HB3.o⟩;rw[HR0.o];rfl
  ·obtain rfl:i=L.length:=by omega
   have HR0:Hid (R=(d,0)):=hid (by
    have:=HW.o.1
    rw[List.drop_length]at this;exact this)
   clear hlt;go_wp2_with fail
   go_ret2
   refine⟨?_,HB.o⟩;rw[HR0.o];rfl
end
section
open Go.Shelf
attribute [local go_sem] Oper.semAt_some
theorem ZZ{l:List UInt8}{L:List (List UInt8)}(h:Np.pathL l=some L):(∀s∈L,s≠[]∧s.length≤1000)∧L.length≤1000:=by
 have h1:=(Np.pathL_some h).1;simp only[Bool.and_eq_true,decide_eq_true_eq,List.all_eq_true]at h1;refine⟨fun s hs=> ?_,by omega⟩;have hn:=h1.2 s hs;refine⟨Np.name_ne hn,?_⟩;unfold Np.nameB at hn;simp only[Bool.and_eq_true,decide_eq_true_eq]at hn;omega
theorem qN[zg]{x t c K:Nat}{S:List UInt8}{M:Gd.Vol}{T:Nat→Gd.Tab}{F:Nat→Prop}(s:ByteArray)(L:List (List UInt8))(m:Int)(w:World)(h:zy x t S M c K w F)(hT:Gd.Tree M T)(hs:s.size≤100000)(hm:w.cell? ⟨0,0,none⟩=some (.int .i64 m))(hp:Np.pathL s.data.toList=some L):
 Calls prog 25 #[.pointer (some ⟨x,0,none⟩),.string s] w fun e w'=>e= .returned (.tuple #[.int .i64 (Gd.walkT M T L 1).1,.int .i64 (Gd.walkT M T L 1).2])∧Below w.heap.size w w':=by
 have HP:=hid (qt s L m w hs hm hp);have hok:=ZZ hp;have HW:=hid fun A cc W (hW:Below w.heap.size w W) (hS:jb W w.heap.size A L)=>Zx A L cc w.heap.size W (h.below hW) hT hS hok.1 hok.2;obtain⟨R,hR⟩:=nm (Gd.walkT M T L 1);rw[←hR]at HW⊢;clear h hT hs hm hp hok hR;go_enter func25,ntmps25;go_wp2_with fail
 refine HP.o.mono ?_;rintro e w2 ⟨A,cc,rfl,-,hS2,hb2⟩;have HW2:=hid (HW.o A cc w2 hb2 hS2);have HB2:=hid hb2;clear hS2 hb2 HP HW;go_wp2_with fail
 refine HW2.o.mono ?_;rintro e w3 ⟨rfl,hb3⟩;go_wp2;go_ret2
 exact⟨rfl,HB2.o.trans (hb3.mono HB2.o.size)⟩
theorem YV(xv:Value)(s:ByteArray)(m:Int)(w:World)(hs:s.size≤100000)(hm:w.cell? ⟨0,0,none⟩=some (.int .i64 m))(hp:Np.pathL s.data.toList=none):
 Calls prog 25 #[xv,.string s] w fun e w'=>e= .returned (.tuple #[.int .i64 0,.int .i64 15])∧Below w.heap.size w w':=by
 have HP:=hid (xI s m w hs hm hp);clear hs hm hp;go_enter func25,ntmps25;go_wp2_with fail
 refine HP.o.mono ?_;rintro e w2 ⟨rfl,hb2⟩;go_wp2;go_ret2
 exact⟨rfl,hb2⟩
theorem uJ(xv:Value)(s:ByteArray)(m:Int)(w:World)(hs:s.size≤100000)(hm:w.cell? ⟨0,0,none⟩=some (.int .i64 m))(hp:Np.pathL s.data.toList=none∨Np.pathL s.data.toList=some []):
 Calls prog 89 #[xv,.string s] w fun e w'=>e= .returned (.tuple #[.int .i64 0,.string ⟨#[]⟩,.int .i64 15])∧Below w.heap.size w w':=by
 have HP:=hid (Xo s m w hs hm hp);clear hs hm hp;go_enter func89,ntmps89;go_wp2_with fail
 refine HP.o.mono ?_;rintro e w2 ⟨rfl,hb2⟩;go_wp2;go_ret3
 exact⟨rfl,hb2⟩
namespace Gd
def placeP(M:Vol)(T:Nat→Tab)(L:List (List UInt8))(s:List UInt8):Nat×List UInt8×Nat:=
 if(walkT M T L 1).2≠0 then(0,[],(walkT M T L 1).2)
 else if(M.ino (walkT M T L 1).1).k=2 then((walkT M T L 1).1,s,0)else(0,[],12)
theorem walkT_in{M:Vol}{T:Nat→Tab}(hT:Tree M T):∀(L:List (List UInt8)) (d:Nat),1≤d→d≤32→(walkT M T L d).2=0→1≤(walkT M T L d).1∧(walkT M T L d).1≤32
 |[],d,h1,h2,_=>⟨h1,h2⟩
 |s::r,d,h1,h2,h=>by
  unfold walkT at h⊢;by_cases hk:(M.ino d).k=2
  ·rw[if_pos hk]at h⊢
   cases hf:findT (T d) s (hN s)with
   |none=>
    rw[hf]at h
    cases h
   |some j=>
    rw[hf]at h;have hfe:=find_ent hT h1 h2 hk hf;exact walkT_in hT r _ hfe.1 hfe.2.1 h
  ·rw[if_neg hk]at h
   cases h
end Gd
theorem qY[zg]{x t c K:Nat}{S:List UInt8}{M:Gd.Vol}{T:Nat→Gd.Tab}{F:Nat→Prop}(s:ByteArray)(L:List (List UInt8))(n:List UInt8)(m:Int)(w:World)(h:zy x t S M c K w F)(hT:Gd.Tree M T)(hs:s.size≤100000)(hm:w.cell? ⟨0,0,none⟩=some (.int .i64 m))(hp:Np.pathL s.data.toList=some (L++[n])):
 Calls prog 89 #[.pointer (some ⟨x,0,none⟩),.string s] w fun e w'=>e= .returned (.tuple #[.int .i64 (Gd.placeP M T L n).1,.string ⟨(Gd.placeP M T L n).2.1.toArray⟩,.int .i64 (Gd.placeP M T L n).2.2])∧Below w.heap.size w w':=by
 have HP:=hid (JV s L n m w hs hm hp);have hok:=ZZ hp;have HW:=hid fun A W (hW:Below w.heap.size w W) (hS:jb W w.heap.size A L)=>Zx A L L.length w.heap.size W (h.below hW) hT hS (fun y hy=>hok.1 y (List.mem_append_left _ hy)) (by have:=hok.2;rw[List.length_append]at this;omega);have hin:=Gd.walkT_in hT L 1 (by omega) (by omega);have hTd:=fun W (hW:Below w.heap.size w W) d h1 h2 hk=>jw W (h.below hW) (hT.dir d h1 h2 hk);have hTn:=fun W (hW:Below w.heap.size w W) d h1 h2 hk=>qV (d:=d) W (h.below hW) h1 h2 hk;have hTl:=fun d h1 h2 hk=>(hT.dir d h1 h2 hk).ok.len;obtain⟨R,hR⟩:=nm (Gd.placeP M T L n);rw[←hR];unfold Gd.placeP at hR;obtain⟨d,hd⟩:=nm ((Gd.walkT M T L 1).1);obtain⟨e0,he⟩:=nm ((Gd.walkT M T L 1).2);rw[←hd,←he]at HW hR hin;have HR:=hid hR;have Hin:=hid hin;have HTd:=hid hTd;have HTn:=hid hTn;have HTl:=hid hTl;clear h hT hs hm hp hok hR hd he hin hTd hTn hTl
 go_enter func89,ntmps89;go_upto_region 1 with fail
 go_wp2_with fail
 refine HP.o.mono ?_;rintro e w2 ⟨A,rfl,hS2,hb2⟩;have HW2:=hid (HW.o A w2 hb2 hS2);have HB2:=hid hb2;clear hS2 hb2 HP HW;go_wp2_with fail
 refine HW2.o.mono ?_;rintro e w3 ⟨rfl,hb3⟩;have HB3:=HB2.t hb3;clear hb3 HW2;by_cases h0:e0=0
 ·subst h0;obtain⟨hd1,hd2⟩:=Hin.o rfl;have hR:=HR.o;rw[if_neg (by omega)]at hR;by_cases hk:(M.ino d).k=2
  ·rw[if_pos hk]at hR;have HR2:=hid hR;have HTb:=hid (HTd.o w3 HB3.o d hd1 hd2 hk);have HTs:=hid (zF (HTl.o d hd1 hd2 hk));obtain⟨D,hDe⟩:=nm (T d);rw[←hDe]at HTb HTs;unfold zW at HTb;clear hd1 hd2 hR hk hDe HTd HTn HTl Hin HR;go_upto_region 8 with(first|(go_at_call 28;refine HTb.o.mono ?_;rintro e w4 ⟨rfl,hb4⟩;have HB4:=HB3.t hb4;clear hb4)|(rw[←qh];refine wpList_store_mid rfl 77 _ _ rfl w4.heap.size 0 (zk D) rfl rfl (zd (heap_alloc_new _ _) (by rw[zn,HTs.o])) (by rw[HTs.o];exact sizeTab) (zQ _) ?_;obtain⟨hbw,hbg⟩:=zi w4 (zk Gd.noTab) 77 (zk D).toList (by rw[zn,Array.length_toList,HTs.o]);generalize (World.setCells _ _ _ _)=w5 at hbw hbg⊢;have HB5:=HB4.t hbw;clear hbw hbg))
   go_wp2;go_ret3
   refine⟨?_,HB5.o⟩;rw[HR2.o];rfl
  ·rw[if_neg hk]at hR;have HR2:=hid hR;have HTb:=hid (HTn.o w3 HB3.o d hd1 hd2 hk);unfold zW at HTb;clear hd1 hd2 hR hk HTd HTn HTl Hin HR;go_upto_region 8 with(first|(go_at_call 28;refine HTb.o.mono ?_;rintro e w4 ⟨rfl,hb4⟩;have HB4:=HB3.t hb4;clear hb4)|(rw[←qh];refine wpList_store_mid rfl 77 _ _ rfl w4.heap.size 0 (zk Gd.noTab) rfl rfl (zd (heap_alloc_new _ _) zn) (by rw[zn];exact sizeTab) (zQ _) ?_;obtain⟨hbw,hbg⟩:=zi w4 (zk Gd.noTab) 77 (zk Gd.noTab).toList (by rw[Array.length_toList]);generalize (World.setCells _ _ _ _)=w5 at hbw hbg⊢;have HB5:=HB4.t hbw;clear hbw hbg))
   go_wp2;go_ret3
   refine⟨?_,HB5.o⟩;rw[HR2.o];rfl
 ·have hR:=HR.o;rw[if_pos h0]at hR;have HR2:=hid hR;have hne:¬(e0:Int)=0:=by omega
  clear hR h0 HTd HTn HTl Hin HR;go_wp2;go_ret3
  refine⟨?_,HB3.o⟩;rw[HR2.o];rfl
end
section
open Go.Shelf
attribute [local go_sem] Oper.semAt_some
theorem QL[zg]{x t c K:Nat}{S:List UInt8}{M:Gd.Vol}{F:Nat→Prop}(f:Nat)(w:World)(h:zy x t S M c K w F)(h1:1≤f)(h2:f≤32)(hk:(M.ino f).k=0)(hl:∀i,1≤i→i<f→(M.ino i).k≠0):
 Calls prog 141 #[.pointer (some ⟨x,0,none⟩)] w fun e w'=>e= .returned (.tuple #[.int .i64 f,.int .i64 0])∧Below w.heap.size w w':=by
 have H:=hid h;have HK:=hid hk;have HL:=hid hl;clear h hk hl;go_enter func141,ntmps141;go_upto_region 2 with fail
 go_loopw[7] (fun z wr=>∃i:Nat,z= .int .i64 i∧i+1≤f∧Hid (Below w.heap.size w wr)) (fun z _=>32-(intOf z).toNat)
 case atStart=>exact⟨0,rfl,by omega,hid (Below.refl _ _)⟩
 case round=>
  obtain⟨i,rfl,hi,HB⟩:=hrel;have hi1:(i:Int)<32:=by omega
  have hi0:(0:Int)≤i:=by omega
  have HIn:=hid (zZ ((i:Int)+1) wr (H.o.below HB.o) (by omega) (by omega));have HS:Hid ((zf (M.ino (i+1))).size=15):=hid (by
   obtain⟨P,h3,h4⟩:=H.o;exact jO h4 (by omega) (by omega))
  rw[show((i:Int)+1).toNat=i+1 by omega]at HIn;obtain⟨y,hy⟩:=nm (M.ino (i+1));rw[←hy]at HIn HS;have Hy:=hid hy;unfold zv at HIn;clear hy;go_upto_region 5 with(first|(go_at_call 17;refine HIn.o.mono ?_;rintro e w2 ⟨rfl,hb2⟩;have HB2:=HB.t hb2;clear hb2)|(rw[←zA];refine wpList_store_mid rfl 48 _ _ rfl w2.heap.size 0 (zf y) rfl rfl (zd (heap_alloc_new _ _) (by rw[zc,HS.o])) (by rw[HS.o];exact sizeIno) (zr _) ?_;obtain⟨hbw,hbg⟩:=zi w2 zU 48 (zf y).toList (by rw[zc,Array.length_toList,HS.o]);generalize (World.setCells _ _ _ _)=w3 at hbw hbg⊢;have HN3:Hid (w3.heap[w2.heap.size]? =some (.cells (zf y) 48 (0,0))):=hid hbg;have HB3:=HB2.t hbw;clear hbw hbg))
  have n0:w3.cell? ⟨w2.heap.size,0,none⟩=some (.int .i64 y.k):=(cell_of_row w3 w2.heap.size 0 _ _ _ HN3.o).trans (jR rfl);by_cases he:i+1=f
  ·have hk0:y.k=0:=by rw[Hy.o,he];exact HK.o
   rw[hk0]at n0;have Hfi:Hid ((f:Int)=i+1):=hid (by omega);clear he hk0;go_wp2;go_ret2
   exact⟨by rw[Hfi.o];rfl,HB3.o⟩
  ·have hk0:y.k≠0:=by rw[Hy.o];exact HL.o (i+1) (by omega) (by omega)
   obtain⟨k,hkk⟩:=nm y.k;rw[←hkk]at n0 hk0;have hi2:i+1+1≤f:=by omega
   clear he hkk hi;go_wp2;go_roundw
   case rel=>exact⟨i+1,by go_num,by omega,HB3⟩
   case measure=>simp[intOf];omega
namespace Gd
def Ino.setB(x:Ino)(k:Nat)(n:Int):Ino:={x with B:=x.B.set k n}
def Ino.setS(x:Ino)(n:Int):Ino:={x with s:=n}
def Ino.setO(x:Ino)(k:Nat)(n:Int):Ino:={x with O:=x.O.set k n}
def Ino.setL(x:Ino)(n:Int):Ino:={x with l:=n}
theorem Ino.setB_shape{x:Ino}(h:x.Shape)(k:Nat)(n:Int):(x.setB k n).Shape:=⟨by show(x.B.set k n).length=4;rw[List.length_set];exact h.1,h.2⟩
theorem Ino.setS_shape{x:Ino}(h:x.Shape)(n:Int):(x.setS n).Shape:=⟨h.1,h.2⟩
theorem Ino.setO_shape{x:Ino}(h:x.Shape)(k:Nat)(n:Int):(x.setO k n).Shape:=⟨h.1,by show(x.O.set k n).length=8;rw[List.length_set];exact h.2⟩
theorem Ino.setL_shape{x:Ino}(h:x.Shape)(n:Int):(x.setL n).Shape:=⟨h.1,h.2⟩
end Gd
theorem jz{x y:Gd.Ino}{j:Nat}{n:Int}(h:jd y=(jd x).set j n):(zf x).setIfInBounds j (.int .i64 n)=zf y:=by
 rw[←Array.toList_inj,Array.toList_setIfInBounds];show((jd x).map _).set j _=(jd y).map _
 rw[h,List.map_set]
theorem zp.turn{w:World}{b:Nat}{x y:Gd.Ino}{j:Nat}{n:Int}(h:zp w b x)(hy:y.Shape)(e:jd y=(jd x).set j n):zp (w.setCell ⟨b,j,none⟩ (.int .i64 n)) b y:=
 ⟨by rw[←jz e];exact Go.heap_setCell_same w b j _ _ _ h.row,hy⟩
theorem yK(x:Gd.Ino)(n:Int):jd (x.setS n)=(jd x).set 2 n:=rfl
theorem uM(x:Gd.Ino)(n:Int):jd (x.setL n)=(jd x).set 1 n:=rfl
theorem uN{x:Gd.Ino}(h:x.Shape){k:Nat}(hk:k<4)(n:Int):jd (x.setB k n)=(jd x).set (3+k) n:=by
 show x.k::x.l::x.s::(x.B.set k n++x.O)=_
 unfold jd;rw[show 3+k=k+3 by omega,List.set_cons_succ,List.set_cons_succ,List.set_cons_succ,List.set_append_left _ _ (by rw[h.1];exact hk)]
theorem qQ{x:Gd.Ino}(h:x.Shape){k:Nat}(hk:k<8)(n:Int):jd (x.setO k n)=(jd x).set (7+k) n:=by
 show x.k::x.l::x.s::(x.B++x.O.set k n)=_
 unfold jd;rw[show 7+k=(4+k)+3 by omega,List.set_cons_succ,List.set_cons_succ,List.set_cons_succ,List.set_append_right _ _ (by rw[h.1];omega),h.1,show 4+k-4=k by omega]
theorem zp.cB{w:World}{b:Nat}{x:Gd.Ino}(h:zp w b x){k:Nat}{n:Int}(hn:x.B[k]? =some n):w.cell? ⟨b,3+k,none⟩=some (.int .i64 n)∧w.frozen? ⟨b,3+k,none⟩=false:=
 ⟨h.blocks k _ (jy hn),frozen_of_row w b (3+k) _ _ h.row⟩
theorem zp.cO{w:World}{b:Nat}{x:Gd.Ino}(h:zp w b x){k:Nat}{n:Int}(hn:x.O[k]? =some n):w.cell? ⟨b,7+k,none⟩=some (.int .i64 n)∧w.frozen? ⟨b,7+k,none⟩=false:=
 ⟨h.opens k _ (jy hn),frozen_of_row w b (7+k) _ _ h.row⟩
theorem zp.f{w:World}{b:Nat}{x:Gd.Ino}(h:zp w b x)(k:Nat):w.frozen? ⟨b,k,none⟩=false:=frozen_of_row w b k _ _ h.row
end
section
open Go.Shelf
attribute [local go_sem] Oper.semAt_some
def Tl[zg](x t:Nat)(S:List UInt8)(M:Gd.Vol)(c K:Nat)(F:Nat→Prop)(w a:World)(Ls:List (Nat×Obj)):Prop:=
 ∃F',jB (zy x t S M c K) F w F' a∧∀p∈Ls,w.heap.size≤p.1∧¬F' p.1∧a.heap[p.1]? =some p.2
section
variable {x t c K:Nat} {S:List UInt8} {M:Gd.Vol} {F:Nat→Prop} {w a b:World} {Ls:List (Nat×Obj)}
theorem Tl.start[zg](h:zy x t S M c K w F):Tl x t S M c K F w w []:=⟨F,jB.refl h,fun p hp=>by simp at hp⟩
theorem Tl.turns[zg](h:Tl x t S M c K F w a Ls):zt x t S M c K F w a:=by
 obtain⟨F',h1,_⟩:=h;exact⟨F',h1⟩
theorem Tl.size[zg](h:Tl x t S M c K F w a Ls):w.heap.size≤a.heap.size:=by
 obtain⟨F',h1,_⟩:=h;exact h1.only.size
theorem Tl.get[zg](h:Tl x t S M c K F w a Ls){k:Nat}{o:Obj}(hk:(k,o)∈Ls):a.heap[k]? =some o:=by
 obtain⟨F',_,h2⟩:=h;exact(h2 _ hk).2.2
theorem Tl.below[zg](h:Tl x t S M c K F w a Ls)(hb:Below a.heap.size a b):Tl x t S M c K F w b Ls:=by
 obtain⟨F',h1,h2⟩:=h;refine⟨F',⟨h1.inv.below hb,h1.old,h1.only.trans (zx hb F') fun j hj e=>h1.old j hj e⟩,fun p hp=> ?_⟩;obtain⟨q1,q2,q3⟩:=h2 p hp;exact⟨q1,q2,(hb.block _ (za q3)).trans q3⟩
theorem Tl.new[zg](h:Tl x t S M c K F w a Ls)(hb:Below a.heap.size a b){k:Nat}{o:Obj}(hk:a.heap.size≤k)(ho:b.heap[k]? =some o):Tl x t S M c K F w b ((k,o)::Ls):=by
 obtain⟨F',h1,h2⟩:=h;refine⟨F',⟨h1.inv.below hb,h1.old,h1.only.trans (zx hb F') fun j hj e=>h1.old j hj e⟩,fun p hp=> ?_⟩;rcases List.mem_cons.1 hp with rfl|hp
 ·refine⟨Nat.le_trans h1.only.size hk,fun e=> ?_,ho⟩;have:=h1.inv.tight _ e
  dsimp only at this;omega
 ·obtain⟨q1,q2,q3⟩:=h2 p hp;exact⟨q1,q2,(hb.block _ (za q3)).trans q3⟩
theorem Tl.set[zg](h:Tl x t S M c K F w a Ls){k j:Nat}{C:Array Value}{ty:TypeId}{v:Value}(hk:(k,Obj.cells C ty (0,0))∈Ls)(Ls':List (Nat×Obj))(hL:∀p∈Ls',p=(k,Obj.cells (C.setIfInBounds j v) ty (0,0))∨(p∈Ls∧p.1≠k)):
 Tl x t S M c K F w (a.setCell ⟨k,j,none⟩ v) Ls':=by
 obtain⟨F',h1,h2⟩:=h;obtain⟨k1,k2,k3⟩:=h2 _ hk;dsimp only at k1 k2 k3;have hbl:Below k a (a.setCell ⟨k,j,none⟩ v):=(Below.refl k a).setCell (Nat.le_refl k) v;have hoth:∀i,i≠k→(a.setCell ⟨k,j,none⟩ v).heap[i]? =a.heap[i]? :=fun i hi=>Go.heap_setCell_other a ⟨k,j,none⟩ i v hi;have hO:zu (fun i=>i=k) a (a.setCell ⟨k,j,none⟩ v):=⟨hbl.os,hbl.tape,hbl.output,by simp,fun i _ hi=>hoth i hi⟩;refine⟨F',⟨h1.inv.keep hO.size fun i hi hF=>hoth i (fun e=>k2 (e▸hF)),h1.old,?_⟩,fun p hp=> ?_⟩
 ·refine⟨hO.os.trans h1.only.os,hO.tape.trans h1.only.tape,hO.output.trans h1.only.output,Nat.le_trans h1.only.size hO.size,fun i hi hF=> ?_⟩;exact(hoth i (by omega)).trans (h1.only.block i hi hF)
 ·rcases hL p hp with rfl|⟨hp,hne⟩
  ·exact⟨k1,k2,Go.heap_setCell_same a k j _ _ _ k3⟩
  ·obtain⟨q1,q2,q3⟩:=h2 p hp;exact⟨q1,q2,(hoth _ hne).trans q3⟩
end
theorem Tl.next[zg]{x t c d K:Nat}{S:List UInt8}{M N:Gd.Vol}{F F1:Nat→Prop}{w a b:World}{Ls:List (Nat×Obj)}(h1:jB (zy x t S M c K) F w F1 a)(h2:∀p∈Ls,w.heap.size≤p.1∧¬F1 p.1∧a.heap[p.1]? =some p.2)(ht:zt x t S N d K F1 a b):Tl x t S N d K F w b Ls:=by
 obtain⟨F2,s⟩:=ht;refine⟨F2,h1.trans s,fun p hp=> ?_⟩;obtain⟨q1,q2,q3⟩:=h2 p hp;obtain⟨o1,o2⟩:=s.own (za q3) q2;exact⟨q1,o2,o1.trans q3⟩
end
end Go.Proofs.YtjlpkbhgphjpeaaGreatDoor
