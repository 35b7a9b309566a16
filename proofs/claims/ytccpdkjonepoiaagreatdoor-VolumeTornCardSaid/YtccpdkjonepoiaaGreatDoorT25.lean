/- Walks: files: Set, where it is refused. -/
import Derived.Test.YtccpdkjonepoiaaGreatDoorT24
import Derived.MapKept
set_option linter.unusedVariables false
set_option linter.unusedSimpArgs false
set_option linter.unusedSectionVars false
set_option maxHeartbeats 8000000
set_option maxRecDepth 100000
namespace Go.Proofs.YtccpdkjonepoiaaGreatDoor
open Go.RowKit
open Lib(hid)
open Go.Proofs.Tryz
section
open Go.Shelf
attribute [local go_sem] Oper.semAt_some
end
section
open Go.Shelf
attribute [local go_sem] Oper.semAt_some
theorem XH(f:Nat)(call inode:Int)(tr:Bool)(off:Int)(d s:ByteArray)(spare E:Int)(w:World)(hd:d.size≤80)(hm:Fp.mayB call inode tr off d.data.toList=true)(hE:E≠0)
 (hB:Ret w 41 #[.pointer (some ⟨f,0,none⟩),.int .i64 inode] (.tuple #[.string s,.int .i64 E])):
 Calls prog 78 #[.pointer (some ⟨f,0,none⟩),Fl.recV call inode tr off d,.int .i64 spare] w fun e w'=>e= .returned (.int .i64 E)∧Below w.heap.size w w':=by
 have HM:=hid fun W=>Fl.may_any call inode tr off d W (by omega);rw[hm]at HM;have HB:=hid hB;unfold Fl.recV at*;obtain⟨hb0,hr0⟩:=zM w #[.int .i64 call,.int .i64 inode,.bool tr,.int .i64 off,.string d] 57;obtain⟨rb,hrb⟩:=nm w.heap.size;obtain⟨w0,hw0⟩:=nm (w.alloc (.cells #[.int .i64 call,.int .i64 inode,.bool tr,.int .i64 off,.string d] 57));rw[←hw0,←hrb]at hr0;rw[←hw0]at hb0;have HR0:=hid hr0;have HB0:=hid hb0;have HW0:=hid hw0.symm;have Hrb:=hid hrb.symm;have r0:=cell_of_row w0 rb 0 _ _ _ hr0;have r1:=cell_of_row w0 rb 1 _ _ _ hr0;have r2:=cell_of_row w0 rb 2 _ _ _ hr0;have r3:=cell_of_row w0 rb 3 _ _ _ hr0;have r4:=cell_of_row w0 rb 4 _ _ _ hr0;clear hm hd hB hb0 hr0 hrb hw0;go_enter func78,ntmps78;go_upto_region 1 with fail
 rw[HW0.o,Hrb.o];go_wp2_with fail
 refine(HM.o _).mono ?_
 rintro e w2 ⟨rfl,hb2⟩;have HB2:=HB0.t hb2;have q1:w2.cell? ⟨rb,1,none⟩=some (.int .i64 inode):=(hb2.cell (p:=⟨rb,1,none⟩) (za HR0.o)).trans r1;have HBc:=hid (HB.o w2 HB2.o);clear hb2 r0 r1 r2 r3 r4;go_wp2_with fail
 refine HBc.o.mono ?_;rintro e w3 ⟨rfl,hb3⟩;have HB3:=HB2.t hb3;clear hb3 q1;go_wp2;go_ret
 exact⟨rfl,HB3.o⟩
theorem YY(f:Nat)(call inode:Int)(tr:Bool)(off:Int)(d s out:ByteArray)(spare:Int)(w:World)(Q:Int→World→Prop)(hd:d.size≤80)(hs:s.size≤300)(hm:Fp.mayB call inode tr off d.data.toList=true)(hc:Fp.chg s.data.toList call inode tr off d.data.toList=(out.data.toList,0))
 (hB:Ret w 41 #[.pointer (some ⟨f,0,none⟩),.int .i64 inode] (.tuple #[.string s,.int .i64 0]))
 (hS:∀W,Below w.heap.size w W→Calls prog 123 #[.pointer (some ⟨f,0,none⟩),.int .i64 inode,.string out,.int .i64 spare] W fun e w'=>∃r:Int,e= .returned (.int .i64 r)∧Q r w'):
 Calls prog 78 #[.pointer (some ⟨f,0,none⟩),Fl.recV call inode tr off d,.int .i64 spare] w fun e w'=>∃r:Int,e= .returned (.int .i64 r)∧Q r w':=by
 have HM:=hid fun W=>Fl.may_any call inode tr off d W (by omega);rw[hm]at HM;have HC:=hid fun W=>Fl.change_any s call inode tr off d W hs hd;rw[hc]at HC;unfold Fl.chgV at HC;rw[show(⟨((out.data.toList,(0:Int)).1).toArray⟩:ByteArray)=out from vr out]at HC;dsimp only at HC;have HB:=hid hB;have HS:=hid hS;unfold Fl.recV at*;obtain⟨hb0,hr0⟩:=zM w #[.int .i64 call,.int .i64 inode,.bool tr,.int .i64 off,.string d] 57;obtain⟨rb,hrb⟩:=nm w.heap.size;obtain⟨w0,hw0⟩:=nm (w.alloc (.cells #[.int .i64 call,.int .i64 inode,.bool tr,.int .i64 off,.string d] 57));rw[←hw0,←hrb]at hr0;rw[←hw0]at hb0;have HR0:=hid hr0;have HB0:=hid hb0;have HW0:=hid hw0.symm;have Hrb:=hid hrb.symm
 have HCl:Hid (∀W:World,W.heap[rb]? =some (.cells #[.int .i64 call,.int .i64 inode,.bool tr,.int .i64 off,.string d] 57 (0,0))→W.cell? ⟨rb,0,none⟩=some (.int .i64 call)∧W.cell? ⟨rb,1,none⟩=some (.int .i64 inode)∧W.cell? ⟨rb,2,none⟩=some (.bool tr)∧W.cell? ⟨rb,3,none⟩=some (.int .i64 off)∧W.cell? ⟨rb,4,none⟩=some (.string d)):=hid fun W h=>⟨cell_of_row W rb 0 _ _ _ h,cell_of_row W rb 1 _ _ _ h,cell_of_row W rb 2 _ _ _ h,cell_of_row W rb 3 _ _ _ h,cell_of_row W rb 4 _ _ _ h⟩;obtain⟨r0,r1,r2,r3,r4⟩:=HCl.o _ hr0;clear hm hd hs hc hB hS hb0 hr0 hrb hw0;go_enter func78,ntmps78;go_upto_region 1 with fail
 rw[HW0.o,Hrb.o];go_wp2_with fail
 refine(HM.o _).mono ?_
 rintro e w2 ⟨rfl,hb2⟩;have HB2:=HB0.t hb2;have HR2:=hid ((hb2.block rb (za HR0.o)).trans HR0.o);have HBc:=hid (HB.o w2 HB2.o);clear hb2 r0 r1 r2 r3 r4;obtain⟨r0,r1,r2,r3,r4⟩:=HCl.o _ HR2.o;go_wp2_with fail
 refine HBc.o.mono ?_;rintro e w3 ⟨rfl,hb3⟩;have HB3:=HB2.t hb3;have HR3:=hid ((hb3.block rb (za HR2.o)).trans HR2.o);clear hb3 r0 r1 r2 r3 r4;obtain⟨r0,r1,r2,r3,r4⟩:=HCl.o _ HR3.o;go_wp2_with fail
 refine(HC.o _).mono ?_
 rintro e w4 ⟨rfl,hb4⟩;have HB4:=HB3.t hb4;have HR4:=hid ((hb4.block rb (za HR3.o)).trans HR3.o);have HSc:=hid (HS.o w4 HB4.o);clear hb4 r0 r1 r2 r3 r4;obtain⟨r0,r1,r2,r3,r4⟩:=HCl.o _ HR4.o;go_wp2_with fail
 refine HSc.o.mono ?_;rintro e w5 ⟨r,rfl,hq⟩;go_wp2;go_ret
 exact⟨r,rfl,hq⟩
end
section
namespace Gd
def nz(B:List Int):Nat:=(B.map fun n=>if n=0 then 0 else 1).sum
theorem nz_set{B:List Int}{k:Nat}{b n:Int}(h:B[k]? =some b):nz (B.set k n)+(if b=0 then 0 else 1)=nz B+if n=0 then 0 else 1:=by
 unfold nz;rw[List.map_set];exact sum_set (by rw[List.getElem?_map,h];rfl)
theorem nz_of{B:List Int}(hl:B.length=4){k:Nat}(hk:k≤4)(h1:∀j,j<k→∃n:Nat,B[j]? =some (n:Int)∧1≤n)(h0:∀j,k≤j→j<4→B[j]? =some 0):nz B=k:=by
 have hv:∀j b,B[j]? =some b→j<4→(if b=0 then 0 else 1)=if j<k then 1 else 0:=fun j b e hj=>by
  by_cases hjk:j<k
  ·obtain⟨n,e1,n1⟩:=h1 j hjk;rw[e1]at e;have:=Option.some.inj e
   rw[if_pos hjk,if_neg (by omega)]
  ·have e1:=h0 j (by omega) hj;rw[e1]at e;rw[if_neg hjk,if_pos (Option.some.inj e).symm]
 match B,hl with
 |[a,b,c,d],_=>
  have ha:=hv 0 a rfl (by omega);have hb:=hv 1 b rfl (by omega);have hc:=hv 2 c rfl (by omega);have hd:=hv 3 d rfl (by omega);unfold nz;simp only[List.map_cons,List.map_nil,List.sum_cons,List.sum_nil];rw[ha,hb,hc,hd];rcases(by omega:k=0∨k=1∨k=2∨k=3∨k=4)with rfl|rfl|rfl|rfl|rfl<;>rfl
def needN(l:Nat):Nat:=(l+63)/64
def allL(s:List UInt8):List UInt8:=Fp.sizedL s (needN s.length*64)
structure Has(M:Vol)(B:List Int)(s:List UInt8):Prop where
 len:B.length=4
 few:s.length≤256
 blk:∀k,k<needN s.length→∃n:Nat,B[k]? =some (n:Int)∧1≤n∧n≤128∧M.blk n=part64 (allL s) k
 non:∀k,needN s.length≤k→k<4→B[k]? =some 0
theorem Has.need{M:Vol}{B:List Int}{s:List UInt8}(h:Has M B s):needN s.length≤4:=by
 have:=h.few
 unfold needN;omega
theorem Has.nz{M:Vol}{B:List Int}{s:List UInt8}(h:Has M B s):nz B=needN s.length:=
 nz_of h.len h.need (fun j hj=>by
  obtain⟨n,e,n1,_⟩:=h.blk j hj;exact⟨n,e,n1⟩) h.non
theorem Has.at{M:Vol}{B:List Int}{s:List UInt8}(h:Has M B s){k:Nat}{b:Int}(hb:B[k]? =some b):∃n:Nat,b=n∧n≤128∧(n=0↔needN s.length≤k):=by
 have hk:k<4:=by
  have:=(List.getElem?_eq_some_iff.1 hb).1
  rw[h.len]at this;exact this
 by_cases hj:k<needN s.length
 ·obtain⟨n,e,n1,n2,_⟩:=h.blk k hj;rw[e]at hb;exact⟨n,(Option.some.inj hb).symm,n2,by omega⟩
 ·have e:=h.non k (by omega) hk;rw[e]at hb;exact⟨0,(Option.some.inj hb).symm,by omega,by omega⟩
theorem Has.rng{M:Vol}{B:List Int}{s:List UInt8}(h:Has M B s):∀n∈B,0≤n∧n≤128:=fun b hb=>by
 obtain⟨k,hk⟩:=List.getElem?_of_mem hb;obtain⟨n,rfl,n2,_⟩:=h.at hk;omega
theorem allL_length(s:List UInt8):(allL s).length=needN s.length*64:=Fp.sizedL_length _ _
theorem allL_take(s:List UInt8):(allL s).take s.length=s:=by
 unfold allL Fp.sizedL;split
 ·rename_i h
  have:needN s.length*64=s.length:=by
   unfold needN at h⊢;omega
  rw[this,List.take_length,List.take_length]
 ·rw[List.take_left' rfl]
theorem Has.cat_take{M:Vol}{B:List Int}{s:List UInt8}(h:Has M B s):∀k,k≤4→catB M (B.take k)=(allL s).take (64*k)
 |0,_=>by simp[catB]
 |k+1,hk=>by
  have hl:=h.len;obtain⟨b,hb⟩:∃b,B[k]? =some b:=⟨_,List.getElem?_eq_getElem (by omega)⟩;rw[catB_step M hb,h.cat_take k (by omega)];by_cases hj:k<needN s.length
  ·obtain⟨n,e,n1,n2,hm⟩:=h.blk k hj;rw[hb]at e;have:=Option.some.inj e
   subst this;rw[if_pos (by omega),Int.toNat_natCast,hm,show 64*(k+1)=64*k+64 by omega,List.take_add];rfl
  ·have e:=h.non k (by omega) (by omega);rw[hb]at e;have:=Option.some.inj e
   subst this;have hal:=allL_length s;rw[if_neg (by omega),List.append_nil,List.take_of_length_le (by omega),List.take_of_length_le (by omega)]
theorem Has.cat{M:Vol}{B:List Int}{s:List UInt8}(h:Has M B s):catB M B=allL s:=by
 have h1:=h.cat_take 4 (by omega);have h2:=h.need;have h3:=allL_length s;rw[List.take_of_length_le (by rw[h.len];omega),List.take_of_length_le (by omega)]at h1;exact h1
def filI(s:List UInt8)(B:List Int):Ino:=⟨1,1,s.length,B,[1,0,0,0,0,0,0,0]⟩
def IsFile(M:Vol)(i:Nat)(s:List UInt8):Prop:=∃B,M.ino i=filI s B∧Has M B s
structure Fils(M:Vol)(s:Nat→List UInt8):Prop where
 sound:Sound M
 root:M.ino 1=rootN 3 [2,0,0,1]
 files:∀i,2≤i→i≤5→IsFile M i (s i)
 rest:∀i,6≤i→M.ino i=noIno
 count:countB M.map=2+needN (s 2).length+needN (s 3).length+needN (s 4).length+needN (s 5).length
structure Qs(M:Vol)(i:Nat)(y:Ino)(s0 all:List UInt8)(need:Nat)(spare:Int)(k:Nat)(N:Vol)(B:List Int):Prop where
 ino:N.ino=M.ino
 sound:Sound (N.setIno i (y.setBs B))
 len:B.length=4
 done:∀j,j<k→j<need→∃n:Nat,B[j]? =some (n:Int)∧1≤n∧n≤128∧N.blk n=part64 all j
 gone:∀j,j<k→need≤j→j<4→B[j]? =some 0
 todo:∀j,k≤j→B[j]? =y.B[j]?
 oth:∀i' k' n:Nat,1≤i'→i'≤32→i'≠i→(M.ino i').B[k']? =some (n:Int)→n≠0→N.blk n=M.blk n
 cnt:countB N.map+nz y.B=countB M.map+nz B
 room:nz y.B<min k need→max 0 spare+(min k need:Nat)+countB M.map≤128+nz y.B
section
variable {M:Vol} {i:Nat} {y:Ino} {s0 all:List UInt8} {need:Nat} {spare:Int} {k:Nat} {N:Vol} {B:List Int}
theorem Qs.start(hi:M.ino i=y)(hs:Sound M)(hy:Has M y.B s0):Qs M i y s0 all need spare 0 M y.B:=by
 refine⟨rfl,hs.same rfl fun j _ _=> ?_,hy.len,fun j h=>by omega,fun j h=>by omega,fun _ _=>rfl,fun _ _ _ _ _ _ _ _=>rfl,rfl,fun h=>by omega⟩;show(if j=i then y.setBs y.B else M.ino j).B=_
 split
 ·rename_i e
  rw[e,hi];rfl
 ·rfl
theorem Qs.ownI(_:Qs M i y s0 all need spare k N B):((N.setIno i (y.setBs B)).ino i).B=B:=by
 show(if i=i then y.setBs B else N.ino i).B=_
 rw[if_pos rfl];rfl
theorem Qs.othI(h:Qs M i y s0 all need spare k N B){j:Nat}(hj:j≠i)(N2:Vol)(B2:List Int)(h2:N2.ino=N.ino):(N2.setIno i (y.setBs B2)).ino j=M.ino j:=by
 show(if j=i then y.setBs B2 else N2.ino j)=_
 rw[if_neg hj,h2,h.ino]
theorem Qs.used(h:Qs M i y s0 all need spare k N B)(i1:1≤i)(i2:i≤32){j n:Nat}(hj:B[j]? =some (n:Int))(n1:1≤n)(n2:n≤128):usedB N.map n=true:=
 (h.sound.used n n1 n2).2 ⟨i,j,i1,i2,by rw[h.ownI];exact hj⟩
theorem Qs.usedO(h:Qs M i y s0 all need spare k N B){i' j n:Nat}(i1:1≤i')(i2:i'≤32)(hne:i'≠i)(hj:(M.ino i').B[j]? =some (n:Int))(n1:1≤n)(n2:n≤128):usedB N.map n=true:=
 (h.sound.used n n1 n2).2 ⟨i',j,i1,i2,by rw[h.othI hne N B rfl];exact hj⟩
theorem Qs.step(h:Qs M i y s0 all need spare k N B){N2:Vol}{B2:List Int}{b:Int}(hk:k<4)(hi2:N2.ino=N.ino)(hs:Sound (N2.setIno i (y.setBs B2)))(hb:B2=B.set k b)
 (hd:k<need→∃n:Nat,b=n∧1≤n∧n≤128∧N2.blk n=part64 all k)(hg:need≤k→b=0)(hbl:∀j,j<k→j<need→∀n:Nat,B[j]? =some (n:Int)→1≤n→n≤128→N2.blk n=N.blk n)
 (ho:∀i' k' n:Nat,1≤i'→i'≤32→i'≠i→(M.ino i').B[k']? =some (n:Int)→n≠0→N2.blk n=N.blk n)
 (hc:countB N2.map+nz y.B=countB M.map+nz B2)(hr:k<need→nz y.B<k+1→max 0 spare+(k+1:Nat)+countB M.map≤128+nz y.B):Qs M i y s0 all need spare (k+1) N2 B2:=by
 have hl:=h.len;refine⟨hi2.trans h.ino,hs,by rw[hb,List.length_set];exact hl,fun j hj hn=> ?_,fun j hj hn h4=> ?_,fun j hj=> ?_,fun i' k' n a1 a2 a3 a4 a5=>(ho i' k' n a1 a2 a3 a4 a5).trans (h.oth i' k' n a1 a2 a3 a4 a5),hc,fun hlt=> ?_⟩
 ·by_cases e:j=k
  ·subst e;obtain⟨n,hn1,n1,n2,hbk⟩:=hd hn;exact⟨n,by rw[hb,List.getElem?_set_self (by omega),hn1],n1,n2,hbk⟩
  ·obtain⟨n,e1,n1,n2,e2⟩:=h.done j (by omega) hn;exact⟨n,by rw[hb,List.getElem?_set_ne (fun x=>e x.symm)];exact e1,n1,n2,(hbl j (by omega) hn n e1 n1 n2).trans e2⟩
 ·by_cases e:j=k
  ·subst e;rw[hb,List.getElem?_set_self (by omega),hg hn]
  ·rw[hb,List.getElem?_set_ne (fun x=>e x.symm)];exact h.gone j (by omega) hn h4
 ·rw[hb,List.getElem?_set_ne (by omega)];exact h.todo j (by omega)
 ·by_cases e:k<need
  ·have e1:min (k+1) need=k+1:=by omega
   rw[e1]at hlt⊢;exact hr e hlt
  ·have e1:min (k+1) need=min k need:=by omega
   rw[e1]at hlt⊢;exact h.room hlt
theorem Qs.last(h:Qs M i y s0 all need spare k N B)(hy:Has M y.B s0)(hn:need≤k)(hk:k<4)(h0:B[k]? =some 0):Qs M i y s0 all need spare 4 N B:=by
 have hz:needN s0.length≤k:=by
  obtain⟨n,e,_,e2⟩:=hy.at (k:=k) (b:=0) (by rw[←h.todo k (Nat.le_refl _)];exact h0);exact e2.1 (by omega)
 refine⟨h.ino,h.sound,h.len,fun j _ hj=>h.done j (by omega) hj,fun j _ hj h4=> ?_,fun j hj=> ?_,h.oth,h.cnt,fun hlt=> ?_⟩
 ·by_cases e:j<k
  ·exact h.gone j e hj h4
  ·rw[h.todo j (by omega)];exact hy.non j (by omega) h4
 ·have h1:=h.len;have h2:=hy.len;rw[List.getElem?_eq_none (by omega),List.getElem?_eq_none (by omega)]
 ·have h1:=hy.need;have e1:min 4 need=min k need:=by omega
  rw[e1]at hlt⊢;exact h.room hlt
theorem setK_any(i1:1≤i)(i2:i≤32)(hy:Has M y.B s0)(hO:∀i' k':Nat,∀b:Int,1≤i'→i'≤32→(M.ino i').B[k']? =some b→0≤b∧b≤128)(hn4:need≤4):∀(fu k:Nat) (N:Vol) (B:List Int),k+fu=4→Qs M i y s0 all need spare k N B→
 (match setK all need spare fu k N B with
 |none=>needN s0.length<need∧128+needN s0.length<max 0 spare+need+countB M.map
 |some p=>Qs M i y s0 all need spare 4 p.1 p.2)
 |0,k,N,B,hk,h=>by
  obtain rfl:k=4:=by omega
  exact h
 |fu+1,k,N,B,hk,h=>by
  have hl:=h.len;obtain⟨b,hb⟩:∃b,B[k]? =some b:=⟨_,List.getElem?_eq_getElem (by omega)⟩;have hbg:B.getD k 0=b:=by rw[List.getD_eq_getElem?_getD,hb];rfl
  obtain⟨n,rfl,n2,n0⟩:=hy.at (k:=k) (b:=b) (by rw[←h.todo k (Nat.le_refl _)];exact hb);have hml:N.map.length=16:=h.sound.mapl;unfold setK;rw[hbg];by_cases e1:need≤k
  ·rw[if_pos e1];by_cases e2:(n:Int)=0
   ·rw[if_pos e2];exact h.last hy e1 (by omega) (by rw[hb,e2])
   ·rw[if_neg e2];have n1:1≤n:=by omega
    have hu:usedB N.map n=true:=h.used i1 i2 hb n1 n2;have hg:giveI N.map n=giveB N.map n:=by
     unfold giveI isBlk;rw[if_pos (by simp;omega),Int.toNat_natCast]
    rw[hg];refine setK_any i1 i2 hy hO hn4 fu (k+1) _ _ (by omega) (h.step (b:=0) (by omega) rfl ?_ rfl (fun e=>by omega) (fun _=>rfl) (fun _ _ _ _ _ _ _=>rfl) (fun _ _ _ _ _ _ _ _=>rfl) ?_ (fun e=>by omega))
    ·refine h.sound.give (d:=i) (k:=k) (n:=n) i1 i2 (by rw[h.ownI];exact hb) n1 n2 rfl ?_ fun j _ _ hj=> ?_
     ·rw[h.ownI];show(if i=i then y.setBs (B.set k 0)else N.ino i).B=_
      rw[if_pos rfl];rfl
     ·rw[h.othI hj N B rfl,h.othI hj (N.setMap (giveB N.map n)) (B.set k 0) rfl]
    ·have c1:=count_give hml n1 n2 hu;have c2:=nz_set (n:=0) hb;have c3:=h.cnt;rw[if_neg e2,if_pos rfl]at c2;show countB (giveB N.map n)+_=_
     omega
  ·rw[if_neg e1];by_cases e2:(n:Int)=0
   ·rw[if_pos e2];have hz:needN s0.length≤k:=n0.1 (by omega);have hnz:nz B=k:=nz_of hl (by omega) (fun j hj=>by
     obtain⟨m,a1,a2,_⟩:=h.done j hj (by omega);exact⟨m,a1,a2⟩) fun j hj hj4=>by
     rw[h.todo j hj];exact hy.non j (by omega) hj4
    have hc:=h.cnt;have hnz0:=hy.nz;rw[hnz,hnz0]at hc;by_cases e3:128-(countB N.map:Int)≤max 0 spare
    ·rw[if_pos e3];refine⟨by omega,?_⟩;omega
    ·rw[if_neg e3];obtain⟨f1,f2,fu0⟩:=first_some hml (by omega);have hne:∀q,usedB N.map q=true→q≠firstB N.map:=fun q hq e=>by
      rw[e,fu0]at hq
      cases hq
     refine setK_any i1 i2 hy hO hn4 fu (k+1) _ _ (by omega) (h.step (b:=firstB N.map) (by omega) rfl ?_ rfl (fun _=>⟨firstB N.map,rfl,f1,f2,?_⟩) (fun e=>by omega) (fun j hj hjn q hq q1 q2=> ?_) (fun i' k' q a1 a2 a3 a4 a5=> ?_) ?_ (fun _ _=> ?_))
     ·refine h.sound.take (d:=i) (k:=k) (n:=firstB N.map) i1 i2 (by rw[h.ownI,hb,e2]) f1 f2 fu0 rfl ?_ fun j _ _ hj=> ?_
      ·rw[h.ownI];show(if i=i then y.setBs (B.set k _)else N.ino i).B=_
       rw[if_pos rfl];rfl
      ·rw[h.othI hj N B rfl,h.othI hj (N.take.setBlk (firstB N.map) (part64 all k)) (B.set k _) rfl]
     ·show(if firstB N.map=firstB N.map then _ else _)=_
      rw[if_pos rfl]
     ·have:=hne q (h.used i1 i2 hq q1 q2)
      show(if q=firstB N.map then _ else if q=firstB N.map then _ else N.blk q)=_
      rw[if_neg this,if_neg this]
     ·obtain⟨_,b2⟩:=hO i' k' q a1 a2 a4;have:=hne q (h.usedO a1 a2 a3 a4 (by omega) (by omega))
      show(if q=firstB N.map then _ else if q=firstB N.map then _ else N.blk q)=_
      rw[if_neg this,if_neg this]
     ·have c1:=count_take hml f1 f2 fu0;have c2:=nz_set (n:=(firstB N.map:Int)) hb;rw[if_pos e2,if_neg (by omega)]at c2;show countB (takeB N.map (firstB N.map))+_=_
      omega
     ·rw[hnz0];omega
   ·rw[if_neg e2];have n1:1≤n:=by omega
    have hset:B=B.set k (n:Int):=by
     obtain⟨_,h2⟩:=List.getElem?_eq_some_iff.1 hb;rw[←h2,List.set_getElem_self]
    rw[Int.toNat_natCast];refine setK_any i1 i2 hy hO hn4 fu (k+1) _ _ (by omega) (h.step (b:=n) (by omega) rfl ?_ hset (fun _=>⟨n,rfl,n1,n2,?_⟩) (fun e=>by omega) (fun j hj hjn q hq q1 q2=> ?_) (fun i' k' q a1 a2 a3 a4 a5=> ?_) h.cnt (fun _ hlt=> ?_))
    ·exact h.sound.same rfl fun j _ _=>rfl
    ·show(if n=n then _ else _)=_
     rw[if_pos rfl]
    ·have:q≠n:=fun e=>by
      subst e;have:=(h.sound.one i i j k q i1 i2 i1 i2 (by rw[h.ownI];exact hq) (by rw[h.ownI];exact hb) (by omega)).2
      omega
     show(if q=n then _ else N.blk q)=_
     rw[if_neg this]
    ·have:q≠n:=fun e=>by
      subst e;exact a3 (h.sound.one i' i k' k q a1 a2 i1 i2 (by rw[h.othI a3 N B rfl];exact a4) (by rw[h.ownI];exact hb) (by omega)).1
     show(if q=n then _ else N.blk q)=_
     rw[if_neg this]
    ·have hnz0:=hy.nz;have:k<needN s0.length:=by
      refine Nat.lt_of_not_le fun hle=> ?_;have:=n0.2 hle
      omega
     omega
end
end Gd
end
section
namespace Gd
theorem blkB_ok{size:Int}{B:List Int}(hr:∀n∈B,0≤n∧n≤128)(hd:∀(k k':Nat) (n:Int),B[k]? =some n→B[k']? =some n→0<n→k=k')(hz:∀(k:Nat) (n:Int),B[k]? =some n→(0<n↔(64*k:Int)<size)):∀(r pre:List Int),B=pre++r→blkB 1 size pre.length pre r=true
 |[],_,_=>rfl
 |b::r,pre,e=>by
  have hb:B[pre.length]? =some b:=by
   rw[e,List.getElem?_append_right (Nat.le_refl _),Nat.sub_self];rfl
  obtain⟨b1,b2⟩:=hr b (List.mem_of_getElem? hb);have h3:=hz pre.length b hb;have ih:=blkB_ok hr hd hz r (pre++[b]) (by rw[e];simp);rw[List.length_append]at ih;simp only[blkB,Bool.and_eq_true];refine⟨⟨⟨⟨decide_eq_true b1,decide_eq_true b2⟩,?_⟩,?_⟩,ih⟩
  ·by_cases h0:0<b
   ·have:pre.contains b=false:=by
     rw[Bool.eq_false_iff];intro hc;obtain⟨j,hj⟩:=List.getElem?_of_mem (List.elem_iff.1 hc);have hjl:=(List.getElem?_eq_some_iff.1 hj).1;have:=hd j pre.length b (by rw[e,List.getElem?_append_left hjl];exact hj) hb h0
     omega
    rw[this];simp
   ·simp[h0]
  ·rw[show decide (0<b)=decide ((64*(pre.length:Nat):Int)<size) from decide_eq_decide.2 h3];simp
section
variable {M N:Vol} {i:Nat} {s:Nat→List UInt8} {B0 B2:List Int} {s2:List UInt8} {spare:Int}
theorem Fils.rng(h:Fils M s):∀i' k':Nat,∀b:Int,1≤i'→i'≤32→(M.ino i').B[k']? =some b→0≤b∧b≤128:=fun i' k' b h1 h2 hb=>by
 by_cases e1:i'=1
 ·rw[e1,h.root]at hb;have:b∈([2,0,0,1]:List Int):=List.mem_of_getElem? hb
  simp at this
  omega
 ·by_cases e2:i'≤5
  ·obtain⟨B,e,hB⟩:=h.files i' (by omega) e2;rw[e]at hb;exact hB.rng b (List.mem_of_getElem? hb)
  ·rw[h.rest i' (by omega)]at hb;have:b∈([0,0,0,0]:List Int):=List.mem_of_getElem? hb
   simp at this
   omega
theorem Qs.has(hq:Qs M i (filI (s i) B0) (s i) (allL s2) (needN s2.length) spare 4 N B2)(hl:s2.length≤256):Has N B2 s2:=
 ⟨hq.len,hl,fun k hk=>hq.done k (by have:needN s2.length≤4:=(by unfold needN;omega);omega) hk,fun k hk h4=>hq.gone k h4 hk h4⟩
theorem Qs.may(hq:Qs M i (filI (s i) B0) (s i) (allL s2) (needN s2.length) spare 4 N B2)(i1:1≤i)(i2:i≤32)(hl:s2.length≤256):mayI (filI s2 B2)=true:=by
 have hh:=hq.has hl;have hb:=blkB_ok (size:=(s2.length:Int)) (B:=B2) hh.rng (fun k k' n e1 e2 hn=>(hq.sound.one i i k k' n i1 i2 i1 i2 (by rw[hq.ownI];exact e1) (by rw[hq.ownI];exact e2) (by omega)).2) (fun k n e=>by
  obtain⟨m,rfl,_,h0⟩:=hh.at e;unfold needN at h0;omega) B2 [] rfl
 unfold mayI filI;dsimp only;rw[if_neg (by decide),if_pos rfl];simp only[Bool.and_eq_true,decide_eq_true_eq];refine⟨⟨⟨⟨⟨by omega,by omega⟩,by omega⟩,by omega⟩,by decide⟩,hb⟩
theorem Fils.set(h:Fils M s)(i1:2≤i)(i2:i≤5)(hi:M.ino i=filI (s i) B0)(hy:Has M B0 (s i))(hl:s2.length≤256)(hq:Qs M i (filI (s i) B0) (s i) (allL s2) (needN s2.length) spare 4 N B2):Fils (N.setIno i (filI s2 B2)) fun j=>if j=i then s2 else s j:=by
 have hh:=hq.has hl;have hown:(N.setIno i (filI s2 B2)).ino i=filI s2 B2:=if_pos rfl;have hoth:∀j,j≠i→(N.setIno i (filI s2 B2)).ino j=M.ino j:=fun j hj=>by
  show(if j=i then filI s2 B2 else N.ino j)=_
  rw[if_neg hj,hq.ino]
 refine⟨hq.sound.same rfl fun j _ _=> ?_,(hoth 1 (by omega)).trans h.root,fun j j1 j2=> ?_,fun j hj=>(hoth j (by omega)).trans (h.rest j hj),?_⟩
 ·show(if j=i then filI s2 B2 else N.ino j).B=(if j=i then(filI (s i) B0).setBs B2 else N.ino j).B
  split<;>rfl
 ·by_cases e:j=i
  ·subst e;rw[if_pos rfl];refine⟨B2,hown,?_⟩;exact⟨hh.len,hh.few,hh.blk,hh.non⟩
  ·obtain⟨B,e1,e2⟩:=h.files j j1 j2;refine⟨B,?_,?_⟩
   ·rw[hoth j e,if_neg e];exact e1
   ·rw[if_neg e];refine⟨e2.len,e2.few,fun k hk=> ?_,e2.non⟩;obtain⟨n,a1,a2,a3,a4⟩:=e2.blk k hk;exact⟨n,a1,a2,a3,(hq.oth j k n (by omega) (by omega) e (by rw[e1];exact a1) (by omega)).trans a4⟩
 ·have c1:=hq.cnt;have c2:nz (filI (s i) B0).B=needN (s i).length:=hy.nz;have c3:=h.count;rw[c2,hh.nz]at c1;show countB N.map=_
  rcases(by omega:i=2∨i=3∨i=4∨i=5)with rfl|rfl|rfl|rfl
  ·simp only[if_true,if_neg (show ¬(3=2) by omega),if_neg (show ¬(4=2) by omega),if_neg (show ¬(5=2) by omega)];omega
  ·simp only[if_true,if_neg (show ¬(2=3) by omega),if_neg (show ¬(4=3) by omega),if_neg (show ¬(5=3) by omega)];omega
  ·simp only[if_true,if_neg (show ¬(2=4) by omega),if_neg (show ¬(3=4) by omega),if_neg (show ¬(5=4) by omega)];omega
  ·simp only[if_true,if_neg (show ¬(2=5) by omega),if_neg (show ¬(3=5) by omega),if_neg (show ¬(4=5) by omega)];omega
theorem Fils.began(h:Began M tabD 4 [2,0,0,1] map2):Fils M fun _=>[]:=by
 refine⟨h.sound,h.root,fun i i1 i2=>⟨[0,0,0,0],h.files i i1 (by omega),rfl,by show(0:Nat)≤256;omega,fun k hk=> ?_,fun k _ hk=> ?_⟩,fun i hi=>h.rest i (by omega),?_⟩
 ·exact absurd hk (by show ¬k<0;omega)
 ·match k,hk with
  |0,_=>rfl
  |1,_=>rfl
  |2,_=>rfl
  |3,_=>rfl
 ·rw[h.map];exact count2
end
end Gd
end
section
open Go.Maps Go.MapKept
attribute [local go_sem] Oper.semAt_some
section
variable {P:Program} {w:World} {H:Type}
theorem uD{r:Nat}{es:Array MapEntry}{clock:Nat}{mty kt et ty:TypeId}(hm:P.underlying mty=some (.map kt et))(hb:w.heap[r]? =some (.map es clock)):(Builtin.clear_ #[mty] ty #[.map (some r)]).run P w= .ok (.tuple #[]) (ChangeMaps.setBlock w r (.map #[] clock)):=by
 simp[Builtin.clear_,run_underlying hm,MapKept.run_getObj_map hb,MapKept.run_setObj_map _ hb,Result.andThen,ChangeMaps.setBlock]
end
def jw(S Z:List UInt8)(n:Nat):List Nat:=(List.range n).filter fun k=>decide (cel S k≠cel Z k)
theorem xJ(S Z:List UInt8)(n:Nat):jw S Z (n+1)=jw S Z n++(if cel S n≠cel Z n then[n]else[]):=by
 unfold jw;rw[List.range_succ,List.filter_append];congr 1
 by_cases h:cel S n=cel Z n
 ·simp[h]
 ·simp[h]
theorem J4{S Z:List UInt8}{n k:Nat}(h:k∈jw S Z n):k<n:=by
 unfold jw at h;exact List.mem_range.1 (List.mem_filter.1 h).1
def Jh(L:List Nat):List Value:=L.map fun(k:Nat)=> .int .i64 (k:Int)
theorem yZ(S Z:List UInt8):∀n,(jw S Z n).length≤n
 |0=>Nat.le_refl _
 |n+1=>by
  rw[xJ,List.length_append];have:=yZ S Z n
  split<;>simp<;>omega
theorem infoInt:(prog.info? 3).map (fun i=>(i.zero,i.size,i.bytes))=some (some (.int .i64 0),1,8):=by kernel_rfl
theorem Xz{m sb lb ab n K:Nat}{S Z:List UInt8}{X:Nat→Prop}(w:World)(h:zZ w m sb lb ab n S K X)(hZ:Z.length=S.length∧w.heap[lb]? =some (.cells (ze Z) 126 (0,0))):
 Calls prog 73 #[.pointer (some ⟨m,0,none⟩)] w fun e w'=>∃v,e= .returned v∧w'.ownsRow w.heap.size 3 1 v (jw S Z n).length (Jh (jw S Z n))∧Below w.heap.size w w':=by
 obtain⟨i0,hi,hz0,hz1,hz2⟩:=info_parts infoInt;obtain⟨cp,hobj⟩:=h.objE;obtain⟨T,hseen⟩:=h.seenE;have HM:=hid h;have HZ:=hid hZ;have HO:=hid (And.intro hobj hseen);have hs:=h.small;clear h hZ hobj hseen;go_enter func73,ntmps73;obtain⟨c0,-,-⟩:=zl HO.o.1;go_wp2;clear c0;go_loopw[3,10] (fun u z wr=>∃i:Nat,z= .int .i64 i∧i≤n∧Hid (wr.ownsRow w.heap.size 3 1 u (jw S Z i).length (Jh (jw S Z i)))∧Hid (Below w.heap.size w wr)) (fun _ z _=>n-(intOf z).toNat)
 case atStart=>exact⟨0,rfl,by omega,hid (show w.ownsRow w.heap.size 3 1 (.slice none 0 0) 0 [] from World.ownsRow_nil _ _ _ _),hid (Below.refl _ _)⟩
 case round=>
  obtain⟨i,rfl,hin,HU,HB⟩:=hrel;by_cases hlt:i<n
  ·obtain⟨x0,x1,x2,x3,x4,x5,x6,x7,s0,s1,s2,s3,s4,s5,s6,s7⟩:=Zb HM.o.len hlt;obtain⟨y0,y1,y2,y3,y4,y5,y6,y7,t0,t1,t2,t3,t4,t5,t6,t7⟩:=Zb (HZ.o.1.trans HM.o.len) hlt;have hsw:=(HB.o.block sb (za HO.o.2)).trans HO.o.2;have hlw:=(HB.o.block lb (za HZ.o.2)).trans HZ.o.2;have a0:=zR hsw s0;have a1:=zR hsw s1;have a2:=zR hsw s2;have a3:=zR hsw s3;have a4:=zR hsw s4;have a5:=zR hsw s5;have a6:=zR hsw s6;have a7:=zR hsw s7;have b0:=j3 hlw t0;have b1:=j3 hlw t1;have b2:=j3 hlw t2;have b3:=j3 hlw t3;have b4:=j3 hlw t4;have b5:=j3 hlw t5;have b6:=j3 hlw t6;have b7:=j3 hlw t7;obtain⟨c0,c1,c2⟩:=zl ((HB.o.block m (za HO.o.1)).trans HO.o.1);have HCe:=hid (And.intro (qz s0 s1 s2 s3 s4 s5 s6 s7) (qz t0 t1 t2 t3 t4 t5 t6 t7));have e1:(i:Int)<n:=by omega
   have e0:(0:Int)≤i:=by omega
   have hq:=QC (t:=126) [x0,x1,x2,x3,x4,x5,x6,x7] [y0,y1,y2,y3,y4,y5,y6,y7] rfl underlying126;obtain⟨nb,hnb⟩:∃nb:Bool,nb= !decide ([x0,x1,x2,x3,x4,x5,x6,x7]=[y0,y1,y2,y3,y4,y5,y6,y7]):=⟨_,rfl⟩;have HNb:=hid hnb;rw[←hnb]at hq;simp only[Lib.byteCells,List.map_cons,List.map_nil]at hq;obtain⟨uA,uc,hu⟩:∃A c,u3= .slice A (jw S Z i).length c:=by
    rcases HU.o.2 with⟨h1,h2⟩|⟨g,cap,cur,h1,-⟩
    ·exact⟨none,0,by rw[h1,h2]⟩
    ·exact⟨_,_,h1⟩
   subst hu;obtain⟨dl,hdl⟩:=nm ((jw S Z i).length);have hdl2:dl≤n:=by rw[hdl];have:=yZ S Z i;omega
   rw[←hdl]at HU⊢;have Hdl:=hid hdl;clear hnb s0 s1 s2 s3 s4 s5 s6 s7 t0 t1 t2 t3 t4 t5 t6 t7 hsw hlw hlt hdl;go_wp2;go_quiet (fail)
   obtain⟨wd,hwd⟩:=nm (wr.drewN nq);rw[←hwd];have HBd:Hid (Below w.heap.size w wd):=hid (by rw[hwd];exact below_drewN HB.o _);have HUd:Hid (wd.ownsRow w.heap.size 3 1 (.slice uA dl uc) dl (Jh (jw S Z i))):=hid (by
    have hb:Below wr.heap.size wr wd:=by rw[hwd];exact below_drewN (Below.refl _ _) _
    exact⟨HU.o.1,HU.o.2.imp id fun⟨g,cap,cur,hv,hB,hg,hr⟩=>⟨g,cap,cur,hv,hB,(hb.block g (za hg)).trans hg,hr⟩⟩)
   clear hwd a0 a1 a2 a3 a4 a5 a6 a7 b0 b1 b2 b3 b4 b5 b6 b7 c0 c1 c2 hq HU
   cases nb with
   |false=>
    have HEq:Hid (jw S Z (i+1)=jw S Z i):=hid (by
     have:=HNb.o
     rw[xJ,if_neg (by rw[HCe.o.1,HCe.o.2];simpa using this),List.append_nil])
    go_wp2;go_roundw
    case rel=>exact⟨i+1,by go_num,by omega,hid (by rw[HEq.o,←Hdl.o];exact HUd.o),HBd⟩
    case measure=>simp[intOf];omega
   |true=>
    have HEq:Hid (jw S Z (i+1)=jw S Z i++[i]):=hid (by
     have:=HNb.o
     rw[xJ,if_pos (by rw[HCe.o.1,HCe.o.2];intro e;rw[decide_eq_true e]at this;cases this)])
    go_wp2_with(at_builtin;go_loud (refine wpList_append_lies _ rfl _ _ 58 rfl w.heap.size 3 i0 _ 1 8 underlying58 hi hz0 hz1 hz2 rfl (by decide) (.slice uA dl uc) dl _ rfl (HUd.o.alloc _) ⟨wd.heap.size,0,none⟩ 1 1 [.int .i64 i] rfl rfl (cell_one_new _ _ _) (by intro u hu;simp at hu;subst hu;rfl) (by omega) (by unfold maxLen;omega) (by omega) (Nat.le_trans HBd.o.size (by simp)) (wd.heap.size+1) (by simp) ?_))
    intro gq cap w5 hown5 hgrow5 hat5 hlt5;have HB5:Hid (Below w.heap.size w w5):=hid ((HBd.o.trans ((Below.refl wd.heap.size wd).alloc (Nat.le_refl _) (.cells #[.int .i64 i] 3) |>.mono HBd.o.size)).trans ((zK (F:=fun k=>w.heap.size≤k) hgrow5 fun k e=>by
     rcases HUd.o.2 with⟨h1,-⟩|⟨g,cap,cur,h1,hB,-⟩
     ·rw[h1]at e;cases e
     ·rw[h1]at e;cases e;exact hB).below (Nat.le_trans HBd.o.size (by simp)) fun k hk e=>by omega))
    have HO5:=hid hown5;clear hown5 hgrow5 hat5 hlt5;go_wp2;go_roundw
    case rel=>exact⟨i+1,by go_num,by omega,hid (by
     rw[HEq.o];unfold Jh;rw[List.map_append,List.length_append,←Hdl.o];exact HO5.o),HB5⟩
    case measure=>simp[intOf];omega
  ·obtain rfl:i=n:=by omega
   clear hlt;go_wp2;go_ret
   exact⟨_,rfl,HU.o,HB.o⟩
end
section
open Go.Maps
attribute [local go_sem] Oper.semAt_some
theorem JY{w w':World}{m sb lb ab n q k:Nat}{S Z:List UInt8}{C:List UInt8}{D:DataW Unit}(h:qd w m sb lb ab n S Z)(hD:∀kl,has D kl=true→∃j:Nat,j<n∧kl= .int .i64 j)(hr:w.ownsMap prog 3 (plainElem prog 4) ab q D)(hC:C.length=8)(hk:k<n)(hw:w'=w.setCells lb (k*8) (Lib.byteCells C)):
 qd w' m sb lb ab n S (Gd.splice Z (k*8) C)∧w'.ownsMap prog 3 (plainElem prog 4) ab q D∧zi (fun k=>k=lb) w w':=by
 have hg:w.grownBy w' (some lb):=by rw[hw];exact jf _ _ _ _
 have hb:∀k,k<w.heap.size→k≠lb→w'.heap[k]? =w.heap[k]? :=fun k hk hn=>hg.block k hk (fun e=>hn (Option.some.inj e));have hf:k*8+C.length≤Z.length:=by have:=h.zlen;have:=h.len;omega
 have hl':=ql lb _ C (k*8) w Z hf h.last;rw[←hw]at hl';have ha:=h.apart hr hD;exact⟨⟨⟨_,(hb m (za h.objE.choose_spec) ha.2.2).trans h.objE.choose_spec⟩,⟨_,(hb sb (za h.seenE.choose_spec) h.ne).trans h.seenE.choose_spec⟩,hl',(Gd.splice_length hf).trans h.zlen,h.len,h.small,h.lines,h.ne⟩,jt hr (hb ab hr.lt ha.2.1.symm),zK hg fun k e=>(Option.some.inj e).symm⟩
theorem Xm{m sb lb ab n q:Nat}{S Z:List UInt8}{D:DataW Unit}(k:Nat)(hkn:k<n)(w:World)(h:qd w m sb lb ab n S Z)(hr:w.ownsMap prog 3 (plainElem prog 4) ab q D)(hD:∀kl,has D kl=true→∃j:Nat,j<n∧kl= .int .i64 j):
 Calls prog 71 #[.pointer (some ⟨m,0,none⟩),.int .i64 k] w fun e w'=>e= .returned (.tuple #[])∧qd w' m sb lb ab n S (Gd.splice Z (k*8) (cel S k))∧zi (fun k=>k=lb∨k=ab) w w'∧w'.ownsMap prog 3 (plainElem prog 4) ab q (D.del (.int .i64 k)):=by
 obtain⟨x0,x1,x2,x3,x4,x5,x6,x7,s0,s1,s2,s3,s4,s5,s6,s7⟩:=Zb h.len hkn;obtain⟨T,hseen⟩:=h.seenE;have a0:=zR hseen s0;have a1:=zR hseen s1;have a2:=zR hseen s2;have a3:=zR hseen s3;have a4:=zR hseen s4;have a5:=zR hseen s5;have a6:=zR hseen s6;have a7:=zR hseen s7;obtain⟨cp,hobj⟩:=h.objE;obtain⟨c0,c1,c2⟩:=zl hobj;have HM:=hid h;have HR:=hid hr;have HAp:=hid (h.apart hr hD);have HD:=hid hD;have HCel:=hid (qz s0 s1 s2 s3 s4 s5 s6 s7);have Hkn:=hid hkn;have e1:(k:Int)<n:=by omega
 clear s0 s1 s2 s3 s4 s5 s6 s7 h hr hD hobj hseen;have hbd:=(Below.refl w.heap.size w).drew;have HMd:Hid (qd w.drew m sb lb ab n S Z):=hid (HM.o.keep fun k hk=>hbd.block k (HM.o.lts k hk));have HRd:Hid (w.drew.ownsMap prog 3 (plainElem prog 4) ab q D):=hid (jt HR.o (hbd.block ab HR.o.lt));have HOd:Hid (zi (fun k=>k=lb∨k=ab) w w.drew):=hid (zg hbd _);clear hbd;go_enter func71,ntmps71;go_wp2;go_still_tail 13,(by kernel_rfl)
 change wpList _ _ _ _ _ w.drew;clear a0 a1 a2 a3 a4 a5 a6 a7 c0 c1 c2;generalize w.drew=wd at HMd HRd HOd⊢;have HCe:=hid fun w' (e:w'=wd.setCells lb (k*8) (Lib.byteCells [x0,x1,x2,x3,x4,x5,x6,x7]))=>JY (k:=k) (C:=[x0,x1,x2,x3,x4,x5,x6,x7]) HMd.o HD.o HRd.o rfl Hkn.o e;have HTh:Hid (wd.there lb (k*8) 8):=hid (xw HMd.o.last (by rw[vp,HM.o.zlen,HM.o.len];omega));have HKey:=hid (keyOf_int_mk (P:=prog) underlying3 (q:= .i64) (a:=(k:Int)) (zu (by have:=HM.o.small;omega)))
 go_wp2_with(first|(refine wpList_store_mid rfl 126 _ _ rfl lb (k*8) #[.int .u8 x0.toNat,.int .u8 x1.toNat,.int .u8 x2.toNat,.int .u8 x3.toNat,.int .u8 x4.toNat,.int .u8 x5.toNat,.int .u8 x6.toNat,.int .u8 x7.toNat] rfl rfl HTh.o sizeCell (by simp[Value.oneCell']) ?_;generalize hwe:(World.setCells _ _ _ _)=we;have HE:=hid (HCe.o we (by rw[←hwe];rfl));clear hwe;obtain⟨cpe,hobje⟩:=HE.o.1.objE;obtain⟨d0,d1,d2⟩:=zl hobje;clear hobje)|(at_delete;refine wpList_delete_own _ rfl _ _ 98 3 rfl 4 intLaw underlying98 _ ab q D rfl HE.o.2.1 _ _ rfl HKey.o ?_;intro w5 hrg5 hturn5))
 have HR5:=hid hrg5;have HM5:Hid (qd w5 m sb lb ab n S (Gd.splice Z (k*8) (cel S k))):=hid (by
  rw[HCel.o];refine HE.o.1.keep fun p hp=>(jo hturn5).block p (HE.o.1.lts p hp) fun e=> ?_;have ha:=HAp.o;rcases hp with rfl|rfl|rfl
  ·exact ha.1.2.1 e
  ·exact ha.1.2.2 e
  ·exact ha.2.1 e)
 have HO5:Hid (zi (fun k=>k=lb∨k=ab) w w5):=hid ((HOd.o.trans HE.o.2.2 fun _ _ e=>Or.inl e).trans (jo hturn5) fun _ _ e=>Or.inr e);clear hrg5 hturn5 d0 d1 d2;go_wp2;go_end0
 exact⟨rfl,HM5.o,HO5.o,HR5.o⟩
theorem infoCel:(prog.info? 126).map (fun i=>(i.zero,i.size,i.bytes))=some (some (.agg #[.int .u8 0,.int .u8 0,.int .u8 0,.int .u8 0,.int .u8 0,.int .u8 0,.int .u8 0,.int .u8 0]),8,8):=by kernel_rfl
theorem VF(w:World)(a:Option Addr)(l c:Nat):(binOp .eql 97 (.slice a l c) (.slice none 0 0)).run prog w= .ok (.bool a.isNone) w:=
 Lib.run_eql_slice_nil w _ _ a l c 0 0 underlying97
theorem XB{lb n:Nat}{Z:List UInt8}(w:World)(hl:Z.length=n*8)(hn:n≤131072)(h:w.heap[lb]? =some (.cells (ze Z) 126 (0,0))):
 Calls prog 74 #[.slice (some ⟨lb,0,none⟩) n n] w fun e w'=>∃(g c:Nat) (T:List Value),e= .returned (.slice (some ⟨g,0,none⟩) n c)∧w'.heap[g]? =some (.cells (jZ Z T) 126 (0,0))∧w.heap.size≤g∧Below w.heap.size w w':=by
 have hnil:=VF;obtain⟨i0,hi,hz0,hz1,hz2⟩:=info_parts infoCel;have Hc:Hid (∀W,Below w.heap.size w W→∀j u,(Lib.byteCells Z)[j]? =some u→W.cell? ((⟨lb,0,none⟩:Addr).add j)=some u):=hid fun W hW j u hj=>by
  obtain⟨x,hx,rfl⟩:=qU hj;have hr:W.cell? ⟨lb,j,none⟩=some (.int .u8 x.toNat):=(hW.cell (p:=⟨lb,j,none⟩) (za h)).trans (j3 h hx);by_cases h0:j=0
  ·subst h0;simpa [Addr.add]using hr
  ·simpa [Addr.add,h0]using hr
 have Hl:Hid ((Lib.byteCells Z).length=n*8):=hid (by unfold Lib.byteCells;rw[List.length_map];exact hl);clear h hl;go_enter func74,ntmps74;go_wp2_with(at_builtin;go_loud (refine wpList_append_own_at _ rfl _ _ 97 rfl w.heap.size 126 i0 _ 8 8 underlying97 hi hz0 hz1 hz2 rfl (by decide) (.slice (some ⟨w.heap.size,0,none⟩) 0 0) 0 [] rfl ⟨rfl,Or.inr ⟨w.heap.size,0,#[],rfl,Nat.le_refl _,heap_alloc_new _ _,Nat.le_refl _,Nat.zero_le _,rfl,rfl⟩⟩ ⟨lb,0,none⟩ n n (Lib.byteCells Z) rfl Hl.o ?_ (byteCells_one Z) (by unfold maxLen;omega) (by omega) (by simp) ?_))
 ·exact Hc.o _ ((Below.refl w.heap.size w).alloc (Nat.le_refl _) _)
 intro v' w1 hown hgrow hne hat;have hb1:Below w.heap.size w w1:=((Below.refl w.heap.size w).alloc (Nat.le_refl _) (.cells #[] 126)).trans ((zK (F:=fun k=>k=w.heap.size) hgrow fun k e=>by cases e;rfl).below (by simp) fun k hk e=>by omega);obtain⟨g,c,T,rfl,hg,hge⟩:∃(g c:Nat) (T:List Value),v'= .slice (some ⟨g,0,none⟩) n c∧w1.heap[g]? =some (.cells (jZ Z T) 126 (0,0))∧w.heap.size≤g:=by
  rcases hown.2 with⟨h1,h0⟩|⟨g,cap,cur,h1,hB,hg,hcap,hcm,hcs,hcur⟩
  ·exact absurd h1 hne
  ·refine⟨g,cap,cur.toList.drop (n*8),h1,?_,hB⟩;rw[hg];congr 2
   unfold jZ;rw[←hcur,List.take_append_drop]
 have HB:=hid hb1;have HG:=hid (And.intro hg hge);clear hown hgrow hat hb1 hne hg hge;go_wp2;go_ret
 exact⟨g,c,T,rfl,HG.o.1,HG.o.2,HB.o⟩
def jb(w:World)(A:Option Addr)(n:Nat):Prop:=n=0∨∃b o,A=some ⟨b,o,none⟩∧b<w.heap.size∧∀j,j<n→∃x:Int,w.cell? ⟨b,o+j,none⟩=some (.int .i64 x)
theorem VI(x:Int):∃c:Int,∀W:World,(binOp .and 3 (.int .i64 x) (.int .i64 1)).run prog W= .ok (.int .i64 c) W:=⟨_,fun _=>rfl⟩
def CrI(m sb lb ab n K:Nat)(S Z:List UInt8)(w1 wr:World):Prop:=∃(Y:List UInt8) (q:Nat) (D:DataW Unit),qd wr m sb lb ab n S Y∧(∀k,k<n→cel Y k=cel S k∨cel Y k=cel Z k)∧(q≤K∧wr.ownsMap prog 3 (plainElem prog 4) ab q D∧∀kl,has D kl=true→∃j:Nat,j<n∧kl= .int .i64 j)∧zi (fun k=>k=lb∨k=ab) w1 wr
theorem JV{m sb lb ab n K pn pc:Nat}{S Z:List UInt8}{X:Nat→Prop}{pA:Option Addr}(w:World)(h:zZ w m sb lb ab n S K X)(hZ:Z.length=S.length∧w.heap[lb]? =some (.cells (ze Z) 126 (0,0)))(hp:jb w pA pn)(hpb:pn≠0→∀b o,pA=some ⟨b,o,none⟩→b≠lb∧b≠ab)(hpn:pn≤100000):
 Calls prog 29 #[.pointer (some ⟨m,0,none⟩),.slice pA pn pc] w fun e w'=>e= .returned (.tuple #[])∧(∃(sb':Nat) (Y:List UInt8),w.heap.size≤sb'∧(∀k,k<n→cel Y k=cel S k∨cel Y k=cel Z k)∧zH w' m sb' lb ab n Y K)∧zi (fun k=>k=m∨k=lb∨k=ab) w w':=by
 have HDi:=hid (Xz w h hZ);have HP:=hid hp;have HPb:=hid hpb;have hs:=h.small;have HLt:=hid h.lts;obtain⟨q0,D0,hD0⟩:∃(q:Nat) (D:DataW Unit),(q≤K∧w.ownsMap prog 3 (plainElem prog 4) ab q D∧∀kl,has D kl=true→∃j:Nat,j<n∧kl= .int .i64 j):=by
  obtain⟨q,D,hD⟩:=h.away;exact⟨q,D,hD⟩
 have HZ0:Hid (qd w m sb lb ab n S Z):=hid ⟨h.objE,h.seenE,hZ.2,hZ.1,h.len,h.small,h.lines,h.ne⟩;have HD0:=hid hD0;clear h hZ hp hpb hD0;go_enter func29,ntmps29;go_wp2_with fail
 refine HDi.o.mono ?_;rintro e w1 ⟨v,rfl,hown,hb1⟩;obtain⟨L,hL⟩:=nm (jw S Z n);rw[←hL]at hown;obtain⟨vA,vc,rfl⟩:∃A c,v= .slice A L.length c:=by
  rcases hown.2 with⟨h1,h2⟩|⟨g,cap,cur,h1,-⟩
  ·exact⟨none,0,by rw[h1,h2]⟩
  ·exact⟨_,_,h1⟩
 obtain⟨N,hN⟩:=nm L.length;have hN2:N≤131072:=by rw[hN,hL];have:=yZ S Z n;omega
 rw[←hN]at hown⊢;have HL:=hid (And.intro hL hN);have HOw:=hid hown;have HB1:=hid hb1;have HI1:Hid (CrI m sb lb ab n K S Z w1 w1):=hid ⟨Z,q0,D0,HZ0.o.keep fun k hk=>hb1.block k (HZ0.o.lts k hk),fun k _=>Or.inr rfl,⟨HD0.o.1,jt HD0.o.2.1 (hb1.block ab HD0.o.2.1.lt),HD0.o.2.2⟩,zi.refl _ _⟩;clear hown hb1 hL hN HDi;go_wp2;go_loopw[9] (fun z wr=>∃i:Nat,z= .int .i64 i∧i≤N∧Hid (CrI m sb lb ab n K S Z w1 wr)) (fun z _=>N-(intOf z).toNat)
 case atStart=>exact⟨0,rfl,by omega,HI1⟩
 case round=>
  obtain⟨i,rfl,hin,HI⟩:=hrel;have hO:=HI.o.choose_spec.choose_spec.choose_spec.2.2.2;by_cases hlt:i<N
  ·have hlL:i<L.length:=by have:=HL.o.2;omega
   obtain⟨kk,hkk⟩:∃kk,L[i]? =some kk:=⟨_,List.getElem?_eq_getElem hlL⟩;have hkn:kk<n:=J4 (S:=S) (Z:=Z) (by rw[←HL.o.1];exact List.mem_of_getElem? hkk);obtain⟨g,hvA,hcell⟩:∃g,vA=some ⟨g,0,none⟩∧wr.cell? ⟨g,i,none⟩=some (.int .i64 kk):=by
    rcases HOw.o.2 with⟨h1,h2⟩|⟨g,cap,cur,h1,hB,hg,-⟩
    ·omega
    ·cases h1
     refine⟨g,rfl,(hO.cell (p:=⟨g,i,none⟩) (za hg) fun e=> ?_).trans ?_⟩
     ·have h1:=HLt.o lb (by simp);have h2:=HLt.o ab (by simp);rcases e with e|e
      ·dsimp only at e;omega
      ·dsimp only at e;omega
     ·refine(HOw.o.cellAt i (by omega)).trans ?_
      unfold Jh;rw[List.getElem?_map,hkk];rfl
   subst hvA;have e1:(i:Int)<N:=by omega
   have e0:(0:Int)≤i:=by omega
   have Hkn:=hid hkn;obtain⟨wz,rfl⟩:=nm wr;have HOz:=hid hO;clear hO hlL hkk hkn hlt;go_upto_region 3 with fail
   clear hcell;go_cut[31] from 14 to 31 (fun z wx=>(∃B:Bool,z= .bool B)∧Hid (Below wz.heap.size wz wx))
   case first=>
    by_cases hpi:i<pn
    ·have e2:decide ((i:Int)<pn)=true:=decide_eq_true (by omega);have e3:(i:Int)<pn:=by omega
     rcases HP.o with h0|⟨pb,po,rfl,hpl,hpc⟩
     ·omega
     obtain⟨x,hx⟩:=hpc i hpi;have hx2:wz.cell? ⟨pb,po+i,none⟩=some (.int .i64 x):=(HOz.o.cell (p:=⟨pb,po+i,none⟩) (Nat.lt_of_lt_of_le hpl HB1.o.size) fun e=>e.elim (HPb.o (by omega) pb po rfl).1 (HPb.o (by omega) pb po rfl).2).trans ((HB1.o.cell (p:=⟨pb,po+i,none⟩) hpl).trans hx);obtain⟨c,hand⟩:=VI x;obtain⟨b1,hb1⟩:∃b1:Bool,(c !=0)=b1:=⟨_,rfl⟩;obtain⟨b2,hb2⟩:∃b2:Bool,decide (x<0)=b2:=⟨_,rfl⟩;clear hx hpc hpl;go_quiet (fail)
     go_wp2;go_meet
     exact⟨⟨_,rfl⟩,hid (below_drewN (Below.refl _ _) _)⟩
    ·have e2:decide ((i:Int)<pn)=false:=decide_eq_false (by omega);go_quiet (fail)
     go_wp2;go_meet
     exact⟨⟨_,rfl⟩,hid (below_drewN (Below.refl _ _) _)⟩
   case rest=>
   obtain⟨⟨B,rfl⟩,HBc⟩:=hcut;obtain⟨wy,rfl⟩:=nm wc;have HIy:Hid (CrI m sb lb ab n K S Z w1 wy):=hid (by
    obtain⟨Y,q,D,h1,h2,⟨h3,h4,h5⟩,h6⟩:=HI.o;exact⟨Y,q,D,h1.keep fun k hk=>HBc.o.block k (h1.lts k hk),h2,⟨h3,jt h4 (HBc.o.block ab h4.lt),h5⟩,h6.trans (zg HBc.o _) fun _ _ e=>e⟩)
   clear HI HOz HBc
   cases B with
   |false=>
    go_wp2;go_roundw
    case rel=>exact⟨i+1,by go_num,by omega,HIy⟩
    case measure=>simp[intOf];omega
   |true=>
    obtain⟨Y,q,D,h1,h2,⟨h3,h4,h5⟩,h6⟩:=HIy.o;have HKp:=hid (Xm kk Hkn.o wy h1 h4 h5);have HR:=hid (And.intro h1 (And.intro h2 (And.intro h3 (And.intro h5 h6))));clear h1 h2 h3 h4 h5 h6 HIy;go_wp2_with fail
    refine HKp.o.mono ?_;rintro e w3 ⟨rfl,hM3,hO3,hD3⟩;have HI3:Hid (CrI m sb lb ab n K S Z w1 w3):=hid ⟨_,q,_,hM3,fun j hj=>by
     obtain⟨r1,r2,r3,r5,r6⟩:=HR.o;have hz:=r1.zlen;have hl:=r1.len;have hk:=Hkn.o;have hc:(cel S kk).length=8:=Gd.part_length (by omega);rw[uu (S:=S) hc (by omega) (by omega)];by_cases e:j=kk
     ·subst e;rw[if_pos rfl];exact Or.inl rfl
     ·rw[if_neg e];exact r2 j hj,⟨HR.o.2.2.1,hD3,fun kl hkl=>HR.o.2.2.2.1 kl (ym hkl)⟩,HR.o.2.2.2.2.trans hO3 fun _ _ e=>e⟩
    clear hM3 hO3 hD3 HKp;go_wp2;go_roundw
    case rel=>exact⟨i+1,by go_num,by omega,HI3⟩
    case measure=>simp[intOf];omega
  ·obtain rfl:i=N:=by omega
   clear hlt hO;obtain⟨Y,q,D,h1,h2,h345,h6⟩:=HI.o;have HCl:=hid (XB wr (h1.zlen.trans h1.len) h1.small h1.last);have HR:=hid (And.intro h1 (And.intro h2 (And.intro h345 h6)));obtain⟨cp,hobj⟩:=h1.objE;have HObj:=hid hobj;obtain⟨c0,c1,c2⟩:=zl hobj;have Hap:=hid (h1.apart h345.2.1 h345.2.2);clear h1 h2 h345 h6 hobj;go_wp2_with fail
   refine HCl.o.mono ?_;rintro e w4 ⟨g,c,T,rfl,hg,hge,hb4⟩;have hm4:=(hb4.block m (za HObj.o)).trans HObj.o;obtain⟨d0,d1,d2⟩:=zl hm4;have f0:=frozen_of_row w4 m 0 _ _ hm4;have HB4:=hid hb4;have HG:=hid (And.intro hg hge);have HM4:=hid hm4;clear hg hge hb4 hm4 HCl c0 c1 c2;go_upto_region 7 with fail
   obtain⟨w5,hw5⟩:=nm (w4.setCell ⟨m,0,none⟩ (.slice (some ⟨g,0,none⟩) n c));have hO5:zi (fun k=>k=m) w4 w5:=by rw[hw5];exact zq _ _ _ rfl
   have hm5:w5.heap[m]? =some (.cells #[.slice (some ⟨g,0,none⟩) n c,.slice (some ⟨lb,0,none⟩) n n,.map (some ab)] 100 (0,0)):=by
    rw[hw5];exact Go.heap_setCell_same w4 m 0 _ _ _ HM4.o
   rw[←hw5];obtain⟨e0,e1,e2⟩:=zl hm5;have hown5:w5.ownsMap prog 3 (plainElem prog 4) ab q D:=jt (jt HR.o.2.2.1.2.1 (HB4.o.block ab HR.o.2.2.1.2.1.lt)) (hO5.block ab (Nat.lt_of_lt_of_le HR.o.2.2.1.2.1.lt HB4.o.size) Hap.o.1.2.1.symm);have HO5:=hid hO5;have HM5:=hid hm5;clear hO5 hm5 hw5 d0 d1 d2 f0;obtain⟨es,clock,hbm,-⟩:=hown5;have hclr:=fun ty=>uD (P:=prog) (ty:=ty) underlying98 hbm;have hown6:(ChangeMaps.setBlock w5 ab (.map #[] clock)).ownsMap prog 3 (plainElem prog 4) ab 0 (.map []:DataW Unit):=⟨#[],clock,(MapKept.heap_set hbm).1,⟨by simp,MapKept.stamped_empty clock,by simp⟩,Nat.le_refl _,rfl⟩;have hturn6:w5.mapTurned (ChangeMaps.setBlock w5 ab (.map #[] clock)) ab:=⟨es,clock,#[],clock,hbm,rfl⟩;generalize ChangeMaps.setBlock w5 ab (.map #[] clock)=w6 at hclr hown6 hturn6;have HO6:=hid (jo hturn6);have HD6:=hid hown6;clear hown6 hturn6 hbm
   go_wp2;go_end0
   obtain⟨r1,r2,r3,r4⟩:=HR.o;have hap:=Hap.o;have h4s:=HB4.o.size;have h5s:=HO5.o.size;have hlb:=za r1.last;have hgl:=za HG.o.1;have ab5:m<wr.heap.size:=r1.lts m (Or.inl rfl);have abl:ab<wr.heap.size:=r3.2.1.lt;have hws:w.heap.size≤wr.heap.size:=Nat.le_trans HB1.o.size r4.size;have hg5:w5.heap[g]? =some (.cells (jZ Y T) 126 (0,0)):=(HO5.o.block g hgl (by have:=HG.o.2;omega)).trans HG.o.1;have hl5:w5.heap[lb]? =some (.cells (ze Y) 126 (0,0)):=(HO5.o.block lb (by omega) hap.2.2.symm).trans ((HB4.o.block lb hlb).trans r1.last);have hl6:=(HO6.o.block lb (za hl5) hap.2.1).trans hl5
   refine⟨rfl,⟨g,Y,Nat.le_trans hws HG.o.2,r2,⟨⟨⟨c,(HO6.o.block m (za HM5.o) hap.1.2.1).trans HM5.o⟩,⟨T,(HO6.o.block g (za hg5) (by have:=HG.o.2;omega)).trans hg5⟩,⟨Y,0,.map [],⟨rfl,hl6⟩,⟨Nat.zero_le _,HD6.o,fun kl hkl=>by cases hkl⟩,fun _ _ _=>Or.inl rfl⟩,r1.zlen.trans r1.len,r1.small,r1.lines,by have:=HG.o.2;omega⟩,hl6⟩⟩,?_⟩;have o1:zi (fun k=>k=m∨k=lb∨k=ab) w wr:=(zg HB1.o _).trans (r4.mono (G:=fun k=>k=m∨k=lb∨k=ab) fun _ _ e=>Or.inr e) fun _ _ e=>e;exact((o1.trans (zg HB4.o (fun k=>k=m∨k=lb∨k=ab)) fun _ _ e=>e).trans (HO5.o.mono (G:=fun k=>k=m∨k=lb∨k=ab) fun _ _ e=>Or.inl e) fun _ _ e=>e).trans (HO6.o.mono (G:=fun k=>k=m∨k=lb∨k=ab) fun _ _ e=>Or.inr (Or.inr e)) fun _ _ e=>e
end
namespace Gd
theorem xor_bit(a b i:Nat):(a^^^b)/2^i % 2=(if a/2^i % 2=b/2^i % 2 then 0 else 1):=by
 have h:=Nat.testBit_xor a b i;rw[Nat.testBit_eq_decide_div_mod_eq,Nat.testBit_eq_decide_div_mod_eq,Nat.testBit_eq_decide_div_mod_eq]at h;have h0:=Nat.mod_two_eq_zero_or_one ((a^^^b)/2^i);have h1:=Nat.mod_two_eq_zero_or_one (a/2^i);have h2:=Nat.mod_two_eq_zero_or_one (b/2^i);rcases h0 with h0|h0<;>rcases h1 with h1|h1<;>rcases h2 with h2|h2<;>rw[h0,h1,h2]at h⊢ <;>simp at h⊢
theorem xor_next(a b i:Nat):(a^^^b) % 2^(i+1)=(a^^^b) % 2^i+(if a/2^i % 2=b/2^i % 2 then 0 else 2^i):=by
 rw[Nat.mod_pow_succ,xor_bit];split<;>simp
def refR:Nat→Nat→Nat→Nat
 |0,r,_=>r
 |k+1,r,c=>if refR k r c % 2=c/2^k % 2 then refR k r c/2 else(refR k r c/2)^^^poly
theorem refR_steps:∀(k r c:Nat),bitSteps k (r^^^c)=refR k r c^^^(c/2^k)
 |0,r,c=>by simp[bitSteps,refR]
 |k+1,r,c=>by
  rw[bitSteps,refR_steps k,refR,Nat.pow_succ,←Nat.div_div_eq_div_mul];generalize refR k r c=x;generalize c/2^k=y;unfold bitStep;have h0:(x^^^y)/2=(x/2)^^^(y/2):=by
   have:=Nat.shiftRight_xor_distrib (a:=x) (b:=y) (i:=1)
   rw[Nat.shiftRight_eq_div_pow,Nat.shiftRight_eq_div_pow,Nat.shiftRight_eq_div_pow]at this;exact this
  have h1:(x^^^y) % 2=(x+y) % 2:=by
   have:=xor_bit x y 0
   simp only[Nat.pow_zero,Nat.div_one]at this;split at this<;>omega
  have h2:=Nat.mod_two_eq_zero_or_one x;have h3:=Nat.mod_two_eq_zero_or_one y;rw[h0];by_cases hc:x % 2=y % 2
  ·rw[if_pos hc,if_neg (by omega)]
  ·rw[if_neg hc,if_pos (by omega),Nat.xor_assoc,Nat.xor_assoc,Nat.xor_comm poly]
theorem refR_byte(r:Nat)(c:UInt8):refR 8 r c.toNat=byteStep r c:=by
 unfold byteStep;rw[refR_steps,Nat.div_eq_of_lt c.toNat_lt,Nat.xor_zero]
end Gd
theorem Yg(a b:Nat)(ha:a<4294967296)(hb:b<4294967296)(w:World):Calls prog 147 #[.int .i64 a,.int .i64 b] w fun e w'=>e= .returned (.int .i64 (a^^^b:Nat))∧w'=w:=by
 have HX:Hid ((a^^^b)<2^32):=hid (Nat.xor_lt_two_pow (n:=32) ha hb);go_enter func147,ntmps147;go_upto_region 3 with fail
 go_wp2;go_loop [0,1,5,6,7] (fun u v n p i=>∃k x y m q:Nat,u= .int .i64 x∧v= .int .i64 y∧n= .int .i64 m∧p= .int .i64 q∧i= .int .i64 k∧k≤32∧x<4294967296∧y<4294967296∧m<4294967296∧q≤4294967296∧Hid (x=a/2^k∧y=b/2^k∧m=(a^^^b) % 2^k∧q=2^k)) (fun _ _ _ _ i=>32-(intOf i).toNat)
 case atStart=>exact⟨0,a,b,0,1,rfl,rfl,rfl,rfl,rfl,by omega,ha,hb,by omega,by omega,hid ⟨by simp,by simp,by simp[Nat.mod_one],rfl⟩⟩
 case round=>
  obtain⟨k,x,y,m,q,rfl,rfl,rfl,rfl,rfl,hk,hx,hy,hm,hq,HH⟩:=hrel;by_cases hlt:k<32
  ·have h1:(k:Int)<32:=by omega
   have HN:Hid (x/2=a/2^(k+1)∧y/2=b/2^(k+1)∧2*q=2^(k+1)∧(a^^^b) % 2^(k+1)=m+if x % 2=y % 2 then 0 else q):=hid (by
    obtain⟨rfl,rfl,rfl,rfl⟩:=HH.o;exact⟨by rw[Nat.pow_succ,Nat.div_div_eq_div_mul],by rw[Nat.pow_succ,Nat.div_div_eq_div_mul],by rw[Nat.pow_succ,Nat.mul_comm],Gd.xor_next a b k⟩)
   have hq2:q<4294967296:=by
    obtain⟨_,_,_,rfl⟩:=HH.o;exact Nat.pow_lt_pow_of_lt (a:=2) (n:=k) (m:=32) (by omega) hlt
   have hq3:2*q≤4294967296:=by
    rw[HN.o.2.2.1];exact(Nat.pow_le_pow_right (by decide:0<2) (by omega:k+1≤32))
   have hm2:(m+if x % 2=y % 2 then 0 else q)<4294967296:=by
    have h:=HN.o.2.2.2;rw[←h];exact Nat.lt_of_le_of_lt (Nat.mod_le _ _) HX.o
   by_cases hc:x % 2=y % 2
   ·rw[if_pos hc]at HN hm2;have hci:((x:Int) % 2)=(y:Int) % 2:=by omega
    clear HH hlt;go_wp2;go_round
    case rel=>exact⟨k+1,x/2,y/2,m,2*q,by go_num,by go_num,by go_num,by go_num,by go_num,by omega,by omega,by omega,hm,hq3,hid ⟨HN.o.1,HN.o.2.1,by rw[HN.o.2.2.2];rfl,HN.o.2.2.1⟩⟩
    case measure=>simp[intOf];omega
   ·rw[if_neg hc]at HN hm2;have hci:¬((x:Int) % 2)=(y:Int) % 2:=by omega
    clear HH hlt;go_wp2;go_round
    case rel=>exact⟨k+1,x/2,y/2,m+q,2*q,by go_num,by go_num,by go_num,by go_num,by go_num,by omega,by omega,by omega,hm2,hq3,hid ⟨HN.o.1,HN.o.2.1,by rw[HN.o.2.2.2],HN.o.2.2.1⟩⟩
    case measure=>simp[intOf];omega
  ·have h1:¬(k:Int)<32:=by omega
   have HK:Hid (k=32):=hid (by omega);clear hlt hk;go_wp2;go_ret
   refine⟨?_,rfl⟩;rw[HH.o.2.2.1,HK.o,Nat.mod_eq_of_lt HX.o];rfl
theorem Yr(r:Nat)(v:Value)(L:List UInt8)(hr:r<4294967296)(w:World)(hb:zr w v L)(hl:L.length≤1000000):Calls prog 117 #[.int .i64 r,v] w fun e w'=>e= .returned (.int .i64 (Gd.crcR r L:Nat))∧w'=w:=by
 obtain⟨A,c,rfl,hA⟩:=hb;have HA:=hid hA;obtain⟨n,hn⟩:=nm L.length;rw[←hn];rw[←hn]at hl;have Hn:=hid hn;clear hA hn;go_enter func117,ntmps117;go_upto_region 1 with fail
 go_wp2;go_loopw[0,5] (fun u z wr=>∃i x:Nat,z= .int .i64 i∧u= .int .i64 x∧x<4294967296∧i≤n∧wr=w∧Hid (x=Gd.crcR r (L.take i))) (fun _ z _=>n-(intOf z).toNat)
 case atStart=>exact⟨0,r,rfl,rfl,hr,by omega,rfl,hid rfl⟩
 case round=>
  obtain⟨i,x,rfl,rfl,hx,hin,rfl,HR⟩:=hrel;by_cases hlt:i<n
  ·obtain⟨y,hy⟩:∃y,L[i]? =some y:=⟨_,List.getElem?_eq_getElem (by have:=Hn.o;omega)⟩;obtain⟨b,o,rfl,hbl,hcell⟩:∃b o,A=some ⟨b,o,none⟩∧b<wr.heap.size∧∀(j:Nat) (x:UInt8),L[j]? =some x→wr.cell? ⟨b,o+j,none⟩=some (.int .u8 x.toNat):=by
    rcases HA.o with⟨_,h,_⟩|h
    ·rw[h]at hy;simp at hy
    ·exact h
   have hc:=hcell i y hy;have h1:(i:Int)<n:=by omega
   have h0:(0:Int)≤i:=by omega
   have HS:Hid (Gd.crcR r (L.take (i+1))=Gd.refR 8 x y.toNat):=hid (by rw[List.take_add_one,hy,Gd.refR_byte,HR.o];exact Gd.crcR_snoc _ _ _);have hy8:=y.toNat_lt;have HA2:=hid hcell;clear hy hlt hcell;go_upto_region 5 with fail
   go_wp2;go_loopw[0,6,7] (fun u p z wz=>∃k xx q:Nat,z= .int .i64 k∧u= .int .i64 xx∧p= .int .i64 q∧xx<4294967296∧q<256∧k≤8∧wz=wr∧Hid (xx=Gd.refR k x y.toNat∧q=y.toNat/2^k)) (fun _ _ z _=>8-(intOf z).toNat)
   case atStart=>exact⟨0,x,y.toNat,rfl,rfl,rfl,hx,hy8,by omega,rfl,hid ⟨rfl,by simp⟩⟩
   case round=>
    obtain⟨k,xx,q,rfl,rfl,rfl,hxx,hq,hk8,rfl,HQ⟩:=hrel;by_cases hlt:k<8
    ·have h2:(k:Int)<8:=by omega
     have HN:Hid (Gd.refR (k+1) x y.toNat=(if xx % 2=q % 2 then xx/2 else(xx/2)^^^Gd.poly)∧q/2=y.toNat/2^(k+1)):=hid (by
      obtain⟨rfl,rfl⟩:=HQ.o;exact⟨by rw[Gd.refR],by rw[Nat.pow_succ,Nat.div_div_eq_div_mul]⟩)
     have HP:=hid (Yg (xx/2) Gd.poly (by omega) Gd.poly_lt);have HL:Hid ((xx/2)^^^Gd.poly<4294967296):=hid (Nat.xor_lt_two_pow (n:=32) (by omega) Gd.poly_lt);clear HQ;by_cases hc:xx % 2=q % 2
     ·rw[if_pos hc]at HN;have hci:((xx:Int) % 2)=(q:Int) % 2:=by omega
      clear HP HL hlt;go_wp2;go_roundw
      case rel=>exact⟨k+1,xx/2,q/2,by go_num,by go_num,by go_num,by omega,by omega,by omega,trivial,hid ⟨HN.o.1.symm,HN.o.2⟩⟩
      case measure=>simp[intOf];omega
     ·rw[if_neg hc]at HN;have hci:¬((xx:Int) % 2)=(q:Int) % 2:=by omega
      clear hlt;go_wp2_with(go_at_call 147;refine(HP.o _).mono ?_;rintro e w' ⟨rfl,rfl⟩)
      go_roundw
      case rel=>exact⟨k+1,(xx/2)^^^Gd.poly,q/2,by go_num,by go_num,by go_num,HL.o,by omega,by omega,trivial,hid ⟨HN.o.1.symm,HN.o.2⟩⟩
      case measure=>simp[intOf];omega
    ·have h2:¬(k:Int)<8:=by omega
     have HK:Hid (k=8):=hid (by omega);clear hlt hk8;go_wp2;go_roundw
     case rel=>exact⟨i+1,xx,by go_num,by go_num,hxx,by omega,trivial,hid (by rw[HQ.o.1,HK.o,HS.o])⟩
     case measure=>simp[intOf];omega
  ·have h1:¬(i:Int)<n:=by omega
   have HK:Hid (i=n):=hid (by omega);clear hlt;go_wp2;go_ret
   have:=HR.o
   rw[HK.o,List.take_of_length_le (by have:=Hn.o;omega)]at this;exact⟨by rw[this];rfl,rfl⟩
theorem ZP(v:Value)(L:List UInt8)(w:World)(hb:zr w v L)(hl:L.length≤1000000):Calls prog 67 #[v] w fun e w'=>e= .returned (.int .i64 (Gd.crc L))∧w'=w:=by
 have HM:=hid (Yr Gd.ones v L (by decide) w hb hl);have hlt:=Gd.crcR_lt L (r:=Gd.ones) (by decide);have HC:Hid ((Gd.crc L:Int)=4294967295-(Gd.crcR Gd.ones L:Nat)):=hid (by unfold Gd.crc;show((4294967295-Gd.crcR Gd.ones L:Nat):Int)=_;omega);clear hb;go_enter func67,ntmps67;go_wp2_with fail
 refine HM.o.mono ?_;rintro e w2 ⟨rfl,rfl⟩;go_wp2;go_ret
 exact⟨by rw[HC.o];rfl,rfl⟩
theorem Q7(n:Nat)(hn:n≤7)(w:World):Calls prog 118 #[.int .i64 n] w fun e w'=>e= .returned (.int .i64 (256^n:Nat))∧w'=w:=by
 go_enter func118,ntmps118;go_upto_region 2 with fail
 go_wp2;go_loop [3,4] (fun u z=>∃k x:Nat,u= .int .i64 x∧z= .int .i64 k∧k≤n∧x≤72057594037927936∧Hid (x=256^k)) (fun _ z=>n-(intOf z).toNat)
 case atStart=>exact⟨0,1,rfl,rfl,by omega,by omega,hid rfl⟩
 case round=>
  obtain⟨k,x,rfl,rfl,hk,hx,HX⟩:=hrel;by_cases hlt:k<n
  ·have h1:(k:Int)<n:=by omega
   have hx2:x*256≤72057594037927936:=by
    rw[HX.o,←Nat.pow_succ];exact(Nat.pow_le_pow_right (by decide:0<256) (by omega:k+1≤7))
   clear hlt;go_wp2;go_round
   case rel=>exact⟨k+1,x*256,by go_num,by go_num,by omega,hx2,hid (by rw[HX.o,Nat.pow_succ])⟩
   case measure=>simp[intOf];omega
  ·have h1:¬(k:Int)<n:=by omega
   have HK:Hid (k=n):=hid (by omega);clear hlt hk;go_wp2;go_ret
   rw[HX.o,HK.o];exact⟨rfl,rfl⟩
theorem Q1(n:Int)(k:Nat)(hk:Gd.wid k)(hn:I64 n)(w:World):Calls prog 72 #[.int .i64 n,.int .i64 k] w fun e w'=>e= .returned (.bool (Gd.fitsB n k))∧w'=w:=by
 obtain⟨hlo,hhi⟩:=hn.lo;clear hn;by_cases h0:n<0
 ·go_enter func72,ntmps72;go_wp2;go_ret
  refine⟨zn ?_,rfl⟩;unfold Gd.fitsB;rw[decide_eq_false (by omega:¬0≤n)];rfl
 ·have HF:Hid (Gd.fitsB n k=(decide (k=8)||decide (n<((256^k:Nat):Int)))):=hid (by unfold Gd.fitsB;rw[decide_eq_true (by omega:0≤n)];rfl);by_cases h8:k=8
  ·subst h8;go_enter func72,ntmps72;go_wp2;go_ret
   exact⟨zn (by rw[HF.o];rfl),rfl⟩
  ·have HP:=hid (Q7 k (by rcases hk with rfl|rfl|rfl|rfl<;>omega));rw[decide_eq_false h8,Bool.false_or]at HF;obtain⟨q,hq⟩:∃q:Nat,q=256^k:=⟨_,rfl⟩;have hq2:q≤4294967296:=by rw[hq];rcases hk with rfl|rfl|rfl|rfl<;>first|decide|exact absurd rfl h8
   rw[←hq]at HP HF;have hk3:k=1∨k=2∨k=4:=by rcases hk with h|h|h|h<;>omega
   clear hk h8 hq;rcases hk3 with rfl|rfl|rfl
   all_goals
    go_enter func72,ntmps72;go_wp2_with(go_at_call 118;refine(HP.o _).mono ?_;rintro e w' ⟨rfl,rfl⟩)
    go_ret
    exact⟨zn (by rw[HF.o]),rfl⟩
theorem ZS(v:Value)(L:List UInt8)(n:Int)(k:Nat)(hk:Gd.wid k)(hn:I64 n)(w:World)(h:zr w v L)(hl:L.length≤900000):Calls prog 28 #[v,.int .i64 n,.int .i64 k] w (qL w (Gd.put L n k)):=by
 have HF:=hid (Q1 n k hk hn);have hk8:k≤8:=by rcases hk with rfl|rfl|rfl|rfl<;>omega
 have HN:=hid hn;have HV:=hid h;obtain⟨fb,hfb⟩:=nm (Gd.fitsB n k);rw[←hfb]at HF;have HFb:=hid hfb;clear h hn hfb;go_enter func28,ntmps28;go_wp2_with(at_builtin;refine vd rfl _ _ rfl w.heap.size (.slice none 0 0) [] w rfl (q8 _ _) v L HV.o rfl (by simp;omega) (Nat.le_refl _) ?_)
 intro v1 w1 ho1 hb1;have HO1:=hid ho1;have HB1:=hid hb1;clear ho1 hb1
 cases fb with
 |false=>
  go_wp2_with(go_at_call 72;refine(HF.o _).mono ?_;rintro e w2 ⟨rfl,rfl⟩)
  go_ret
  unfold qL Gd.put;rw[←HFb.o];exact⟨_,rfl,HO1.o,HB1.o⟩
 |true=>
  obtain⟨m,hm⟩:∃m:Nat,n=m:=⟨n.toNat,by have:=HFb.o;unfold Gd.fitsB at this;simp at this;omega⟩;subst hm;have hm63:m≤9223372036854775807:=by have:=HN.o.lo;omega
  go_upto_region 6 with(go_at_call 72;refine(HF.o _).mono ?_;rintro e w2 ⟨rfl,rfl⟩)
  go_wp2;go_loopw[1,7,9] (fun y u z wr=>∃i x:Nat,z= .int .i64 i∧y= .int .i64 x∧i≤k∧x≤9223372036854775807∧Hid (x=m/256^i)∧zA wr w.heap.size u (L++Gd.le m i)∧Below w.heap.size w wr) (fun _ _ z _=>k-(intOf z).toNat)
  case atStart=>exact⟨0,m,rfl,rfl,by omega,hm63,hid (by simp),by rw[Gd.le,List.append_nil];exact HO1.o,HB1.o⟩
  case round=>
   obtain⟨i,x,rfl,rfl,hik,hx,HX,hown,hbw⟩:=hrel;by_cases hlt:i<k
   ·have HO:=hid hown;have HB:=hid hbw;have h1:(i:Int)<k:=by omega
    have h2:(i:Int)<8:=by omega
    clear hown hbw;have HV:Hid ((x:Int) % 256=((UInt8.ofNat (m/256^i)).toNat:Int)):=hid (by rw[←HX.o];simp);have HL:Hid ((L++Gd.le m i).length<1000000):=hid (by rw[List.length_append,Gd.le_length];omega);go_wp2_with(at_builtin;refine xL rfl _ _ rfl w.heap.size u7 (L++Gd.le m i) wr rfl HO.o _ (UInt8.ofNat (m/256^i)) HV.o rfl HL.o HB.o.size ?_)
    intro v' w' ho' hb';have HO':Hid (zA w' w.heap.size v' (L++Gd.le m (i+1))):=hid (by rw[ZZ];exact ho');have HB':=hid (HB.o.trans hb');clear ho' hb';go_wp2;go_roundw
    case rel=>exact⟨i+1,x/256,by go_num,by go_num,by omega,by omega,hid (by rw[HX.o,Nat.pow_succ,Nat.div_div_eq_div_mul]),HO'.o,HB'.o⟩
    case measure=>simp[intOf];omega
   ·obtain rfl:i=k:=by omega
    have HO:=hid hown;have HB:=hid hbw;clear hown hbw;go_wp2;go_ret
    unfold qL Gd.put;rw[←HFb.o];exact⟨_,rfl,HO.o,HB.o⟩
end Go.Proofs.YtccpdkjonepoiaaGreatDoor
