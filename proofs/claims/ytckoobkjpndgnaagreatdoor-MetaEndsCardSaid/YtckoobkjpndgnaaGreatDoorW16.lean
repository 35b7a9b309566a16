/- Walks: the example of chapter 14: Mkdir, Open. -/
import Derived.Test.YtckoobkjpndgnaaGreatDoorW15
set_option linter.unusedVariables false
set_option linter.unusedSimpArgs false
set_option linter.unusedSectionVars false
set_option maxHeartbeats 8000000
set_option maxRecDepth 100000
namespace Go.Proofs.YtckoobkjpndgnaaGreatDoor
open Go.RowKit
open Lib(hid)
open Go.Proofs.Tryz
section
open Go.Shelf
section
variable {x t K:Nat} {S Z:List UInt8} {F:Nat→Prop} {w a:World} {Ls:List (Nat×Obj)}
theorem lv_mkdir[MemNo](mx:Int)(h:Tl x t S (Gd.freshV Z) 0 K F w a Ls)(hmx:a.cell? ⟨0,0,none⟩=some (.int .i64 mx))(hml:0<a.heap.size):
 Calls prog 29 #[.pointer (some ⟨x,0,none⟩),.string ⟨#[47,100]⟩,.int .i64 0] a fun e b=>e= .returned (.int .i64 0)∧∃N,Gd.Lv1 N∧Tl x t S N 5 K F w b Ls:=by
 obtain⟨F1,h1,h2⟩:=h;have hT:=Gd.fresh_tree Z;have hD1:=hT.dir 1 (by omega) (by omega) rfl;have hh:Gd.hN [100]=14:=Gd.hash4.2.2.2;have hf1:Gd.firstB ((Gd.freshV Z).setIno 2 Gd.rootI).map=1:=Gd.first0.1;have hc0:Gd.countB ((Gd.freshV Z).setIno 2 Gd.rootI).map=0:=Gd.first0.2;refine(mkdir_ok (x:=x) ⟨#[47,100]⟩ ⟨#[100]⟩ 0 1 2 10 0 a (fun b=>Turns x t S ((((Gd.freshV Z).setIno 2 Gd.rootI).take.setBlk 1 (Gd.blkT Gd.lvD 3)).setIno 1 ⟨2,1,1,[0,0,0,1],Gd.z8⟩) 5 K F1 a b) (by omega) (fun W hW=> ?_) (fun W hW=> ?_) (fun W hW=> ?_) (fun W hW=> ?_)).mono ?_
 ·have:=mwalk_yes ⟨#[47,100]⟩ [[100]] mx W (h1.inv.below hW) hT (by decide) ((hW.cell (p:=⟨0,0,none⟩) hml).trans hmx) Gd.pathsL.1
  rw[Gd.walk_d0]at this;exact this
 ·have:=mplace_yes ⟨#[47,100]⟩ [] [100] mx W (h1.inv.below hW) hT (by decide) ((hW.cell (p:=⟨0,0,none⟩) hml).trans hmx) Gd.pathsL.1
  rw[Gd.place_d0]at this;exact this
 ·exact find_no [100] W (h1.inv.below hW) hD1 (by decide) (by decide) (by rw[hh];exact Gd.findD.1)
 ·refine(make_ok (M2:=((((Gd.freshV Z).setIno 2 Gd.rootI).take.setBlk 1 (Gd.blkT Gd.lvD 3)).setIno 1 ⟨2,1,1,[0,0,0,1],Gd.z8⟩)) (c2:=5) ⟨#[100]⟩ 2 Gd.rootI 0 W (h1.inv.below hW) Gd.root_shape Gd.root_may (by omega) (by omega) rfl (fun i i1 i2=> ?_) (by omega) (fun W1 F2 h3=> ?_)).mono ?_
  ·obtain rfl:i=1:=by omega
   show(2:Int)≠0
   decide
  ·refine put_ok [100] 2 0 0 14 W1 (fun w'=>Turns x t S ((((Gd.freshV Z).setIno 2 Gd.rootI).take.setBlk 1 (Gd.blkT Gd.lvD 3)).setIno 1 ⟨2,1,1,[0,0,0,1],Gd.z8⟩) 5 K F2 W1 w') h3 (hD1.same rfl rfl) (by decide) (by rw[hh];exact Gd.place0) fun W2 hW2=> ?_;have:=change_new (a:=14) (d:=1) Gd.lvD 1 0 W2 (h3.below hW2) (by omega) (by omega) (by omega) Gd.lvD_ok (Gd.usedT_set rfl (by omega) (ent_not (by omega))) rfl (by rw[hc0];decide) (by rw[hf1];exact Gd.mayL.1) (show(0:Int)≤0+1∧(0:Int)+1≤16 by decide) (by omega)
   rw[hf1]at this;exact this.mono fun e w' ⟨he,ht⟩=>⟨he,ht.behind hW2⟩
  ·rintro e w' ⟨he,ht⟩;exact⟨he,ht.behind hW⟩
 ·rintro e w' ⟨he,ht⟩;exact⟨he,_,Gd.lv1_of Z rfl,Tl.next h1 h2 ht⟩
theorem lv_open[MemNo]{M:Gd.Vol}(mx:Int)(h:Tl x t S M 5 K F w a Ls)(hL:Gd.Lv1 M)(hmx:a.cell? ⟨0,0,none⟩=some (.int .i64 mx))(hml:0<a.heap.size):
 Calls prog 27 #[.pointer (some ⟨x,0,none⟩),.int .i64 1,.string ⟨#[47,100,47,97]⟩,.int .i64 1,.bool false,.int .i64 0] a fun e b=>e= .returned (.tuple #[.int .i64 3,.int .i64 0])∧∃N,Gd.Lv2 N∧Tl x t S N 10 K F w b Ls:=by
 obtain⟨F1,h1,h2⟩:=h;have hT:=hL.tree;have hD2:Gd.DirOf M 2 Gd.noTab:=hT.dir 2 (by omega) (by omega) (by rw[hL.i2];rfl);have hh:Gd.hN [97]=14:=Gd.hash4.1;have hf1:Gd.firstB (M.setIno 3 (newF.setO 0 1)).map=2:=by
  show Gd.firstB M.map=2
  rw[hL.map];exact Gd.first1.1
 have hc0:Gd.countB (M.setIno 3 (newF.setO 0 1)).map=1:=by
  show Gd.countB M.map=1
  rw[hL.map];exact Gd.first1.2
 have hi2:(M.setIno 3 (newF.setO 0 1)).ino 2=Gd.rootI:=by
  show(if 2=3 then newF.setO 0 1 else M.ino 2)=_
  rw[if_neg (by omega),hL.i2]
 refine(open_new (x:=x) 1 ⟨#[47,100,47,97]⟩ ⟨#[97]⟩ 0 2 3 0 a (fun b=>Turns x t S (((M.setIno 3 (newF.setO 0 1)).take.setBlk 2 (Gd.blkT Gd.lvT 3)).setIno 2 ⟨2,1,1,[0,0,0,2],Gd.z8⟩) 10 K F1 a b) (by omega) (by omega) (fun W hW=> ?_) (fun W hW=> ?_) (fun W hW=> ?_)).mono ?_
 ·have:=mwalk_yes ⟨#[47,100,47,97]⟩ [[100],[97]] mx W (h1.inv.below hW) hT (by decide) ((hW.cell (p:=⟨0,0,none⟩) hml).trans hmx) Gd.pathsL.2
  rw[hL.walk_a]at this;exact this
 ·have:=mplace_yes ⟨#[47,100,47,97]⟩ [[100]] [97] mx W (h1.inv.below hW) hT (by decide) ((hW.cell (p:=⟨0,0,none⟩) hml).trans hmx) Gd.pathsL.2
  rw[hL.place_a]at this;exact this
 ·refine(make_ok (M2:=(((M.setIno 3 (newF.setO 0 1)).take.setBlk 2 (Gd.blkT Gd.lvT 3)).setIno 2 ⟨2,1,1,[0,0,0,2],Gd.z8⟩)) (c2:=10) ⟨#[97]⟩ 3 (newF.setO 0 1) 0 W (h1.inv.below hW) (Gd.Ino.setO_shape newF_shape 0 1) (by decide) (by omega) (by omega) (by rw[hL.rest 3 (by omega)];rfl) (fun i i1 i2=> ?_) (by omega) (fun W1 F2 h3=> ?_)).mono ?_
  ·rcases(by omega:i=1∨i=2)with rfl|rfl
   ·rw[hL.i1];show(2:Int)≠0
    decide
   ·rw[hL.i2];decide
  ·refine put_ok [97] 3 0 0 14 W1 (fun w'=>Turns x t S (((M.setIno 3 (newF.setO 0 1)).take.setBlk 2 (Gd.blkT Gd.lvT 3)).setIno 2 ⟨2,1,1,[0,0,0,2],Gd.z8⟩) 10 K F2 W1 w') h3 (hD2.same (hi2.trans hL.i2.symm) rfl) (by decide) (by rw[hh];exact Gd.place0) fun W2 hW2=> ?_;have:=change_new (a:=14) (d:=2) Gd.lvT 1 0 W2 (h3.below hW2) (by omega) (by omega) (by omega) Gd.lvT_ok (Gd.usedT_set rfl (by omega) (ent_not (by omega))) (by rw[hi2];rfl) (by rw[hc0];decide) (by rw[hf1,hi2];exact Gd.mayL.2.1) (by rw[hi2];decide) (by omega)
   rw[hf1,hi2]at this;exact this.mono fun e w' ⟨he,ht⟩=>⟨he,ht.behind hW2⟩
  ·rintro e w' ⟨he,ht⟩;exact⟨he,ht.behind hW⟩
 ·rintro e w' ⟨he,ht⟩;exact⟨he,_,Gd.lv2_of hL rfl,Tl.next h1 h2 ht⟩
end
end
section
open Go.Shelf
theorem setIno_at(M:Gd.Vol)(i:Nat)(y:Gd.Ino):(M.setIno i y).ino i=y:=by simp[Gd.Vol.setIno]
section
variable {x t K:Nat} {S:List UInt8} {F:Nat→Prop} {w a:World} {Ls:List (Nat×Obj)} {M:Gd.Vol}
theorem lv_stat[MemNo](mx:Int)(h:Tl x t S M 10 K F w a Ls)(hL:Gd.Lv2 M)(hmx:a.cell? ⟨0,0,none⟩=some (.int .i64 mx))(hml:0<a.heap.size):
 Calls prog 35 #[.pointer (some ⟨x,0,none⟩),.string ⟨#[47,100]⟩] a fun e b=>e= .returned (.tuple #[.agg #[.int .i64 2,.int .i64 1,.int .i64 1],.int .i64 0])∧Below a.heap.size a b:=by
 obtain⟨F1,h1,h2⟩:=h;refine stat_ok (x:=x) ⟨#[47,100]⟩ 2 ⟨2,1,1,[0,0,0,2],Gd.z8⟩ ⟨rfl,rfl⟩ a (fun W hW=> ?_) (fun W hW=> ?_)
 ·have:=mwalk_yes ⟨#[47,100]⟩ [[100]] mx W (h1.inv.below hW) hL.tree (by decide) ((hW.cell (p:=⟨0,0,none⟩) hml).trans hmx) Gd.pathsL.1
  rw[hL.walk_d]at this;exact this
 ·have:=inode_ok (2:Int) W (h1.inv.below hW) (by omega) (by omega)
  rw[show((2:Int)).toNat=2 from rfl,hL.i2]at this;exact this
theorem lv_unlink[MemNo](mx:Int)(h:Tl x t S M 10 K F w a Ls)(hL:Gd.Lv2 M)(hmx:a.cell? ⟨0,0,none⟩=some (.int .i64 mx))(hml:0<a.heap.size):
 Calls prog 32 #[.pointer (some ⟨x,0,none⟩),.string ⟨#[47,100,47,97]⟩] a fun e b=>e= .returned (.int .i64 0)∧∃N,N.ino 3=(newF.setO 0 1).setL 0∧Tl x t S N 13 K F w b Ls:=by
 obtain⟨F1,h1,h2⟩:=h;have hT:=hL.tree;have hD2:Gd.DirOf M 2 Gd.lvT:=hT.dir 2 (by omega) (by omega) (by rw[hL.i2]);have hh:Gd.hN [97]=14:=Gd.hash4.1;obtain⟨A,hA⟩:=nm ((M.setMap (Gd.giveI M.map 2)).setIno 2 ⟨2,1,0,[0,0,0,0],Gd.z8⟩);have hA3:A.ino 3=newF.setO 0 1:=by
  rw[hA];show(if 3=2 then(⟨2,1,0,[0,0,0,0],Gd.z8⟩:Gd.Ino)else M.ino 3)=_
  rw[if_neg (by omega),hL.i3]
 refine(unlink_ok (x:=x) ⟨#[47,100,47,97]⟩ 3 (newF.setO 0 1) 0 (Gd.Ino.setO_shape newF_shape 0 1) (by decide) a (fun b=>Turns x t S (A.setIno 3 ((newF.setO 0 1).setL 0)) 13 K F1 a b) (fun W hW=> ?_) (fun W hW=> ?_) (fun W hW=> ?_)).mono ?_
 ·have:=mwalk_yes ⟨#[47,100,47,97]⟩ [[100],[97]] mx W (h1.inv.below hW) hT (by decide) ((hW.cell (p:=⟨0,0,none⟩) hml).trans hmx) Gd.pathsL.2
  rw[hL.walk_a]at this;exact this
 ·have:=inode_ok (3:Int) W (h1.inv.below hW) (by omega) (by omega)
  rw[show((3:Int)).toNat=3 from rfl,hL.i3]at this;exact this
 ·refine remove_ok (x:=x) ⟨#[47,100,47,97]⟩ ⟨#[97]⟩ 3 2 0 W (fun b=>Turns x t S A 12 K F1 a b) _ (fun W2 hW2=> ?_) (fun W2 hW2=> ?_) (fun W2 hQ=> ?_)
  ·have hb:=hW.trans (hW2.mono hW.size);have:=mplace_yes ⟨#[47,100,47,97]⟩ [[100]] [97] mx W2 (h1.inv.below hb) hT (by decide) ((hb.cell (p:=⟨0,0,none⟩) hml).trans hmx) Gd.pathsL.2
   rw[hL.place_a]at this;exact this
  ·have hb:=hW.trans (hW2.mono hW.size);refine take_ok [97] 0 14 W2 (fun b=>Turns x t S A 12 K F1 a b) (h1.inv.below hb) hD2 (by decide) (by decide) (by rw[hh];exact Gd.findA.2.1) fun W3 hW3=> ?_;have hb3:=hb.trans (hW3.mono hb.size);have:=change_give (a:=14) (d:=2) 2 Gd.noTab (-1) 0 W3 (h1.inv.below hb3) (by omega) (by omega) (by omega) Gd.noTab_ok Gd.lvT_back.2 (by rw[hL.i2];rfl) (by rw[hL.i2];exact Gd.mayL.2.2.1) (by rw[hL.i2];decide) (by omega)
   rw[hL.i2]at this;rw[show Gd.setT Gd.lvT (14:Fin 16).val Gd.noEnt=Gd.noTab from Gd.lvT_back.1];refine this.mono ?_;rintro e w' ⟨he,ht⟩;rw[hA];exact⟨he,ht.behind hb3⟩
  ·obtain⟨F2,s2⟩:=hQ;refine less_ok 3 0 W2 _ s2.inv (by omega) (by omega) (by rw[hA3];decide) fun W3 hW3=> ?_;rw[hA3];have:=keep_set 3 ((newF.setO 0 1).setL 0) ⟨rfl,rfl⟩ Gd.mayL.2.2.2 W3 (s2.inv.below hW3) (by omega) (by omega) (by omega) (Or.inr (by decide))
   refine this.mono ?_;rintro e w' ⟨he,ht⟩;obtain⟨F3,s3⟩:=ht.behind hW3;exact⟨he,F3,s2.trans s3⟩
 ·rintro e w' ⟨he,ht⟩;exact⟨he,_,setIno_at _ _ _,Tl.next h1 h2 ht⟩
theorem lv_close[MemNo](h:Tl x t S M 13 K F w a Ls)(h3:M.ino 3=(newF.setO 0 1).setL 0):
 Calls prog 28 #[.pointer (some ⟨x,0,none⟩),.int .i64 1,.int .i64 3] a fun e b=>e= .returned (.int .i64 0)∧∃N,N.ino 3=Gd.noIno∧Tl x t S N 15 K F w b Ls:=by
 obtain⟨F1,h1,h2⟩:=h;obtain⟨A,hA⟩:=nm ((M.setMap (([0,0,0,0]:List Int).foldl Gd.giveI M.map)).setIno 3 Gd.noIno);refine(close_ok 0 3 1 0 a (fun b=>Turns x t S A 15 K F1 a b) h1.inv (by omega) (by omega) (by omega) (by rw[h3];rfl) (by omega) (by omega) (fun W hW=> ?_)).mono ?_
 ·rw[h3];have:=keep_go 3 (((newF.setO 0 1).setL 0).setO 0 (1-1)) ⟨rfl,rfl⟩ (by decide) W (h1.inv.below hW) (by omega) (by omega) (by omega) ⟨rfl,by decide⟩
  refine this.mono ?_;rintro e w' ⟨he,ht⟩;rw[hA];exact⟨he,ht.behind hW⟩
 ·rintro e w' ⟨he,ht⟩;exact⟨he,A,by rw[hA];exact setIno_at _ _ _,Tl.next h1 h2 ht⟩
end
end
section
open Go.Shelf
attribute [local go_sem] Oper.semAt_some
end
theorem rmay_any(s:ByteArray)(w:World)(hs:s.size≤9223372036854775807):
 Calls prog 135 #[.string s] w fun e w'=>e= .returned (.bool (Np.nameB s.data.toList))∧w=w':=by
 have hsz:s.toList.length=s.size:=by rw[Lib.toList_data,←Lib.size_eq]
 have Hsz:=hid hsz;clear hsz;rw[←Lib.toList_data];by_cases h0:s.size<1
 ·have hb:=nameB_no s.toList (by left;have:=Hsz.o;cases h:s.toList with|nil=>rfl|cons _ _=>rw[h]at this;simp at this;omega);rw[hb];clear hb;go_enter func135,ntmps135;go_wp2;go_ret
  exact⟨rfl,rfl⟩
 by_cases h1:12<s.size
 ·have hb:=nameB_no s.toList (by right;left;have:=Hsz.o;omega);rw[hb];clear hb;go_enter func135,ntmps135;go_wp2;go_ret
  exact⟨rfl,rfl⟩
 by_cases h2:s.toList=[46]
 ·have hb:=nameB_no s.toList (by right;right;left;exact h2);rw[hb];clear hb;go_enter func135,ntmps135;go_wp2;go_ret
  exact⟨rfl,rfl⟩
 by_cases h3:s.toList=[46,46]
 ·have hb:=nameB_no s.toList (by right;right;right;exact h3);rw[hb];clear hb;go_enter func135,ntmps135;go_wp2;go_ret
  exact⟨rfl,rfl⟩
 have hb:=nameB_yes s.toList (by have:=Hsz.o;cases h:s.toList with|nil=>rw[h]at this;simp at this;omega|cons _ _=>rfl) (by have:=Hsz.o;omega) h2 h3;rw[Lib.toList_data]at hb⊢;have Hb:=hid hb;clear hb;have h2b:(s.toList==[46])=false:=beq_eq_false_iff_ne.2 h2;have h3b:(s.toList==[46,46])=false:=beq_eq_false_iff_ne.2 h3;clear h2 h3;go_enter func135,ntmps135;go_wp2;go_loop [3] (fun i=>∃k:Nat,k≤s.size∧i= .int .i64 k∧Hid ((s.data.toList.take k).all Np.okc=true)) (fun i=>s.size-(intOf i).toNat)
 case atStart=>exact⟨0,by omega,rfl,by show(s.data.toList.take 0).all Np.okc=true;simp⟩
 case round=>
  obtain⟨k,hk,rfl,hok⟩:=hrel;by_cases hlt:k<s.size
  ·go_wp2;all_goals first
    |(have hk:okr (s[k]'hlt).toNat=true:=by
       (simp only[okr,Bool.or_eq_true,Bool.and_eq_true,decide_eq_true_eq,beq_iff_eq]
        try simp only[Bool.not_eq_eq_eq_not,Bool.not_true,Bool.not_false,decide_eq_true_eq,decide_eq_false_iff_not,bne_iff_ne,bne_eq_false_iff_eq,ne_eq,beq_iff_eq,beq_eq_false_iff_ne]at*
        omega)
      go_round
      case rel=>exact⟨k+1,by omega,by go_num,by show _=_;rw[okc_num hlt hk,hok.o];rfl⟩
      case measure=>simp[intOf];omega)
    |(have hk:okr (s[k]'hlt).toNat=false:=by
       (rw[Bool.eq_false_iff]
        simp only[okr,ne_eq,Bool.or_eq_true,Bool.and_eq_true,decide_eq_true_eq,beq_iff_eq];try simp only[Bool.not_eq_eq_eq_not,Bool.not_true,Bool.not_false,decide_eq_true_eq,decide_eq_false_iff_not,bne_iff_ne,bne_eq_false_iff_eq,ne_eq,beq_iff_eq,beq_eq_false_iff_ne]at*
        omega)
      go_ret
      refine⟨ret_bool ?_,rfl⟩;rw[Hb.o,all_take_false (k:=k+1) (by rw[okc_num hlt hk];simp)])
  ·go_wp2;go_ret
   refine⟨ret_bool ?_,rfl⟩;have:=hok.o
   rw[List.take_of_length_le (by rw[←Lib.size_eq];omega)]at this;rw[Hb.o,this]
theorem take_both{L M:List (List UInt8)}{k:Nat}{x y:List UInt8}(h:L.take k=M.take k)(hx:L[k]? =some x)(hy:M[k]? =some y):(L.take (k+1)=M.take (k+1))↔x=y:=by
 rw[List.take_add_one,List.take_add_one,hx,hy,h];simp
theorem same_any(A A':Option Addr)(L M:List (List UInt8))(c c':Nat)(B:Nat)(w:World)(hL:L.length≤1000000)(hM:M.length≤1000000)(hS:Strs w B A L)(hS':Strs w B A' M):
 Calls prog 60 #[.slice A L.length c,.slice A' M.length c'] w fun e w'=>e= .returned (.bool (decide (L=M)))∧Below w.heap.size w w':=by
 have HS:=hid hS;clear hS;have HS':=hid hS';clear hS';by_cases hne:L.length=M.length
 ·obtain⟨n,hn⟩:=nm L.length;rw[←hne,←hn];have Hn:=hid hn;have Hm:=hid (hn.trans hne);have hn1:n≤1000000:=by omega
  clear hn hne hL hM;obtain⟨r,hr⟩:=nm (decide (L=M));rw[←hr];have Hr:=hid hr;clear hr;go_enter func60,ntmps60;go_wp2;go_loopw[5] (fun i wr=>∃k:Nat,k≤n∧i= .int .i64 k∧Hid (L.take k=M.take k)∧Below w.heap.size w wr) (fun i _=>n-(intOf i).toNat)
  case atStart=>exact⟨0,by omega,rfl,by show L.take 0=M.take 0;simp,Below.refl _ _⟩
  case round=>
   obtain⟨k,hk,rfl,hok,hbw⟩:=hrel;by_cases hlt:k<n
   ·have hkL:k<L.length:=by have:=Hn.o;omega
    have hkM:k<M.length:=by have:=Hm.o;omega
    obtain⟨x,hx⟩:∃x,L[k]? =some x:=⟨_,List.getElem?_eq_getElem hkL⟩;obtain⟨y,hy⟩:∃y,M[k]? =some y:=⟨_,List.getElem?_eq_getElem hkM⟩;rcases HS.o with h|⟨b,o,rfl,h2,h3,h4,_⟩
    ·subst h;simp at hkL
    rcases HS'.o with h|⟨b',o',rfl,h2',h3',h4',_⟩
    ·subst h;simp at hkM
    have hc:wr.cell? ⟨b,o+k,none⟩=some (.string ⟨x.toArray⟩):=(hbw.cell (p:=⟨b,o+k,none⟩) h3).trans (h4 k x hx);have hc':wr.cell? ⟨b',o'+k,none⟩=some (.string ⟨y.toArray⟩):=(hbw.cell (p:=⟨b',o'+k,none⟩) h3').trans (h4' k y hy);have hiff:=take_both hok.o hx hy;have Hiff:=hid hiff;have Hx:=hid hx;have Hy:=hid hy;clear h4 h4' hx hy hiff hkL hkM;have hk1:(0:Int)≤k:=by omega
    have hk2:(k:Int)<n:=by omega
    go_wp2;go_quiet (fail)
    go_wp2
    ·have hne:(!x==y)=true:=by assumption
     have hxy:¬x=y:=by simpa using hne
     go_ret
     refine⟨ret_bool ?_,below_drewN hbw _⟩;rw[Hr.o];symm
     exact decide_eq_false fun h=>hxy (Hiff.o.1 (by rw[h]))
    ·have hne:(!x==y)=false:=by assumption
     have hxy:x=y:=by simpa using hne
     go_roundw
     case rel=>exact⟨k+1,by omega,by go_num,Hiff.o.2 hxy,below_drewN hbw _⟩
     case measure=>simp[intOf];omega
   ·go_wp2;go_ret
    refine⟨ret_bool ?_,hbw⟩;have:=hok.o
    rw[List.take_of_length_le (by have:=Hn.o;omega),List.take_of_length_le (by have:=Hm.o;omega)]at this;rw[Hr.o,decide_eq_true this]
 ·have hne':((L.length:Int) !=M.length)=true:=by rw[bne_iff_ne];omega
  have hd:decide (L=M)=false:=decide_eq_false fun h=>hne (by rw[h]);rw[hd];clear hd hne;go_enter func60,ntmps60;go_wp2;go_ret
  exact⟨rfl,Below.refl _ _⟩
theorem go_ne{O:List (List UInt8)}{cur r:List UInt8}{c:UInt8}(h:c≠47):Np.go O cur (c::r)=Np.go O (cur++[c]) r:=by rw[Np.go,if_neg h]
theorem seg_snoc{l:List UInt8}{f k:Nat}(hf:f≤k)(hk:k<l.length):(l.drop f).take (k+1-f)=(l.drop f).take (k-f)++[l[k]]:=by
 rw[show k+1-f=(k-f)+1 by omega,List.take_add_one,List.getElem?_drop,show f+(k-f)=k by omega,List.getElem?_eq_getElem hk];rfl
theorem relA{l:List UInt8}{O:List (List UInt8)}{f k:Nat}{G:Option (List (List UInt8))}(hf:f≤k)(hk:k<l.length)(h:Np.go O ((l.drop f).take (k-f)) (l.drop k)=G)(hc:l[k]≠47):
 Np.go O ((l.drop f).take (k+1-f)) (l.drop (k+1))=G:=by
 rw[List.drop_eq_getElem_cons hk,go_ne hc]at h;rw[seg_snoc hf hk,h]
theorem relB{l:List UInt8}{O:List (List UInt8)}{f k:Nat}{G:Option (List (List UInt8))}(hk:k<l.length)(h:Np.go O ((l.drop f).take (k-f)) (l.drop k)=G)(hc:l[k]=47)
 (hn:Np.nameB ((l.drop f).take (k-f))=true)(h6:O.length≠6):Np.go (O++[(l.drop f).take (k-f)]) ((l.drop (k+1)).take (k+1-(k+1))) (l.drop (k+1))=G:=by
 rw[List.drop_eq_getElem_cons hk,Np.go,if_pos hc,hn,decide_eq_true h6]at h;rw[Nat.sub_self,List.take_zero];exact h
theorem relE{l:List UInt8}{O:List (List UInt8)}{f k:Nat}{G:Option (List (List UInt8))}(hk:k=l.length)(h:Np.go O ((l.drop f).take (k-f)) (l.drop k)=G)
 (hn:Np.nameB ((l.drop f).take (k-f))=true)(h6:O.length≠6):G=some (O++[(l.drop f).take (k-f)]):=by
 have e:l.drop k=[]:=by rw[hk];exact List.drop_length
 rw[e,Np.go,hn,decide_eq_true h6]at h;exact h.symm
theorem relN{l:List UInt8}{O:List (List UInt8)}{f k:Nat}{G:Option (List (List UInt8))}(h:Np.go O ((l.drop f).take (k-f)) (l.drop k)=G)(hend:k=l.length∨∃hk:k<l.length,l[k]=47)
 (hbad:Np.nameB ((l.drop f).take (k-f))=false∨O.length=6):G=none:=by
 have hb:(Np.nameB ((l.drop f).take (k-f))&&decide (O.length≠6))=false:=by
  rcases hbad with h|h
  ·rw[h];rfl
  ·rw[h];simp
 rcases hend with hk|⟨hk,hc⟩
 ·have e:l.drop k=[]:=by rw[hk];exact List.drop_length
  rw[e,Np.go,hb]at h;exact h.symm
 ·rw[List.drop_eq_getElem_cons hk,Np.go,if_pos hc,hb]at h;exact h.symm
def PathRes(G:Option (List (List UInt8)))(w:World)(e:Ending)(w':World):Prop:=
 (G=none∧e= .returned (.tuple #[.slice none 0 0,.int .i64 15])∧Below w.heap.size w w')∨∃L,G=some L∧PathYes L w e w'
def cellsL(O:List (List UInt8)):List Value:=O.map fun x=>Value.string ⟨x.toArray⟩
theorem cellsL_snoc(O:List (List UInt8))(b:ByteArray)(x:List UInt8)(h:b.data.toList=x):cellsL O++[.string b]=cellsL (O++[x]):=by
 unfold cellsL;rw[List.map_append,←h];show _=_++[Value.string ⟨b.data.toList.toArray⟩]
 rw[ba_mk]
theorem owns_strs{w:World}{B:Nat}{v:Value}{n:Nat}{O:List (List UInt8)}(h:w.ownsRow B 9 1 v n (cellsL O)):∃A c,v= .slice A O.length c∧n=O.length∧O.length≤c∧Strs w B A O:=by
 have hn:n=O.length:=by have:=h.1;unfold cellsL at this;simp at this;omega
 subst hn;have h':=h;rcases h.2 with⟨rfl,h0⟩|⟨g,cap,cur,rfl,hb,hg,hc,_,_,_⟩
 ·have:O=[]:=List.length_eq_zero_iff.1 h0
  subst this;exact⟨none,0,rfl,rfl,Nat.le_refl _,Or.inl rfl⟩
 ·refine⟨_,cap,rfl,rfl,hc,Or.inr ⟨g,0,rfl,hb,(Array.getElem?_eq_some_iff.1 hg).1,?_,?_⟩⟩
  ·intro j x hx;have hj:j<O.length:=(List.getElem?_eq_some_iff.1 hx).1;have:=h'.cellAt j (by omega)
   rw[Nat.zero_add,this];unfold cellsL;rw[List.getElem?_map,hx];rfl
  ·intro j;exact h'.frozenAt j
theorem infoS:(prog.info? 9).map (fun i=>(i.zero,i.size,i.bytes))=some (some (.string ByteArray.empty),1,16):=by kernel_rfl
theorem rpath_root(w:World):Calls prog 100 #[.string ⟨#[47]⟩] w (PathYes [] w):=by
 go_enter func100,ntmps100;go_wp2;go_ret2
 exact⟨_,_,rfl,Nat.le_refl _,Or.inl rfl,Below.refl _ _⟩
theorem rpath_off(s:ByteArray)(w:World)(hs:s.size≤100000)(h47:(s.toList==[47])=false)(h0:∀h:0<s.size,((((s[0]'h).toNat:Nat):Int) !=47)=true):
 Calls prog 100 #[.string s] w fun e w'=>e= .returned (.tuple #[.slice none 0 0,.int .i64 15])∧Below w.heap.size w w':=by
 by_cases hz:s.size=0
 ·have hz':((s.size:Int)==0)=true:=by rw[beq_iff_eq];omega
  clear hz h0;go_enter func100,ntmps100;go_wp2;go_ret2
  exact⟨rfl,Below.refl _ _⟩
 ·have hp:0<s.size:=by omega
  have h1:=h0 hp;have hz':((s.size:Int)==0)=false:=by rw[beq_eq_false_iff_ne];omega
  clear hz h0;go_enter func100,ntmps100;go_wp2;all_goals (go_ret2;exact⟨rfl,Below.refl _ _⟩)
theorem rpath_on(s:ByteArray)(G:Option (List (List UInt8)))(w:World)(hs:s.size≤100000)(h47:(s.toList==[47])=false)(hp:0<s.size)(h0:(((s[0]'hp).toNat:Int) !=47)=false)
 (hG:Np.go [] ((s.data.toList.drop 1).take (1-1)) (s.data.toList.drop 1)=G):
 Calls prog 100 #[.string s] w (PathRes G w):=by
 have hz':((s.size:Int)==0)=false:=by rw[beq_eq_false_iff_ne];omega
 have HG:=hid hG;clear hG;obtain⟨i0,hi,hz0,hz1,hz2⟩:=info_parts infoS;go_enter func100,ntmps100;go_wp2;go_loopw[4,5,6] (fun v ff i wr=>∃(k f:Nat) (O:List (List UInt8)),1≤f∧f≤k∧k≤s.size+1∧O.length≤6∧i= .int .i64 k∧ff= .int .i64 f∧wr.ownsRow w.heap.size 9 1 v O.length (cellsL O)∧Below w.heap.size w wr∧
  Hid (k≤s.size→Np.go O ((s.data.toList.drop f).take (k-f)) (s.data.toList.drop k)=G)∧Hid (k=s.size+1→G=some O)) (fun _ _ i _=>s.size+1-(intOf i).toNat)
 case atStart=>exact⟨1,1,[],by omega,by omega,by omega,by simp,rfl,rfl,World.ownsRow_nil _ _ _ _,Below.refl _ _,fun _=>HG.o,fun h=>by omega⟩
 case round=>
  obtain⟨k,f,O,hf1,hfk,hk,hO6,rfl,rfl,hown,hbw,hr1,hr2⟩:=hrel;by_cases hle:k≤s.size
  ·by_cases hA:∃hlt:k<s.size,s[k]'hlt≠47
   ·obtain⟨hlt,hc⟩:=hA;have hcb:(((s[k]'hlt).toNat:Int) !=47)=true:=by
     rw[bne_iff_ne];intro e;apply hc;exact UInt8.toNat_inj.1 (by exact_mod_cast e)
    have hcl:s.data.toList[k]'(by rw[←Lib.size_eq];exact hlt)≠47:=by rw[Array.getElem_toList];exact hc
    have hA1:=relA hfk (by rw[←Lib.size_eq];exact hlt) (hr1.o (by omega)) hcl;have HA1:=hid hA1;clear hA1;clear hc hcl;go_wp2;go_roundw
    case rel=>exact⟨k+1,f,O,by omega,by omega,by omega,by omega,by go_num,rfl,hown,hbw,fun _=>HA1.o,fun h=>by omega⟩
    case measure=>simp[intOf];omega
   ·by_cases hlt:k<s.size
    ·have hc:s[k]'hlt=47:=Classical.byContradiction fun e=>hA ⟨hlt,e⟩;have hcb:(((s[k]'hlt).toNat:Int) !=47)=false:=by rw[hc];rfl
     have hcl:s.data.toList[k]'(by rw[←Lib.size_eq];exact hlt)=47:=by rw[Array.getElem_toList];exact hc
     have Hcl:=hid hcl;clear hcl;clear hA hc;have hk1:(k:Int)<s.size:=by omega
     have hB0:w.heap.size≤wr.heap.size:=hbw.size;by_cases hgood:Np.nameB ((s.data.toList.drop f).take (k-f))=true∧O.length≠6
     ·obtain⟨hn,h6⟩:=hgood;have hm:=fun W=>rmay_any (s.extract f k) W (by rw[ByteArray.size_extract];omega);rw[Lib.extract_data,hn]at hm;have Hm:=hid hm;clear hm;have Hn:=hid hn;clear hn;have h6b:((O.length:Int)==6)=false:=by rw[beq_eq_false_iff_ne];omega
      have H6:=hid h6;clear h6;obtain⟨A,c,hv,_,hc,hS⟩:=owns_strs hown;rw[hv]at hown;rw[hv];clear hS;go_wp2_with(first|(go_at_call 135;refine(Hm.o _).mono ?_;rintro e w' ⟨rfl,rfl⟩)|(at_builtin;refine wpList_append_own _ rfl (.tmp 46) (.tmp 51) 43 rfl w.heap.size 9 i0 (.string ByteArray.empty) 1 16 underlying43 hi hz0 hz1 hz2 rfl (by decide) (.slice A O.length c) O.length (cellsL O) rfl (hown.alloc _) ⟨wr.heap.size,0,none⟩ 1 1 [.string (s.extract f k)] rfl rfl ?c1 ?c2 ?c3 ?c4 ?c5 ?_))
      case c1=>exact cell_one_new _ _ _
      case c2=>intro u hu;simp only[List.mem_singleton]at hu;subst hu;rfl
      case c3=>unfold maxLen;omega
      case c4=>omega
      case c5=>simp;omega
      intro v' w1 hown' hgrow _;rw[cellsL_snoc O _ _ (Lib.extract_data s f k),show O.length+1=(O++[(s.data.toList.drop f).take (k-f)]).length by simp]at hown';have hB1:Below w.heap.size w w1:=(hbw.alloc hB0 _).grown hgrow (by simp;omega) (fun q hq=>(hown.lt q hq).1);obtain⟨A',c',hv',_,_,_⟩:=owns_strs hown';rw[hv']at hown';rw[hv'];have HO:=hid hown';clear hown' hown hv' hv;go_wp2;go_roundw
      case rel=>
       exact⟨k+1,k+1,O++[(s.data.toList.drop f).take (k-f)],by omega,by omega,by omega,by have:=H6.o;simp;omega,by go_num,by go_num,HO.o,hB1,fun _=>relB (by rw[←Lib.size_eq];exact hlt) (hr1.o hle) Hcl.o Hn.o H6.o,fun h=>by omega⟩
      case measure=>simp[intOf];omega
     ·have hm:=fun W=>rmay_any (s.extract f k) W (by rw[ByteArray.size_extract];omega);rw[Lib.extract_data]at hm;have hbad:Np.nameB ((s.data.toList.drop f).take (k-f))=false∨O.length=6:=by
       rcases Classical.em (O.length=6)with h|h
       ·exact Or.inr h
       ·left
        cases hn:Np.nameB ((s.data.toList.drop f).take (k-f))with
        |false=>rfl
        |true=>exact absurd ⟨hn,h⟩ hgood
      clear hgood;have hN:=relN (hr1.o hle) (Or.inr ⟨by rw[←Lib.size_eq];exact hlt,Hcl.o⟩) hbad;obtain⟨b,hb⟩:=nm (Np.nameB ((s.data.toList.drop f).take (k-f)));rw[←hb]at hm hbad;have Hm:=hid hm;clear hm;clear hb;obtain⟨A,c,hv,_,hc,hS⟩:=owns_strs hown;rw[hv];clear hS;have HN:=hid hN;clear hN;rcases hbad with hb|hb
      ·subst hb;go_wp2_with(go_at_call 135;refine(Hm.o _).mono ?_;rintro e w' ⟨rfl,rfl⟩)
       go_ret2
       exact Or.inl ⟨HN.o,rfl,hbw⟩
      ·have h6b:((O.length:Int)==6)=true:=by rw[beq_iff_eq];omega
       clear hb;go_wp2_with(go_at_call 135;refine(Hm.o _).mono ?_;rintro e w' ⟨rfl,rfl⟩)
       all_goals (go_ret2;exact Or.inl ⟨HN.o,rfl,hbw⟩)
    ·clear hA;have hk1:(s.size:Int)≤k:=by omega
     have hB0:w.heap.size≤wr.heap.size:=hbw.size;by_cases hgood:Np.nameB ((s.data.toList.drop f).take (k-f))=true∧O.length≠6
     ·obtain⟨hn,h6⟩:=hgood;have hm:=fun W=>rmay_any (s.extract f k) W (by rw[ByteArray.size_extract];omega);rw[Lib.extract_data,hn]at hm;have Hm:=hid hm;clear hm;have Hn:=hid hn;clear hn;have h6b:((O.length:Int)==6)=false:=by rw[beq_eq_false_iff_ne];omega
      have H6:=hid h6;clear h6;obtain⟨A,c,hv,_,hc,hS⟩:=owns_strs hown;rw[hv]at hown;rw[hv];clear hS;go_wp2_with(first|(go_at_call 135;refine(Hm.o _).mono ?_;rintro e w' ⟨rfl,rfl⟩)|(at_builtin;refine wpList_append_own _ rfl (.tmp 46) (.tmp 51) 43 rfl w.heap.size 9 i0 (.string ByteArray.empty) 1 16 underlying43 hi hz0 hz1 hz2 rfl (by decide) (.slice A O.length c) O.length (cellsL O) rfl (hown.alloc _) ⟨wr.heap.size,0,none⟩ 1 1 [.string (s.extract f k)] rfl rfl ?c1 ?c2 ?c3 ?c4 ?c5 ?_))
      case c1=>exact cell_one_new _ _ _
      case c2=>intro u hu;simp only[List.mem_singleton]at hu;subst hu;rfl
      case c3=>unfold maxLen;omega
      case c4=>omega
      case c5=>simp;omega
      intro v' w1 hown' hgrow _;rw[cellsL_snoc O _ _ (Lib.extract_data s f k),show O.length+1=(O++[(s.data.toList.drop f).take (k-f)]).length by simp]at hown';have hB1:Below w.heap.size w w1:=(hbw.alloc hB0 _).grown hgrow (by simp;omega) (fun q hq=>(hown.lt q hq).1);obtain⟨A',c',hv',_,_,_⟩:=owns_strs hown';rw[hv']at hown';rw[hv'];have HO:=hid hown';clear hown' hown hv' hv;go_wp2;go_roundw
      case rel=>
       exact⟨k+1,k+1,O++[(s.data.toList.drop f).take (k-f)],by omega,by omega,by omega,by have:=H6.o;simp;omega,by go_num,by go_num,HO.o,hB1,fun h=>by omega,fun _=>relE (by rw[←Lib.size_eq];omega) (hr1.o hle) Hn.o H6.o⟩
      case measure=>simp[intOf];omega
     ·have hm:=fun W=>rmay_any (s.extract f k) W (by rw[ByteArray.size_extract];omega);rw[Lib.extract_data]at hm;have hbad:Np.nameB ((s.data.toList.drop f).take (k-f))=false∨O.length=6:=by
       rcases Classical.em (O.length=6)with h|h
       ·exact Or.inr h
       ·left
        cases hn:Np.nameB ((s.data.toList.drop f).take (k-f))with
        |false=>rfl
        |true=>exact absurd ⟨hn,h⟩ hgood
      clear hgood;have hN:=relN (hr1.o hle) (Or.inl (by rw[←Lib.size_eq];omega)) hbad;obtain⟨b,hb⟩:=nm (Np.nameB ((s.data.toList.drop f).take (k-f)));rw[←hb]at hm hbad;have Hm:=hid hm;clear hm;clear hb;obtain⟨A,c,hv,_,hc,hS⟩:=owns_strs hown;rw[hv];clear hS;have HN:=hid hN;clear hN;rcases hbad with hb|hb
      ·subst hb;go_wp2_with(go_at_call 135;refine(Hm.o _).mono ?_;rintro e w' ⟨rfl,rfl⟩)
       go_ret2
       exact Or.inl ⟨HN.o,rfl,hbw⟩
      ·have h6b:((O.length:Int)==6)=true:=by rw[beq_iff_eq];omega
       clear hb;go_wp2_with(go_at_call 135;refine(Hm.o _).mono ?_;rintro e w' ⟨rfl,rfl⟩)
       all_goals (go_ret2;exact Or.inl ⟨HN.o,rfl,hbw⟩)
  ·have hk1:(s.size:Int)<k:=by omega
   obtain⟨A,c,hv,_,hc,hS⟩:=owns_strs hown;rw[hv];have HS:=hid hS;clear hS;clear hv;go_wp2;go_ret2
   exact Or.inr ⟨O,hr2.o (by omega),A,c,rfl,hc,HS.o,hbw⟩
theorem rpath_any(s:ByteArray)(w:World)(hs:s.size≤100000):
 Calls prog 100 #[.string s] w (PathRes (Np.pathL s.data.toList) w):=by
 by_cases h47:s.data.toList=[47]
 ·obtain rfl:s=⟨#[47]⟩:=ba_ext h47
  exact(rpath_root w).mono fun e w' h=>Or.inr ⟨[],rfl,h⟩
 ·have h47':(s.toList==[47])=false:=by rw[Lib.toList_data];exact beq_eq_false_iff_ne.2 h47
  cases hl:s.data.toList with
  |nil=>
   have hz:s.size=0:=by rw[Lib.size_eq,hl];rfl
   exact(rpath_off s w hs h47' (fun h=>by omega)).mono fun e w' h=>Or.inl ⟨rfl,h⟩
  |cons c r=>
   have hz:0<s.size:=by rw[Lib.size_eq,hl];simp
   have hc:s[0]'hz=c:=by
    have:s.data.toList[0]'(by rw[hl];simp)=c:=by simp[hl]
    rw[Array.getElem_toList]at this;exact this
   by_cases h:c=47
   ·subst h;have hr:r≠[]:=fun e=>h47 (by rw[hl,e]);exact rpath_on s _ w hs h47' hz (by rw[hc];rfl) (by rw[hl,Np.pathL_go r hr];rfl)
   ·refine(rpath_off s w hs h47' (fun _=> ?_)).mono fun e w' h2=>Or.inl ⟨by rw[Np.pathL,if_neg h],h2⟩
    rw[hc,bne_iff_ne];intro e;exact h (UInt8.toNat_inj.1 (by exact_mod_cast e))
theorem Mx.keep{w w':World}(h:Mx w)(hb:Below w.heap.size w w'):Mx w':=by
 obtain⟨m,hm⟩:=h;refine⟨m,(hb.cell (p:=⟨_,0,none⟩) ?_).trans hm⟩;show 0<w.heap.size
 unfold World.cell? at hm
 cases hh:w.heap[0]? with
 |none=>rw[show(⟨0,0,none⟩:Addr).block=0 from rfl,hh]at hm;cases hm
 |some o=>exact(Array.getElem?_eq_some_iff.1 hh).1
theorem pathY(s:ByteArray)(L:List (List UInt8))(w:World)(hs:s.size≤100000)(hM:Mx w)(h:Np.pathL s.data.toList=some L):Calls prog 112 #[.string s] w (PathYes L w):=by
 obtain⟨m,hm⟩:=hM;exact path_yes s L m w hs hm h
theorem pathN(s:ByteArray)(w:World)(hs:s.size≤100000)(hM:Mx w)(h:Np.pathL s.data.toList=none):
 Calls prog 112 #[.string s] w fun e w'=>e= .returned (.tuple #[.slice none 0 0,.int .i64 15])∧Below w.heap.size w w':=by
 obtain⟨m,hm⟩:=hM;exact path_no s m w hs hm h
theorem rpathY(s:ByteArray)(L:List (List UInt8))(w:World)(hs:s.size≤100000)(h:Np.pathL s.data.toList=some L):Calls prog 100 #[.string s] w (PathYes L w):=
 (rpath_any s w hs).mono fun e w' hr=>by
   rw[h]at hr;rcases hr with⟨h1,_⟩|⟨M,h1,h2⟩
   ·cases h1
   ·obtain rfl:=Option.some.inj h1
    exact h2
theorem rpathN(s:ByteArray)(w:World)(hs:s.size≤100000)(h:Np.pathL s.data.toList=none):
 Calls prog 100 #[.string s] w fun e w'=>e= .returned (.tuple #[.slice none 0 0,.int .i64 15])∧Below w.heap.size w w':=
 (rpath_any s w hs).mono fun e w' hr=>by
   rw[h]at hr;rcases hr with⟨_,h2⟩|⟨M,h1,_⟩
   ·exact h2
   ·cases h1
theorem Strs.take{w:World}{B:Nat}{A:Option Addr}{L:List (List UInt8)}(h:Strs w B A L)(n:Nat):Strs w B A (L.take n):=by
 rcases h with h|⟨b,o,h1,h2,h3,h4,h5⟩
 ·exact Or.inl (by rw[h];simp)
 ·exact Or.inr ⟨b,o,h1,h2,h3,fun j x hx=>h4 j x (by
   rw[List.getElem?_take]at hx;split at hx
   ·exact hx
   ·cases hx),h5⟩
theorem equal_any(A A':Option Addr)(L M:List (List UInt8))(c c':Nat)(w:World)(hL:L.length≤1000000)(hM:M.length≤1000000)(hS:Strs w 0 A L)(hS':Strs w 0 A' M):
 Calls prog 123 #[.slice A L.length c,.slice A' M.length c'] w fun e w'=>e= .returned (.bool (decide (L=M)))∧Below w.heap.size w w':=by
 by_cases hne:L.length=M.length
 ·rcases hS with h|⟨b,o,rfl,_,h3,h4,_⟩
  ·subst h;obtain rfl:M=[]:=List.length_eq_zero_iff.1 (by rw[←hne];rfl)
   refine(slices_Equal_string_empty A A' c 0 c' w (by omega)).mono fun e w' ⟨he,hw⟩=> ?_
   subst hw;exact⟨by rw[he];rfl,Below.refl _ _⟩
  ·rcases hS' with h|⟨b',o',rfl,_,h3',h4',_⟩
   ·subst h;obtain rfl:L=[]:=List.length_eq_zero_iff.1 hne
    refine(slices_Equal_string_empty (some ⟨b,o,none⟩) A' c 0 c' w (by omega)).mono fun e w' ⟨he,hw⟩=> ?_
    subst hw;exact⟨by rw[he];rfl,Below.refl _ _⟩
   ·have hg:∀(K:List (List UInt8)) (j:Nat),j<(K.map fun x=>(⟨x.toArray⟩:ByteArray)).length→∃x,K[j]? =some x∧(K.map fun x=>(⟨x.toArray⟩:ByteArray)).getD j ByteArray.empty=⟨x.toArray⟩:=fun K j hj=>by
     rw[List.length_map]at hj;refine⟨K[j],List.getElem?_eq_getElem hj,?_⟩;rw[List.getD_eq_getElem?_getD,List.getElem?_map,List.getElem?_eq_getElem hj];rfl
    have h:=slices_Equal_string b o L.length c b' o' M.length c' (L.map fun x=>⟨x.toArray⟩) (M.map fun x=>⟨x.toArray⟩) w (by simp) (by simp) (by omega) (by omega)
     (fun j hj=>by obtain⟨x,hx,hd⟩:=hg L j hj;rw[hd];exact h4 j x hx) (fun j hj=>by obtain⟨x,hx,hd⟩:=hg M j hj;rw[hd];exact h4' j x hx)
    refine h.mono fun e w' ⟨he,q,hw⟩=> ?_;subst hw;refine⟨?_,below_drewN (Below.refl _ _) _⟩;rw[he];apply ret_bool
    rw[List.take_of_length_le (by simp),List.take_of_length_le (by simp)];have hinj:∀K N:List (List UInt8),(K.map fun x=>(⟨x.toArray⟩:ByteArray))=(N.map fun x=>(⟨x.toArray⟩:ByteArray))↔K=N:=fun K N=>by
     constructor
     ·intro h;have:=congrArg (List.map fun b:ByteArray=>b.data.toList) h
      simpa [Function.comp_def]using this
     ·intro h;rw[h]
    simp only[hinj]
 ·refine(slices_Equal_string_lens A A' L.length c M.length c' w hne).mono fun e w' ⟨he,hw⟩=> ?_
  subst hw;exact⟨by rw[he,decide_eq_false (fun h=>hne (by rw[h]))],Below.refl _ _⟩
def insideB(G H:Option (List (List UInt8))):Bool:=
 match G,H with
 |some L,some M=>decide (M.length≤L.length)&&decide (L.take M.length=M)
 |_,_=>false
theorem inside_none(H:Option (List (List UInt8))):insideB none H=false:=rfl
theorem inside_none2(G:Option (List (List UInt8))):insideB G none=false:=by cases G<;>rfl
theorem inside_any(s t:ByteArray)(w:World)(hs:s.size≤100000)(ht:t.size≤100000)(hM:Mx w):
 Calls prog 77 #[.string s,.string t] w fun e w'=>e= .returned (.bool (insideB (Np.pathL s.data.toList) (Np.pathL t.data.toList)))∧Below w.heap.size w w':=by
 have HM:=hid hM;clear hM
 cases hG:Np.pathL s.data.toList with
 |none=>
  rw[inside_none];have h1:=fun W hW=>pathN s W hs hW hG;have H1:=hid h1;clear h1 hG
  cases hH:Np.pathL t.data.toList with
  |none=>
   have h2:=fun W hW=>pathN t W ht hW hH;have H2:=hid h2;clear h2 hH;go_enter func77,ntmps77;go_wp2_with fail
   refine(H1.o _ HM.o).mono ?_
   rintro e w1 ⟨rfl,hb1⟩;have HM1:=hid (HM.o.keep hb1);go_wp2_with fail
   refine(H2.o _ HM1.o).mono ?_
   rintro e w2 ⟨rfl,hb2⟩;go_wp2;go_ret
   exact⟨rfl,hb1.trans (hb2.mono hb1.size)⟩
  |some M=>
   have h2:=fun W hW=>pathY t M W ht hW hH;have H2:=hid h2;clear h2 hH;go_enter func77,ntmps77;go_wp2_with fail
   refine(H1.o _ HM.o).mono ?_
   rintro e w1 ⟨rfl,hb1⟩;have HM1:=hid (HM.o.keep hb1);go_wp2_with fail
   refine(H2.o _ HM1.o).mono ?_
   rintro e w2 ⟨A',c',rfl,hc',hS',hb2⟩;clear hS';go_wp2;go_ret
   exact⟨rfl,hb1.trans (hb2.mono hb1.size)⟩
 |some L=>
  have h1:=fun W hW=>pathY s L W hs hW hG;have hl6:=(pathL_names hG).1;have H1:=hid h1;clear h1 hG
  cases hH:Np.pathL t.data.toList with
  |none=>
   rw[inside_none2];have h2:=fun W hW=>pathN t W ht hW hH;have H2:=hid h2;clear h2 hH;go_enter func77,ntmps77;go_wp2_with fail
   refine(H1.o _ HM.o).mono ?_
   rintro e w1 ⟨A,c,rfl,hc,hS,hb1⟩;clear hS;have HM1:=hid (HM.o.keep hb1);go_wp2_with fail
   refine(H2.o _ HM1.o).mono ?_
   rintro e w2 ⟨rfl,hb2⟩;go_wp2;go_ret
   exact⟨rfl,hb1.trans (hb2.mono hb1.size)⟩
  |some M=>
   have h2:=fun W hW=>pathY t M W ht hW hH;have hm6:=(pathL_names hH).1;have H2:=hid h2;clear h2 hH;by_cases hle:M.length≤L.length
   ·have hfin:insideB (some L) (some M)=decide (L.take M.length=M):=by
     show(decide (M.length≤L.length)&&decide (L.take M.length=M))=_
     rw[decide_eq_true hle];rfl
    rw[hfin];clear hfin;have hq:=fun A A' c c' W=>equal_any A A' (L.take M.length) M c c' W (by simp;omega) (by omega);rw[List.length_take,Nat.min_eq_left hle]at hq;obtain⟨r,hr⟩:=nm (decide (L.take M.length=M));rw[←hr]at hq⊢;clear hr;have HQ:=hid hq;clear hq;go_enter func77,ntmps77;go_wp2_with fail
    refine(H1.o _ HM.o).mono ?_
    rintro e w1 ⟨A,c,rfl,hc,hS,hb1⟩;have HM1:=hid (HM.o.keep hb1);have HS:=hid hS;clear hS;go_wp2_with fail
    refine(H2.o _ HM1.o).mono ?_
    rintro e w2 ⟨A',c',rfl,hc',hS',hb2⟩;have HS2:=hid (((HS.o.keep hb2).low (Nat.zero_le _)).take M.length);have HS':Hid (Strs w2 0 A' M):=hid (hS'.low (Nat.zero_le _));clear hS';have hi1:(M.length:Int)≤c:=by omega
    go_wp2_with fail
    refine(HQ.o _ _ _ _ _ HS2.o (HS'.o.low (Nat.zero_le _))).mono ?_
    rintro e w3 ⟨rfl,hb3⟩;go_wp2;go_ret
    exact⟨rfl,(hb1.trans (hb2.mono hb1.size)).trans (hb3.mono (by have:=hb1.size;have:=hb2.size;omega))⟩
   ·have hfin:insideB (some L) (some M)=false:=by
     show(decide (M.length≤L.length)&&decide (L.take M.length=M))=_
     rw[decide_eq_false hle];rfl
    rw[hfin];clear hfin;go_enter func77,ntmps77;go_wp2_with fail
    refine(H1.o _ HM.o).mono ?_
    rintro e w1 ⟨A,c,rfl,hc,hS,hb1⟩;clear hS;have HM1:=hid (HM.o.keep hb1);go_wp2_with fail
    refine(H2.o _ HM1.o).mono ?_
    rintro e w2 ⟨A',c',rfl,hc',hS',hb2⟩;clear hS';go_wp2;go_ret
    exact⟨rfl,hb1.trans (hb2.mono hb1.size)⟩
theorem inside_cut{L M:List (List UInt8)}{k:Nat}(hk:k+1≤M.length)(h:L.take M.length=M):L.take (k+1)=M.take (k+1):=by
 have h2:=congrArg (List.take (k+1)) h;rwa [List.take_take,Nat.min_eq_left hk]at h2
theorem rinside_any(s t:ByteArray)(w:World)(hs:s.size≤100000)(ht:t.size≤100000):
 Calls prog 105 #[.string s,.string t] w fun e w'=>e= .returned (.bool (insideB (Np.pathL s.data.toList) (Np.pathL t.data.toList)))∧Below w.heap.size w w':=by
 cases hG:Np.pathL s.data.toList with
 |none=>
  rw[inside_none];have h1:=fun W=>rpathN s W hs hG;have H1:=hid h1;clear h1 hG
  cases hH:Np.pathL t.data.toList with
  |none=>
   have h2:=fun W=>rpathN t W ht hH;have H2:=hid h2;clear h2 hH;go_enter func105,ntmps105;go_wp2_with fail
   refine(H1.o _).mono ?_
   rintro e w1 ⟨rfl,hb1⟩;go_wp2_with fail
   refine(H2.o _).mono ?_
   rintro e w2 ⟨rfl,hb2⟩;go_wp2;go_ret
   exact⟨rfl,hb1.trans (hb2.mono hb1.size)⟩
  |some M=>
   have h2:=fun W=>rpathY t M W ht hH;have H2:=hid h2;clear h2 hH;go_enter func105,ntmps105;go_wp2_with fail
   refine(H1.o _).mono ?_
   rintro e w1 ⟨rfl,hb1⟩;go_wp2_with fail
   refine(H2.o _).mono ?_
   rintro e w2 ⟨A',c',rfl,hc',hS',hb2⟩;clear hS';go_wp2;go_ret
   exact⟨rfl,hb1.trans (hb2.mono hb1.size)⟩
 |some L=>
  have h1:=fun W=>rpathY s L W hs hG;have hl6:=(pathL_names hG).1;have H1:=hid h1;clear h1 hG
  cases hH:Np.pathL t.data.toList with
  |none=>
   rw[inside_none2];have h2:=fun W=>rpathN t W ht hH;have H2:=hid h2;clear h2 hH;go_enter func105,ntmps105;go_wp2_with fail
   refine(H1.o _).mono ?_
   rintro e w1 ⟨A,c,rfl,hc,hS,hb1⟩;clear hS;go_wp2_with fail
   refine(H2.o _).mono ?_
   rintro e w2 ⟨rfl,hb2⟩;go_wp2;go_ret
   exact⟨rfl,hb1.trans (hb2.mono hb1.size)⟩
  |some M=>
   have h2:=fun W=>rpathY t M W ht hH;have hm6:=(pathL_names hH).1;have H2:=hid h2;clear h2 hH;by_cases hle:M.length≤L.length
   ·have hfin:insideB (some L) (some M)=decide (L.take M.length=M):=by
     show(decide (M.length≤L.length)&&decide (L.take M.length=M))=_
     rw[decide_eq_true hle];rfl
    rw[hfin];clear hfin;obtain⟨n,hn⟩:=nm L.length;obtain⟨m,hm⟩:=nm M.length;have Hn:=hid hn;have Hm:=hid hm;have hle1:(m:Int)≤n:=by omega
    have hn6:n≤6:=by omega
    obtain⟨r,hr⟩:=nm (decide (L.take M.length=M));rw[←hr];have Hr:=hid hr;clear hr hn hm;clear hle hl6 hm6;go_enter func105,ntmps105;go_wp2_with fail
    refine(H1.o _).mono ?_
    rintro e w1 ⟨A,c,rfl,hc,hS,hb1⟩;have HS:=hid hS;clear hS;rw[←Hn.o]at hc⊢;go_wp2_with fail
    refine(H2.o _).mono ?_
    rintro e w2 ⟨A',c',rfl,hc',hS',hb2⟩;have HS2:=hid ((HS.o.keep hb2).low (Nat.zero_le _));have HS':Hid (Strs w2 0 A' M):=hid (hS'.low (Nat.zero_le _));clear hS';rw[←Hm.o]at hc'⊢;have hB2:Below w.heap.size w w2:=hb1.trans (hb2.mono hb1.size);clear hb1 hb2 HS;go_wp2;go_loopw[9] (fun i wr=>∃k:Nat,k≤m∧i= .int .i64 k∧Hid (L.take k=M.take k)∧Below w2.heap.size w2 wr) (fun i _=>m-(intOf i).toNat)
    case atStart=>exact⟨0,by omega,rfl,by show L.take 0=M.take 0;simp,Below.refl _ _⟩
    case round=>
     obtain⟨k,hk,rfl,hok,hbw⟩:=hrel;have hB3:Below w.heap.size w wr:=hB2.trans (hbw.mono hB2.size);by_cases hlt:k<m
     ·have hkL:k<L.length:=by have:=Hn.o;omega
      have hkM:k<M.length:=by have:=Hm.o;omega
      obtain⟨x,hx⟩:∃x,L[k]? =some x:=⟨_,List.getElem?_eq_getElem hkL⟩;obtain⟨y,hy⟩:∃y,M[k]? =some y:=⟨_,List.getElem?_eq_getElem hkM⟩;rcases HS2.o with h|⟨b,o,rfl,h2,h3,h4,_⟩
      ·subst h;simp at hkL
      rcases HS'.o with h|⟨b',o',rfl,h2',h3',h4',_⟩
      ·subst h;simp at hkM
      have hc:wr.cell? ⟨b,o+k,none⟩=some (.string ⟨x.toArray⟩):=(hbw.cell (p:=⟨b,o+k,none⟩) h3).trans (h4 k x hx);have hc':wr.cell? ⟨b',o'+k,none⟩=some (.string ⟨y.toArray⟩):=(hbw.cell (p:=⟨b',o'+k,none⟩) h3').trans (h4' k y hy);have hiff:=take_both hok.o hx hy;have Hiff:=hid hiff;have Hk:=hid hkM;clear h4 h4' hx hy hiff hkL hkM;have hk1:(0:Int)≤k:=by omega
      have hk2:(k:Int)<n:=by omega
      have hk3:(k:Int)<m:=by omega
      go_wp2;go_quiet (fail)
      go_wp2
      ·have hne:(!x==y)=true:=by assumption
       have hxy:¬x=y:=by simpa using hne
       go_ret
       refine⟨ret_bool ?_,below_drewN hB3 _⟩;rw[Hr.o];symm
       exact decide_eq_false fun h=>hxy (Hiff.o.1 (inside_cut Hk.o h))
      ·have hne:(!x==y)=false:=by assumption
       have hxy:x=y:=by simpa using hne
       go_roundw
       case rel=>exact⟨k+1,by omega,by go_num,Hiff.o.2 hxy,below_drewN hbw _⟩
       case measure=>simp[intOf];omega
     ·go_wp2;go_ret
      refine⟨ret_bool ?_,hB3⟩;have:=hok.o
      rw[show k=M.length by have:=Hm.o;omega,List.take_length]at this;rw[Hr.o,decide_eq_true this]
   ·have hfin:insideB (some L) (some M)=false:=by
     show(decide (M.length≤L.length)&&decide (L.take M.length=M))=_
     rw[decide_eq_false hle];rfl
    rw[hfin];clear hfin;have hle1:(L.length:Int)<M.length:=by omega
    go_enter func105,ntmps105;go_wp2_with fail
    refine(H1.o _).mono ?_
    rintro e w1 ⟨A,c,rfl,hc,hS,hb1⟩;clear hS;go_wp2_with fail
    refine(H2.o _).mono ?_
    rintro e w2 ⟨A',c',rfl,hc',hS',hb2⟩;clear hS';go_wp2;go_ret
    exact⟨rfl,hb1.trans (hb2.mono hb1.size)⟩
namespace Pz
structure Nd where
 dir:Bool
 data:List UInt8
 links:Int
structure En where
 dir:Nat
 name:List UInt8
 node:Nat
structure Op where
 client:Int
 fd:Int
 node:Nat
structure Fil where
 N:List Nd
 E:List En
 O:List Op
def look:List En→Nat→List UInt8→Int
 |[],_,_=> -1
 |e::r,i,x=>if e.dir=i∧e.name=x then(e.node:Int)else look r i x
def ofd:List Op→Int→Int→Int
 |[],_,_=> -1
 |o::r,c,fd=>if o.client=c∧o.fd=fd then(o.node:Int)else ofd r c fd
def count(E:List En)(i:Nat):Nat:=(E.filter fun e=>e.dir==i).length
def take(E:List En)(i:Nat)(x:List UInt8):List En:=E.filter fun e=>decide (¬(e.dir=i∧e.name=x))
theorem take_step{E:List En}{k:Nat}{e:En}{i:Nat}{x:List UInt8}(he:E[k]? =some e):take (E.take (k+1)) i x=take (E.take k) i x++(if e.dir=i∧e.name=x then[]else[e]):=by
 unfold take;rw[List.take_add_one,he,List.filter_append];by_cases h:e.dir=i∧e.name=x
 ·rw[if_pos h];simp[h]
 ·rw[if_neg h];congr 1
  show List.filter _ [e]=[e]
  rw[List.filter_cons,if_pos (decide_eq_true h)];rfl
theorem take_le(E:List En)(i:Nat)(x:List UInt8):(take E i x).length≤E.length:=List.length_filter_le _ _
def drop(O:List Op)(c:Int):List Op:=O.filter fun o=>decide (¬o.client=c)
theorem drop_step{O:List Op}{k:Nat}{o:Op}{c:Int}(ho:O[k]? =some o):drop (O.take (k+1)) c=drop (O.take k) c++(if o.client=c then[]else[o]):=by
 unfold drop;rw[List.take_add_one,ho,List.filter_append];by_cases h:o.client=c
 ·rw[if_pos h];simp[h]
 ·rw[if_neg h];congr 1
  show List.filter _ [o]=[o]
  rw[List.filter_cons,if_pos (decide_eq_true h)];rfl
def shut(O:List Op)(c fd:Int):List Op:=O.filter fun o=>decide (¬(o.client=c∧o.fd=fd))
theorem shut_step{O:List Op}{k:Nat}{o:Op}{c fd:Int}(ho:O[k]? =some o):shut (O.take (k+1)) c fd=shut (O.take k) c fd++(if o.client=c∧o.fd=fd then[]else[o]):=by
 unfold shut;rw[List.take_add_one,ho,List.filter_append];by_cases h:o.client=c∧o.fd=fd
 ·rw[if_pos h];simp[h]
 ·rw[if_neg h];congr 1
  show List.filter _ [o]=[o]
  rw[List.filter_cons,if_pos (decide_eq_true h)];rfl
theorem look_at{E:List En}{k:Nat}{e:En}{i:Nat}{x:List UInt8}(he:E[k]? =some e):look (E.drop k) i x=if e.dir=i∧e.name=x then(e.node:Int)else look (E.drop (k+1)) i x:=by
 obtain⟨h,h2⟩:=List.getElem?_eq_some_iff.1 he;rw[List.drop_eq_getElem_cons h,h2,look]
theorem ofd_at{O:List Op}{k:Nat}{o:Op}{c fd:Int}(ho:O[k]? =some o):ofd (O.drop k) c fd=if o.client=c∧o.fd=fd then(o.node:Int)else ofd (O.drop (k+1)) c fd:=by
 obtain⟨h,h2⟩:=List.getElem?_eq_some_iff.1 ho;rw[List.drop_eq_getElem_cons h,h2,ofd]
theorem count_step{E:List En}{k:Nat}{e:En}{i:Nat}(he:E[k]? =some e):count (E.take (k+1)) i=count (E.take k) i+if e.dir=i then 1 else 0:=by
 unfold count;rw[List.take_add_one,he,List.filter_append,List.length_append];by_cases h:e.dir=i
 ·simp[h]
 ·simp[h]
def isDir(N:List Nd)(n:Nat):Bool:=match N[n]? with|some x=>x.dir|none=>false
def walk(S:Fil):Nat→List (List UInt8)→Except Int Nat
 |n,[]=> .ok n
 |n,x::r=>if isDir S.N n then(if look S.E n x<0 then .error 10 else walk S (look S.E n x).toNat r)else .error 12
def find(S:Fil)(p:List UInt8):Except Int Nat:=match Np.pathL p with|none=> .error 15|some L=>walk S 0 L
def placeOn(S:Fil)(x:List UInt8):Except Int Nat→Except Int (Nat×List UInt8)
 | .error e=> .error e
 | .ok n=>if isDir S.N n then .ok (n,x)else .error 12
def place(S:Fil)(p:List UInt8):Except Int (Nat×List UInt8):=
 match Np.pathL p with
 |none=> .error 15
 |some L=>match L.getLast? with
  |none=> .error 15
  |some x=>placeOn S x (walk S 0 L.dropLast)
def placeD:Except Int (Nat×List UInt8)→Nat×List UInt8
 | .error _=>(0,[])
 | .ok q=>q
def rmdir(S:Fil)(p:List UInt8):Fil×Int:=
 if p=[47]then(S,15)else
 match find S p with
 | .error e=>(S,e)
 | .ok n=>if isDir S.N n then(if 0<count S.E n then(S,14)else({S with E:=take S.E (placeD (place S p)).1 (placeD (place S p)).2},0))else(S,12)
structure Ok(S:Fil):Prop where
 root:0<S.N.length
 ent:∀e∈S.E,e.dir<S.N.length∧e.node<S.N.length
 opn:∀o∈S.O,o.node<S.N.length
theorem look_lt{n:Nat}{i:Nat}{x:List UInt8}:∀{E:List En},(∀e∈E,e.dir<n∧e.node<n)→look E i x<n
 |[],_=>by show(-1:Int)<_;omega
 |e::r,h=>by
  rw[look];split
  ·have:=(h e (List.mem_cons_self ..)).2;omega
  ·exact look_lt fun e he=>h e (List.mem_cons_of_mem _ he)
theorem ofd_lt{n:Nat}{c fd:Int}:∀{O:List Op},(∀o∈O,o.node<n)→ofd O c fd<n
 |[],_=>by show(-1:Int)<_;omega
 |o::r,h=>by
  rw[ofd];split
  ·have:=h o (List.mem_cons_self ..);omega
  ·exact ofd_lt fun e he=>h e (List.mem_cons_of_mem _ he)
theorem look_ge{i:Nat}{x:List UInt8}:∀{E:List En},-1≤look E i x
 |[]=>by show(-1:Int)≤ -1;omega
 |e::r=>by
  rw[look];split
  ·omega
  ·exact look_ge
theorem walk_lt{S:Fil}(h:Ok S):∀{L:List (List UInt8)} {n m:Nat},n<S.N.length→walk S n L= .ok m→m<S.N.length
 |[],n,m,hn,hw=>by cases hw;exact hn
 |x::r,n,m,hn,hw=>by
  rw[walk]at hw;split at hw
  ·split at hw
   ·cases hw
   ·have:=look_lt (i:=n) (x:=x) h.ent
    exact walk_lt h (by omega) hw
  ·cases hw
theorem walk_err{S:Fil}:∀{L:List (List UInt8)} {n:Nat} {e:Int},walk S n L= .error e→e=10∨e=12
 |[],n,e,hw=>by cases hw
 |x::r,n,e,hw=>by
  rw[walk]at hw;split at hw
  ·split at hw
   ·cases hw;exact Or.inl rfl
   ·exact walk_err hw
  ·cases hw;exact Or.inr rfl
theorem find_lt{S:Fil}(h:Ok S){p:List UInt8}{m:Nat}(hf:find S p= .ok m):m<S.N.length:=by
 unfold find at hf;split at hf
 ·cases hf
 ·exact walk_lt h h.root hf
theorem find_err{S:Fil}{p:List UInt8}{e:Int}(hf:find S p= .error e):e=10∨e=12∨e=15:=by
 unfold find at hf;split at hf
 ·cases hf;exact Or.inr (Or.inr rfl)
 ·rcases walk_err hf with h|h
  ·exact Or.inl h
  ·exact Or.inr (Or.inl h)
def sized(s:List UInt8)(n:Nat):List UInt8:=s.take n++List.replicate (n-s.length) 0
theorem sized_len(s:List UInt8)(n:Nat):(sized s n).length=n:=by
 unfold sized;rw[List.length_append,List.length_take,List.length_replicate];omega
def three{α:Type}{V:Type}(f g h:α→V)(L:List α):List V:=L.flatMap fun x=>[f x,g x,h x]
theorem three_get{α V:Type}(f g h:α→V):∀(L:List α) (k:Nat) (x:α),L[k]? =some x→(three f g h L)[k*3]? =some (f x)∧(three f g h L)[k*3+1]? =some (g x)∧(three f g h L)[k*3+2]? =some (h x)
 |[],k,x,hx=>by simp at hx
 |a::r,0,x,hx=>by
  simp at hx
  subst hx;exact⟨rfl,rfl,rfl⟩
 |a::r,k+1,x,hx=>by
  have:=three_get f g h r k x (by simpa using hx)
  have e:∀j,(three f g h (a::r))[(k+1)*3+j]? =(three f g h r)[k*3+j]? :=fun j=>by
   unfold three;rw[List.flatMap_cons,List.getElem?_append_right (by simp;omega)];congr 1
   simp;omega
  exact⟨(e 0).trans this.1,(e 1).trans this.2.1,(e 2).trans this.2.2⟩
theorem three_snoc{α V:Type}(f g h:α→V)(L:List α)(x:α):three f g h (L++[x])=three f g h L++[f x,g x,h x]:=by
 unfold three;rw[List.flatMap_append];simp
theorem three_set1{α V:Type}(f g h:α→V):∀(L:List α) (k:Nat) (x y:α),L[k]? =some x→f y=f x→h y=h x→(three f g h L).set (k*3+1) (g y)=three f g h (L.set k y)
 |[],k,x,y,hx,_,_=>by simp at hx
 |a::r,0,x,y,hx,hf,hh=>by
  simp at hx
  subst hx;unfold three;simp[hf,hh]
 |a::r,k+1,x,y,hx,hf,hh=>by
  have:=three_set1 f g h r k x y (by simpa using hx) hf hh
  unfold three at this⊢;rw[List.set_cons_succ,List.flatMap_cons,List.flatMap_cons,←this,show(k+1)*3+1=(k*3+1)+3 by omega];rfl
theorem three_set2{α V:Type}(f g h:α→V):∀(L:List α) (k:Nat) (x y:α),L[k]? =some x→f y=f x→g y=g x→(three f g h L).set (k*3+2) (h y)=three f g h (L.set k y)
 |[],k,x,y,hx,_,_=>by simp at hx
 |a::r,0,x,y,hx,hf,hh=>by
  simp at hx
  subst hx;unfold three;simp[hf,hh]
 |a::r,k+1,x,y,hx,hf,hh=>by
  have:=three_set2 f g h r k x y (by simpa using hx) hf hh
  unfold three at this⊢;rw[List.set_cons_succ,List.flatMap_cons,List.flatMap_cons,←this,show(k+1)*3+2=(k*3+2)+3 by omega];rfl
end Pz
end Go.Proofs.YtckoobkjpndgnaaGreatDoor
