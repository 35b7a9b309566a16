/- The document's file system in memory, changed: a name more, a node more, a list anew; put, node. -/
import Derived.Test.YtjlpkbhgphjpeaaGreatDoorV15
import Derived.Laws.Rows
set_option linter.unusedVariables false
set_option linter.unusedSimpArgs false
set_option linter.unusedSectionVars false
set_option maxHeartbeats 8000000
set_option maxRecDepth 100000
namespace Go.Proofs.YtjlpkbhgphjpeaaGreatDoor
open Go.RowKit
open Lib(hid)
open Go.Proofs.Tryz
theorem Uy(w:World)(a:Addr)(u:Value):w.grownBy (w.setCell a u) (some a.block):=
 ⟨rfl,rfl,rfl,by simp[World.setCell],fun k _ hk=>Below.heap_setCell w a u k (fun e=>hk (by rw[e]))⟩
theorem Uz{w w':World}{row:Option Nat}(h:w.grownBy w' none):w.grownBy w' row:=⟨h.os,h.tape,h.output,h.size,fun k hk _=>h.block k hk (by simp)⟩
theorem qe{w w':World}{row:Option Nat}(h:w.grownBy w' row){b j:Nat}(hb:b<w.heap.size)(hne:some b≠row):w'.cell? ⟨b,j,none⟩=w.cell? ⟨b,j,none⟩:=
 World.cell?_of_block (w:=w) (h.block b hb hne)
theorem qj{w w':World}{row:Option Nat}(h:w.grownBy w' row){b j:Nat}(hb:b<w.heap.size)(hne:some b≠row):w'.frozen? ⟨b,j,none⟩=w.frozen? ⟨b,j,none⟩:=
 World.frozen?_of_block (w:=w) (h.block b hb hne)
def um(w:World)(v v':Value):Prop:=v'.ownBlock=v.ownBlock∨v'.ownBlock=none∨∃k,w.heap.size≤k∧v'.ownBlock=some k
theorem jl{a b:Option Nat}(h:a=none∨a≠b):b=none∨b≠a:=by
 cases b with
 |none=>exact Or.inl rfl
 |some x=>
  right
  rcases h with e|e
  ·rw[e];simp
  ·exact fun e2=>e e2.symm
theorem ql{w:World}{v v' x:Value}(hat:um w v v')(h:v.ownBlock=none∨v.ownBlock≠x.ownBlock)(hx:∀j,x.ownBlock=some j→j<w.heap.size):v'.ownBlock=none∨v'.ownBlock≠x.ownBlock:=by
 rcases hat with e|e|⟨k,hk,e⟩
 ·rw[e];exact h
 ·exact Or.inl e
 ·right
  cases hv:x.ownBlock with
  |none=>rw[e];simp
  |some y=>rw[e];intro e2;have:=Option.some.inj e2;have:=hx y hv;omega
theorem yO{w:World}{v v':Value}{r:Nat}(hat:um w v v')(h:v.ownBlock≠some r)(hr:r<w.heap.size):v'.ownBlock≠some r:=by
 rcases hat with e|e|⟨k,hk,e⟩
 ·rw[e];exact h
 ·rw[e];simp
 ·rw[e];intro e2;have:=Option.some.inj e2;omega
def Inn(F:Nat→Prop)(v:Value):Prop:=∀k,v.ownBlock=some k→F k
def zl(r:Nat)(S:Pz.Fil)(w:World)(F:Nat→Prop):Prop:=∃vN vE vO,qy w 0 r vN vE vO S∧F r∧Inn F vN∧Inn F vE∧Inn F vO
theorem zl.is{r:Nat}{S:Pz.Fil}{w:World}{F:Nat→Prop}(h:zl r S w F):xd w 0 r S:=by
 obtain⟨vN,vE,vO,h,_⟩:=h;exact⟨vN,vE,vO,h⟩
theorem vt{w w':World}{B e sz n:Nat}{v:Value}{xs:List Value}(h:w.ownsRow B e sz v n xs)(hb:∀k,v.ownBlock=some k→w'.heap[k]? =w.heap[k]?):w'.ownsRow B e sz v n xs:=
 ⟨h.1,h.2.imp id fun⟨g,cap,cur,a,b,c,d⟩=>⟨g,cap,cur,a,b,(hb g (by rw[a];rfl)).trans c,d⟩⟩
theorem zl.held(r:Nat)(S:Pz.Fil):xh (zl r S) where
 keep:=by
  rintro w w' F ⟨vN,vE,vO,h,hr,hN,hE,hO⟩ hs hb;have e:=hb r h.lt hr;refine⟨vN,vE,vO,{h with
   lt:=Nat.lt_of_lt_of_le h.lt hs
   c0:=(World.cell?_of_block (w:=w) (a:=⟨r,0,none⟩) e).trans h.c0
   c1:=(World.cell?_of_block (w:=w) (a:=⟨r,1,none⟩) e).trans h.c1
   c2:=(World.cell?_of_block (w:=w) (a:=⟨r,2,none⟩) e).trans h.c2
   fr:=fun j=>(World.frozen?_of_block (w:=w) (a:=⟨r,j,none⟩) e).trans (h.fr j)
   oN:=vt h.oN fun k hk=>hb k (h.oN.lt k hk).2 (hN k hk)
   oE:=vt h.oE fun k hk=>hb k (h.oE.lt k hk).2 (hE k hk)
   oO:=vt h.oO fun k hk=>hb k (h.oO.lt k hk).2 (hO k hk)},hr,hN,hE,hO⟩
 mono:=by
  rintro w F G ⟨vN,vE,vO,h,hr,hN,hE,hO⟩ hG;exact⟨vN,vE,vO,h,hG r h.lt hr,fun k hk=>hG k (h.oN.lt k hk).2 (hN k hk),fun k hk=>hG k (h.oE.lt k hk).2 (hE k hk),fun k hk=>hG k (h.oO.lt k hk).2 (hO k hk)⟩
theorem vR{w:World}{F:Nat→Prop}{v v':Value}(h:Inn F v)(hat:um w v v'):Inn (Gr F w) v':=by
 intro k hk;rcases hat with e|e|⟨j,hj,e⟩
 ·exact Or.inl (h k (e▸hk))
 ·rw[e]at hk;cases hk
 ·rw[e]at hk;cases hk;exact Or.inr hj
theorem qy.putN{w w1:World}{r:Nat}{vN vE vO v':Value}{S:Pz.Fil}{L:List Pz.Nd}{F:Nat→Prop}(h:qy w 0 r vN vE vO S)(hr:F r)(hN:Inn F vN)(hE:Inn F vE)(hO:Inn F vO)(hg:w.grownBy w1 vN.ownBlock)(hown:w1.ownsRow 0 145 3 v' L.length (cN L))(hat:um w vN v'):
 zl r {S with N:=L} (w1.setCell ⟨r,0,none⟩ v') (Gr F w)∧zu F w (w1.setCell ⟨r,0,none⟩ v'):=by
 have hre:some r≠vN.ownBlock:=fun e=>h.aN e.symm;have hs:=hg.size;have c0:=(qe (j:=0) hg h.lt hre).trans h.c0;have c1:=(qe (j:=1) hg h.lt hre).trans h.c1;have c2:=(qe (j:=2) hg h.lt hre).trans h.c2;have haw:=yO hat h.aN h.lt;have g2:=Uy w1 ⟨r,0,none⟩ v';refine⟨⟨v',vE,vO,{
  lo:=h.lo
  lt:=by rw[show(w1.setCell ⟨r,0,none⟩ v').heap.size=w1.heap.size by simp[World.setCell]];exact Nat.lt_of_lt_of_le h.lt hs
  c0:=World.cell?_setCell_same _ _ _ c0
  c1:=by rw[World.cell?_setCell_other (h:=by simp)];exact c1
  c2:=by rw[World.cell?_setCell_other (h:=by simp)];exact c2
  fr:=fun j=>by simpa using(qj (j:=j) hg h.lt hre).trans (h.fr j)
  oN:=hown.kept g2 (Or.inr haw)
  oE:=(h.oE.kept hg (jl h.nE)).kept g2 (Or.inr h.aE)
  oO:=(h.oO.kept hg (jl h.nO)).kept g2 (Or.inr h.aO)
  aN:=haw
  aE:=h.aE
  aO:=h.aO
  nE:=ql hat h.nE (fun j hj=>(h.oE.lt j hj).2)
  nO:=ql hat h.nO (fun j hj=>(h.oO.lt j hj).2)
  eO:=h.eO},Or.inl hr,vR hN hat,fun k hk=>Or.inl (hE k hk),fun k hk=>Or.inl (hO k hk)⟩,?_⟩
 exact(zw hg hN).trans (zz w1 ⟨r,0,none⟩ v' (F:=F) hr) fun _ _ e=>e
theorem qy.putE{w w1:World}{r:Nat}{vN vE vO v':Value}{S:Pz.Fil}{L:List Pz.En}{F:Nat→Prop}(h:qy w 0 r vN vE vO S)(hr:F r)(hN:Inn F vN)(hE:Inn F vE)(hO:Inn F vO)(hg:w.grownBy w1 vE.ownBlock)(hown:w1.ownsRow 0 198 3 v' L.length (cE L))(hat:um w vE v'):
 zl r {S with E:=L} (w1.setCell ⟨r,1,none⟩ v') (Gr F w)∧zu F w (w1.setCell ⟨r,1,none⟩ v'):=by
 have hre:some r≠vE.ownBlock:=fun e=>h.aE e.symm;have hs:=hg.size;have c0:=(qe (j:=0) hg h.lt hre).trans h.c0;have c1:=(qe (j:=1) hg h.lt hre).trans h.c1;have c2:=(qe (j:=2) hg h.lt hre).trans h.c2;have haw:=yO hat h.aE h.lt;have g2:=Uy w1 ⟨r,1,none⟩ v';refine⟨⟨vN,v',vO,{
  lo:=h.lo
  lt:=by rw[show(w1.setCell ⟨r,1,none⟩ v').heap.size=w1.heap.size by simp[World.setCell]];exact Nat.lt_of_lt_of_le h.lt hs
  c0:=by rw[World.cell?_setCell_other (h:=by simp)];exact c0
  c1:=World.cell?_setCell_same _ _ _ c1
  c2:=by rw[World.cell?_setCell_other (h:=by simp)];exact c2
  fr:=fun j=>by simpa using(qj (j:=j) hg h.lt hre).trans (h.fr j)
  oN:=(h.oN.kept hg h.nE).kept g2 (Or.inr h.aN)
  oE:=hown.kept g2 (Or.inr haw)
  oO:=(h.oO.kept hg (jl h.eO)).kept g2 (Or.inr h.aO)
  aN:=h.aN
  aE:=haw
  aO:=h.aO
  nE:=jl (ql hat (jl h.nE) (fun j hj=>(h.oN.lt j hj).2))
  nO:=h.nO
  eO:=ql hat h.eO (fun j hj=>(h.oO.lt j hj).2)},Or.inl hr,fun k hk=>Or.inl (hN k hk),vR hE hat,fun k hk=>Or.inl (hO k hk)⟩,?_⟩
 exact(zw hg hE).trans (zz w1 ⟨r,1,none⟩ v' (F:=F) hr) fun _ _ e=>e
theorem qy.putO{w w1:World}{r:Nat}{vN vE vO v':Value}{S:Pz.Fil}{L:List Pz.Op}{F:Nat→Prop}(h:qy w 0 r vN vE vO S)(hr:F r)(hN:Inn F vN)(hE:Inn F vE)(hO:Inn F vO)(hg:w.grownBy w1 vO.ownBlock)(hown:w1.ownsRow 0 147 3 v' L.length (cO L))(hat:um w vO v'):
 zl r {S with O:=L} (w1.setCell ⟨r,2,none⟩ v') (Gr F w)∧zu F w (w1.setCell ⟨r,2,none⟩ v'):=by
 have hre:some r≠vO.ownBlock:=fun e=>h.aO e.symm;have hs:=hg.size;have c0:=(qe (j:=0) hg h.lt hre).trans h.c0;have c1:=(qe (j:=1) hg h.lt hre).trans h.c1;have c2:=(qe (j:=2) hg h.lt hre).trans h.c2;have haw:=yO hat h.aO h.lt;have g2:=Uy w1 ⟨r,2,none⟩ v';refine⟨⟨vN,vE,v',{
  lo:=h.lo
  lt:=by rw[show(w1.setCell ⟨r,2,none⟩ v').heap.size=w1.heap.size by simp[World.setCell]];exact Nat.lt_of_lt_of_le h.lt hs
  c0:=by rw[World.cell?_setCell_other (h:=by simp)];exact c0
  c1:=by rw[World.cell?_setCell_other (h:=by simp)];exact c1
  c2:=World.cell?_setCell_same _ _ _ c2
  fr:=fun j=>by simpa using(qj (j:=j) hg h.lt hre).trans (h.fr j)
  oN:=(h.oN.kept hg h.nO).kept g2 (Or.inr h.aN)
  oE:=(h.oE.kept hg h.eO).kept g2 (Or.inr h.aE)
  oO:=hown.kept g2 (Or.inr haw)
  aN:=h.aN
  aE:=h.aE
  aO:=haw
  nE:=h.nE
  nO:=jl (ql hat (jl h.nO) (fun j hj=>(h.oN.lt j hj).2))
  eO:=jl (ql hat (jl h.eO) (fun j hj=>(h.oE.lt j hj).2))},Or.inl hr,fun k hk=>Or.inl (hN k hk),fun k hk=>Or.inl (hE k hk),vR hO hat⟩,?_⟩
 exact(zw hg hO).trans (zz w1 ⟨r,2,none⟩ v' (F:=F) hr) fun _ _ e=>e
theorem infoE:(prog.info? 198).map (fun i=>(i.zero,i.size,i.bytes))=some (some (.agg #[.int .i64 0,.string ByteArray.empty,.int .i64 0]),3,32):=by kernel_rfl
theorem pinfoN:(prog.info? 145).map (fun i=>(i.zero,i.size,i.bytes))=some (some (.agg #[.bool false,.string ByteArray.empty,.int .i64 0]),3,32):=by kernel_rfl
theorem infoO:(prog.info? 147).map (fun i=>(i.zero,i.size,i.bytes))=some (some (.agg #[.int .i64 0,.int .i64 0,.int .i64 0]),3,24):=by kernel_rfl
theorem jh(w:World)(x y z:Value)(t:TypeId):∀j u,[x,y,z][j]? =some u→(w.alloc (.cells #[x,y,z] t)).cell? ((⟨w.heap.size,0,none⟩:Addr).add j)=some u:=by
 intro j u hj;match j,hj with
 |0,hj=>simp at hj;subst hj;simp[Addr.add]
 |1,hj=>simp at hj;subst hj;simp[Addr.add]
 |2,hj=>simp at hj;subst hj;simp[Addr.add]
theorem yi{w:World}{v v':Value}(h:v'.ownBlock=v.ownBlock∨v'.ownBlock=some w.heap.size):um w v v':=h.imp id fun e=>Or.inr ⟨_,Nat.le_refl _,e⟩
theorem qs(r:Nat)(S:Pz.Fil)(i n:Nat)(s:ByteArray)(w:World)(F:Nat→Prop)(hE:S.E.length≤1000000)(hR:zl r S w F):
 Calls prog 81 #[.pointer (some ⟨r,0,none⟩),.int .i64 i,.string s,.int .i64 n] w fun e w'=>e= .returned (.tuple #[])∧zl r {S with E:=S.E++[⟨i,s.data.toList,n⟩]} w' (Gr F w)∧zu F w w':=by
 obtain⟨vN,vE,vO,hA,hr,hiN,hiE,hiO⟩:=hR;have HI:=hid (And.intro hr (And.intro hiN (And.intro hiE hiO)));clear hr hiN hiE hiO;have hc1:=hA.c1;have hlt:=hA.lt;have hlo:=hA.lo;have hfr:=hA.fr 1;have HA:=hid hA;have hoE:=hA.oE;clear hA;obtain⟨i0,hi,hz0,hz1,hz2⟩:=info_parts infoE;have hsn:cE S.E++[.int .i64 i,.string s,.int .i64 n]=cE (S.E++[⟨i,s.data.toList,n⟩]):=by
  unfold cE;rw[Pz.three_snoc]
 have Hsn:=hid hsn;clear hsn;go_enter func81,ntmps81;go_wp2_with(at_builtin;go_loud (refine wpList_append_own_at _ rfl _ _ 140 rfl 0 198 i0 _ 3 32 underlying140 hi hz0 hz1 hz2 rfl (by decide) vE S.E.length (cE S.E) rfl (hoE.alloc _) ⟨w.heap.size,0,none⟩ 1 1 [.int .i64 i,.string s,.int .i64 n] rfl rfl ?_ (by intro u hu;simp at hu;rcases hu with rfl|rfl|rfl<;>rfl) (by unfold maxLen;omega) (by omega) (Nat.zero_le _) ?_))
 ·exact jh _ _ _ _ _
 intro v' w1 hown hgrow _ hat;have hba:=(Below.refl w.heap.size w).alloc (Nat.le_refl _) (.cells #[.int .i64 i,.string s,.int .i64 n] 198);have hA0:=HA.o.keep hba;obtain⟨hr,hiN,hiE,hiO⟩:=HI.o;rw[Hsn.o,show S.E.length+1=(S.E++[(⟨i,s.data.toList,n⟩:Pz.En)]).length by simp]at hown;obtain⟨A',c',rfl,_,_⟩:=qr hown;obtain⟨hR',hb'⟩:=hA0.putE hr hiN hiE hiO hgrow hown (yi (by simpa using hat));have hre:some r≠vE.ownBlock:=fun e=>hA0.aE e.symm;have c1':=(qe (j:=1) hgrow hA0.lt hre).trans hA0.c1;have f1':=(qj (j:=1) hgrow hA0.lt hre).trans (hA0.fr 1);have hB2:=(zl.held _ _).back hba hR' hb';rw[List.length_append,List.length_singleton]at hB2;have HR':=hid hB2;clear hR' hA0 hown hb' hat hB2 hr hiN hiE hiO;go_wp2;go_end0
 exact⟨rfl,HR'.o⟩
theorem Z7(r:Nat)(S:Pz.Fil)(d:Bool)(w:World)(F:Nat→Prop)(hE:S.N.length≤1000000)(hR:zl r S w F):
 Calls prog 82 #[.pointer (some ⟨r,0,none⟩),.bool d] w fun e w'=>e= .returned (.int .i64 S.N.length)∧zl r {S with N:=S.N++[⟨d,[],1⟩]} w' (Gr F w)∧zu F w w':=by
 obtain⟨vN,vE,vO,hA,hr,hiN,hiE,hiO⟩:=hR;have HI:=hid (And.intro hr (And.intro hiN (And.intro hiE hiO)));clear hr hiN hiE hiO;have hc1:=hA.c0;have hlt:=hA.lt;have hlo:=hA.lo;have hfr:=hA.fr 0;have HA:=hid hA;have hoE:=hA.oN;clear hA;obtain⟨i0,hi,hz0,hz1,hz2⟩:=info_parts pinfoN;have hsn:cN S.N++[.bool d,.string ByteArray.empty,.int .i64 1]=cN (S.N++[⟨d,[],1⟩]):=by
  unfold cN;rw[Pz.three_snoc];rfl
 have Hsn:=hid hsn;clear hsn;go_enter func82,ntmps82;go_wp2_with(at_builtin;go_loud (refine wpList_append_own_at _ rfl _ _ 139 rfl 0 145 i0 _ 3 32 underlying139 hi hz0 hz1 hz2 rfl (by decide) vN S.N.length (cN S.N) rfl (hoE.alloc _) ⟨w.heap.size,0,none⟩ 1 1 [.bool d,.string ByteArray.empty,.int .i64 1] rfl rfl ?_ (by intro u hu;simp at hu;rcases hu with rfl|rfl|rfl<;>rfl) (by unfold maxLen;omega) (by omega) (Nat.zero_le _) ?_))
 ·exact jh _ _ _ _ _
 intro v' w1 hown hgrow _ hat;have hba:=(Below.refl w.heap.size w).alloc (Nat.le_refl _) (.cells #[.bool d,.string ByteArray.empty,.int .i64 1] 145);have hA0:=HA.o.keep hba;obtain⟨hr,hiN,hiE,hiO⟩:=HI.o;rw[Hsn.o,show S.N.length+1=(S.N++[(⟨d,[],1⟩:Pz.Nd)]).length by simp]at hown;obtain⟨A',c',rfl,_,_⟩:=qr hown;obtain⟨hR',hb'⟩:=hA0.putN hr hiN hiE hiO hgrow hown (yi (by simpa using hat));have hre:some r≠vN.ownBlock:=fun e=>hA0.aN e.symm;have c1':=(qe (j:=0) hgrow hA0.lt hre).trans hA0.c0;have f1':=(qj (j:=0) hgrow hA0.lt hre).trans (hA0.fr 0);have hB2:=(zl.held _ _).back hba hR' hb';rw[List.length_append,List.length_singleton]at hB2;have HR':=hid hB2;clear hR' hA0 hown hb' hat hB2 hr hiN hiE hiO;have hc0':(w1.setCell ⟨r,0,none⟩ (.slice A' (S.N.length+1) c')).cell? ⟨r,0,none⟩=some (.slice A' (S.N.length+1) c'):=World.cell?_setCell_same _ _ _ c1';go_wp2;go_ret
 exact⟨rfl,HR'.o⟩
theorem ye{w:World}{B B' e sz n:Nat}{v:Value}{xs:List Value}(h:w.ownsRow B' e sz v n xs)(hB:B≤B'):w.ownsRow B e sz v n xs:=
 ⟨h.1,h.2.imp id fun⟨g,cap,cur,a,b,c⟩=>⟨g,cap,cur,a,Nat.le_trans hB b,c⟩⟩
theorem jV(r:Nat)(S:Pz.Fil)(i:Nat)(s:ByteArray)(w:World)(F:Nat→Prop)(hE:S.E.length≤1000000)(hR:zl r S w F):
 Calls prog 85 #[.pointer (some ⟨r,0,none⟩),.int .i64 i,.string s] w fun e w'=>e= .returned (.tuple #[])∧zl r {S with E:=Pz.take S.E i s.data.toList} w' (Gr F w)∧zu F w w':=by
 obtain⟨vN,vE,vO,hA,hr,hiN,hiE,hiO⟩:=hR;have HI:=hid (And.intro hr (And.intro hiN (And.intro hiE hiO)));clear hr hiN hiE hiO;have HA:=hid hA;obtain⟨A,c,rfl,hc,hrow⟩:=qr hA.oE;have hc1:=hA.c1;have hlt:=hA.lt;have hfr:=hA.fr 1;have HR:=hid hrow;clear hrow hA hc;obtain⟨n,hn⟩:=nm S.E.length;rw[←hn]at hc1 hE;have Hn:=hid hn;clear hn;obtain⟨i0,hi,hz0,hz1,hz2⟩:=info_parts infoE;go_enter func85,ntmps85;go_wp2;go_loopw[6,7] (fun u v wr=>∃(k:Nat) (T:List Pz.En),k≤n∧T.length≤k∧v= .int .i64 k∧wr.ownsRow w.heap.size 198 3 u T.length (cE T)∧Hid (T=Pz.take (S.E.take k) i s.data.toList)∧Below w.heap.size w wr) (fun _ v _=>n-(intOf v).toNat)
 case atStart=>exact⟨0,[],by omega,by simp,rfl,World.ownsRow_nil _ _ _ _,by show[]=Pz.take (S.E.take 0) i _;rfl,Below.refl _ _⟩
 case round=>
  obtain⟨k,T,hk,hT,rfl,hown,hok,hbw⟩:=hrel;have hc1':wr.cell? ⟨r,1,none⟩=some (.slice A n c):=(hbw.cell (p:=⟨r,1,none⟩) hlt).trans hc1;obtain⟨A',c',hv,hc',_⟩:=qr hown;rw[hv]at hown;rw[hv];by_cases hkn:k<n
  ·obtain⟨e,he⟩:∃e,S.E[k]? =some e:=⟨_,List.getElem?_eq_getElem (by have:=Hn.o;omega)⟩;obtain⟨b,rfl,_,hb,h0,h1,h2,_⟩:=HR.o k e he;have hst:=Pz.take_step (i:=i) (x:=s.data.toList) he;rw[←hok.o]at hst;have Hst:=hid hst;obtain⟨x,hx⟩:∃x:ByteArray,x=⟨e.name.toArray⟩:=⟨_,rfl⟩;rw[←hx]at h1;have Hx:=hid hx;have g0:=(hbw.cell (p:=⟨b,k*3,none⟩) hb).trans h0;have g1:=(hbw.cell (p:=⟨b,k*3+1,none⟩) hb).trans h1;have g2:=(hbw.cell (p:=⟨b,k*3+2,none⟩) hb).trans h2;clear h0 h1 h2 he hst hc1 hx;have hk1:(0:Int)≤k:=by omega
   have hk2:(k:Int)<n:=by omega
   have hsn:cE T++[.int .i64 e.dir,.string x,.int .i64 e.node]=cE (T++[e]):=by
    unfold cE;rw[Pz.three_snoc,Hx.o]
   have Hsn:=hid hsn;clear hsn;by_cases hd:e.dir=i
   ·subst hd;go_wp2_with(at_builtin;refine wpList_append_own _ rfl _ _ 140 rfl w.heap.size 198 i0 _ 3 32 underlying140 hi hz0 hz1 hz2 rfl (by decide) (.slice A' T.length c') T.length (cE T) rfl (hown.alloc _) ⟨wr.heap.size,0,none⟩ 1 1 [.int .i64 e.dir,.string x,.int .i64 e.node] rfl rfl (jh _ _ _ _ _) (by intro u hu;simp at hu;rcases hu with rfl|rfl|rfl<;>rfl) (by unfold maxLen;omega) (by omega) (by have:=hbw.size;simp;omega) ?_;intro v' w1 hown' hgrow _)
    ·have hne:¬(e.dir=e.dir∧e.name=s.data.toList):=by
      have h1:(!x.toList==s.toList)=true:=by assumption
      rintro⟨_,h2⟩;rw[Hx.o,Lib.toList_data,Lib.toList_data]at h1;simp[h2]at h1
     have Hne:=hid hne;clear hne;rw[Hsn.o,show T.length+1=(T++[e]).length by simp]at hown';have hB1:Below w.heap.size w w1:=(hbw.alloc hbw.size _).grown hgrow (by have:=hbw.size;simp;omega) (fun q hq=>(hown.lt q hq).1);obtain⟨A2,c2,hv',_,_⟩:=qr hown';rw[hv']at hown';rw[hv'];have HO:=hid hown';clear hown' hown hv' hv;go_wp2;go_roundw
     case rel=>exact⟨k+1,T++[e],by omega,by simp;omega,by go_num,HO.o,by show T++[e]=_;rw[Hst.o,if_neg Hne.o],hB1⟩
     case measure=>simp[intOf];omega
    ·have hps:e.dir=e.dir∧e.name=s.data.toList:=by
      have h1:(!x.toList==s.toList)=false:=by assumption
      rw[Hx.o,Lib.toList_data,Lib.toList_data]at h1;exact⟨rfl,by simpa using h1⟩
     go_roundw
     case rel=>exact⟨k+1,T,by omega,by omega,by go_num,hown,by show T=_;rw[Hst.o,if_pos hps];simp,hbw⟩
     case measure=>simp[intOf];omega
   ·have hd1:((e.dir:Int)==i)=false:=by rw[beq_eq_false_iff_ne];omega
    have Hne:Hid (¬(e.dir=i∧e.name=s.data.toList)):=hid fun h=>hd h.1;go_wp2_with(at_builtin;refine wpList_append_own _ rfl _ _ 140 rfl w.heap.size 198 i0 _ 3 32 underlying140 hi hz0 hz1 hz2 rfl (by decide) (.slice A' T.length c') T.length (cE T) rfl (hown.alloc _) ⟨wr.heap.size,0,none⟩ 1 1 [.int .i64 e.dir,.string x,.int .i64 e.node] rfl rfl (jh _ _ _ _ _) (by intro u hu;simp at hu;rcases hu with rfl|rfl|rfl<;>rfl) (by unfold maxLen;omega) (by omega) (by have:=hbw.size;simp;omega) ?_;intro v' w1 hown' hgrow _)
    rw[Hsn.o,show T.length+1=(T++[e]).length by simp]at hown';have hB1:Below w.heap.size w w1:=(hbw.alloc hbw.size _).grown hgrow (by have:=hbw.size;simp;omega) (fun q hq=>(hown.lt q hq).1);obtain⟨A2,c2,hv',_,_⟩:=qr hown';rw[hv']at hown';rw[hv'];have HO:=hid hown';clear hown' hown hv' hv;go_wp2;go_roundw
    case rel=>exact⟨k+1,T++[e],by omega,by simp;omega,by go_num,HO.o,by show T++[e]=_;rw[Hst.o,if_neg Hne.o],hB1⟩
    case measure=>simp[intOf];omega
  ·have hk2:(n:Int)≤k:=by omega
   have hTE:T=Pz.take S.E i s.data.toList:=by rw[hok.o,List.take_of_length_le (by have:=Hn.o;omega)]
   have hat:um w (.slice A S.E.length c) (.slice A' T.length c'):=by
    cases hv:(Value.slice A' T.length c').ownBlock with
    |none=>exact Or.inr (Or.inl hv)
    |some q=>exact Or.inr (Or.inr ⟨q,(hown.lt q hv).1,hv⟩)
   obtain⟨hr,hiN,hiE,hiO⟩:=HI.o;have hR':=HA.o.putE hr hiN hiE hiO (Uz (qR hbw)) (ye hown (Nat.zero_le _)) hat;have f1':wr.frozen? ⟨r,1,none⟩=false:=(hbw.frozen (p:=⟨r,1,none⟩) hlt).trans hfr;have HR':=hid hR';clear hR' hown hat hr hiN hiE hiO;go_wp2;go_end0
   rw[←hTE];exact⟨rfl,HR'.o⟩
theorem Vr(r:Nat)(S:Pz.Fil)(cl:Int)(w:World)(F:Nat→Prop)(hE:S.O.length≤1000000)(hR:zl r S w F):
 Calls prog 36 #[.pointer (some ⟨r,0,none⟩),.int .i64 cl] w fun e w'=>e= .returned (.tuple #[])∧zl r {S with O:=Pz.drop S.O cl} w' (Gr F w)∧zu F w w':=by
 obtain⟨vN,vE,vO,hA,hr,hiN,hiE,hiO⟩:=hR;have HI:=hid (And.intro hr (And.intro hiN (And.intro hiE hiO)));clear hr hiN hiE hiO;have HA:=hid hA;obtain⟨A,c,rfl,hc,hrow⟩:=qr hA.oO;have hc1:=hA.c2;have hlt:=hA.lt;have hfr:=hA.fr 2;have HR:=hid hrow;clear hrow hA hc;obtain⟨n,hn⟩:=nm S.O.length;rw[←hn]at hc1 hE;have Hn:=hid hn;clear hn;obtain⟨i0,hi,hz0,hz1,hz2⟩:=info_parts infoO;go_enter func36,ntmps36;go_wp2;go_loopw[4,5] (fun u v wr=>∃(k:Nat) (T:List Pz.Op),k≤n∧T.length≤k∧v= .int .i64 k∧wr.ownsRow w.heap.size 147 3 u T.length (cO T)∧Hid (T=Pz.drop (S.O.take k) cl)∧Below w.heap.size w wr) (fun _ v _=>n-(intOf v).toNat)
 case atStart=>exact⟨0,[],by omega,by simp,rfl,World.ownsRow_nil _ _ _ _,by show[]=Pz.drop (S.O.take 0) cl;rfl,Below.refl _ _⟩
 case round=>
  obtain⟨k,T,hk,hT,rfl,hown,hok,hbw⟩:=hrel;have hc1':wr.cell? ⟨r,2,none⟩=some (.slice A n c):=(hbw.cell (p:=⟨r,2,none⟩) hlt).trans hc1;obtain⟨A',c',hv,hc',_⟩:=qr hown;rw[hv]at hown;rw[hv];by_cases hkn:k<n
  ·obtain⟨e,he⟩:∃e,S.O[k]? =some e:=⟨_,List.getElem?_eq_getElem (by have:=Hn.o;omega)⟩;obtain⟨b,rfl,_,hb,h0,h1,h2,_⟩:=HR.o k e he;have hst:=Pz.drop_step (c:=cl) he;rw[←hok.o]at hst;have Hst:=hid hst;have g0:=(hbw.cell (p:=⟨b,k*3,none⟩) hb).trans h0;have g1:=(hbw.cell (p:=⟨b,k*3+1,none⟩) hb).trans h1;have g2:=(hbw.cell (p:=⟨b,k*3+2,none⟩) hb).trans h2;clear h0 h1 h2 he hst hc1;have hk1:(0:Int)≤k:=by omega
   have hk2:(k:Int)<n:=by omega
   have hsn:cO T++[.int .i64 e.client,.int .i64 e.fd,.int .i64 e.node]=cO (T++[e]):=by
    unfold cO;rw[Pz.three_snoc]
   have Hsn:=hid hsn;clear hsn;by_cases hd:e.client=cl
   ·have hd1:(e.client==cl)=true:=by rw[beq_iff_eq];exact hd
    go_wp2;go_roundw
    case rel=>exact⟨k+1,T,by omega,by omega,by go_num,hown,by show T=_;rw[Hst.o,if_pos hd];simp,hbw⟩
    case measure=>simp[intOf];omega
   ·have hd1:(e.client==cl)=false:=by rw[beq_eq_false_iff_ne];exact hd
    have Hne:Hid (¬e.client=cl):=hid hd;go_wp2_with(at_builtin;refine wpList_append_own _ rfl _ _ 141 rfl w.heap.size 147 i0 _ 3 24 underlying141 hi hz0 hz1 hz2 rfl (by decide) (.slice A' T.length c') T.length (cO T) rfl (hown.alloc _) ⟨wr.heap.size,0,none⟩ 1 1 [.int .i64 e.client,.int .i64 e.fd,.int .i64 e.node] rfl rfl (jh _ _ _ _ _) (by intro u hu;simp at hu;rcases hu with rfl|rfl|rfl<;>rfl) (by unfold maxLen;omega) (by omega) (by have:=hbw.size;simp;omega) ?_;intro v' w1 hown' hgrow _)
    rw[Hsn.o,show T.length+1=(T++[e]).length by simp]at hown';have hB1:Below w.heap.size w w1:=(hbw.alloc hbw.size _).grown hgrow (by have:=hbw.size;simp;omega) (fun q hq=>(hown.lt q hq).1);obtain⟨A2,c2,hv',_,_⟩:=qr hown';rw[hv']at hown';rw[hv'];have HO:=hid hown';clear hown' hown hv' hv;go_wp2;go_roundw
    case rel=>exact⟨k+1,T++[e],by omega,by simp;omega,by go_num,HO.o,by show T++[e]=_;rw[Hst.o,if_neg Hne.o],hB1⟩
    case measure=>simp[intOf];omega
  ·have hk2:(n:Int)≤k:=by omega
   have hTE:T=Pz.drop S.O cl:=by rw[hok.o,List.take_of_length_le (by have:=Hn.o;omega)]
   have hat:um w (.slice A S.O.length c) (.slice A' T.length c'):=by
    cases hv:(Value.slice A' T.length c').ownBlock with
    |none=>exact Or.inr (Or.inl hv)
    |some q=>exact Or.inr (Or.inr ⟨q,(hown.lt q hv).1,hv⟩)
   obtain⟨hr,hiN,hiE,hiO⟩:=HI.o;have hR':=HA.o.putO hr hiN hiE hiO (Uz (qR hbw)) (ye hown (Nat.zero_le _)) hat;have f1':wr.frozen? ⟨r,2,none⟩=false:=(hbw.frozen (p:=⟨r,2,none⟩) hlt).trans hfr;have HR':=hid hR';clear hR' hown hat hr hiN hiE hiO;go_wp2;go_end0
   rw[←hTE];exact⟨rfl,HR'.o⟩
def Us(errno fd:Int)(data:ByteArray)(names:Value)(k l s:Int):Value:= .agg #[.int .i64 errno,.int .i64 fd,.string data,names,.int .i64 k,.int .i64 l,.int .i64 s]
theorem infoR:(prog.info? 56).map (·.size)=some 7:=by kernel_rfl
theorem JO(e0:Int)(w:World):
 Calls prog 75 #[.int .i64 e0] w fun e w'=>e= .returned (Us e0 0 ⟨#[]⟩ (.slice none 0 0) 0 0 0)∧Below w.heap.size w w':=by
 go_enter func75,ntmps75;go_wp2;try simp only[Exit.inBlock,Exit.then]
 refine bodyPost_ret (results_cell_row rfl _ _ w.heap.size _ #[.int .i64 e0,.int .i64 0,.string ⟨#[]⟩,.slice none 0 0,.int .i64 0,.int .i64 0,.int .i64 0] _ _ rfl (heap_alloc_new _ _) underlying56 rfl infoR) rfl ?_;exact⟨rfl,(Below.refl _ _).alloc (Nat.le_refl _) _⟩
def qu:Pz.Fil:={N:=[⟨true,[],1⟩],E:=[],O:=[]}
theorem Xg(w:World)(t:TypeId):qy (w.alloc (.cells #[.slice none 0 0,.slice none 0 0,.slice none 0 0] t)) 0 w.heap.size (.slice none 0 0) (.slice none 0 0) (.slice none 0 0) {N:=[],E:=[],O:=[]} where
 lo:=Nat.zero_le _
 lt:=by simp
 c0:=by simp
 c1:=by simp
 c2:=by simp
 fr:=fun j=>vS _ _ _ _
 oN:=World.ownsRow_nil _ _ _ _
 oE:=World.ownsRow_nil _ _ _ _
 oO:=World.ownsRow_nil _ _ _ _
 aN:=by simp[Value.ownBlock]
 aE:=by simp[Value.ownBlock]
 aO:=by simp[Value.ownBlock]
 nE:=Or.inl rfl
 nO:=Or.inl rfl
 eO:=Or.inl rfl
theorem YA(w:World):
 Calls prog 35 #[] w fun e w'=>e= .returned (.pointer (some ⟨w.heap.size,0,none⟩))∧zl w.heap.size qu w' (fun k=>w.heap.size≤k)∧Below w.heap.size w w':=by
 obtain⟨i0,hi,hz0,hz1,hz2⟩:=info_parts pinfoN;go_enter func35,ntmps35;go_wp2_with(at_builtin;go_loud (refine wpList_append_own_at _ rfl _ _ 139 rfl 0 145 i0 _ 3 32 underlying139 hi hz0 hz1 hz2 rfl (by decide) (.slice none 0 0) 0 [] rfl (World.ownsRow_nil _ _ _ _) ⟨w.heap.size+1,0,none⟩ 1 1 [.bool true,.string ByteArray.empty,.int .i64 1] rfl rfl ?_ (by intro u hu;simp at hu;rcases hu with rfl|rfl|rfl<;>rfl) (by unfold maxLen;omega) (by omega) (Nat.zero_le _) ?_))
 ·intro j u hu;have:=jh (w.alloc (.cells #[.slice none 0 0,.slice none 0 0,.slice none 0 0] 143)) (.bool true) (.string ByteArray.empty) (.int .i64 1) 145 j u hu
  rwa [show(w.alloc (.cells #[.slice none 0 0,.slice none 0 0,.slice none 0 0] 143)).heap.size=w.heap.size+1 by simp]at this
 intro v' w1 hown hgrow _ hat;have hA0:=(Xg w 143).keep ((Below.refl _ _).alloc (Nat.le_refl _) (.cells #[.bool true,.string ⟨#[]⟩,.int .i64 1] 145));have hBa:=((Below.refl w.heap.size w).alloc (Nat.le_refl _) (.cells #[.slice none 0 0,.slice none 0 0,.slice none 0 0] 143)).alloc (by simp) (.cells #[.bool true,.string ⟨#[]⟩,.int .i64 1] 145);obtain⟨A',c',rfl,_,_⟩:=qr (L:=[(⟨true,[],1⟩:Pz.Nd)]) (f:=fun x=> .bool x.dir) (g:=fun x=> .string ⟨x.data.toArray⟩) (h:=fun x=> .int .i64 x.links) hown;obtain⟨hR',hb'⟩:=hA0.putN (F:=fun k=>w.heap.size≤k) (L:=[(⟨true,[],1⟩:Pz.Nd)]) (Nat.le_refl _) (by intro k hk;cases hk) (by intro k hk;cases hk) (by intro k hk;cases hk) hgrow hown (yi (by simpa using hat));have hre:some w.heap.size≠(Value.slice none 0 0).ownBlock:=by simp[Value.ownBlock]
 have c1':=(qe (j:=0) hgrow hA0.lt hre).trans hA0.c0;have f1':=(qj (j:=0) hgrow hA0.lt hre).trans (hA0.fr 0);have hB2:=hBa.trans (hb'.below (B:=w.heap.size) (by simp;omega) (fun k hk=>by omega));have hR2:=(zl.held _ _).mono (G:=fun k=>w.heap.size≤k) hR' fun k _ e=>e.elim id fun e=>by simp at e;omega
 have HR':=hid hR2;clear hR' hA0 hown hb' hat hBa hR2;go_wp2;go_ret
 exact⟨rfl,HR'.o,hB2⟩
section
open Go.Shelf
def PSt[zg](x t r:Nat)(S:List UInt8)(M:Gd.Vol)(Z:Pz.Fil)(c K:Nat)(w a:World)(Ls:List (Nat×Obj)):Prop:=
 ∃F' G,jB (zy x t S M c K) Nof w F' a∧zl r Z a G∧(∀k,G k→w.heap.size≤k∧k<a.heap.size∧¬F' k)∧∀p∈Ls,w.heap.size≤p.1∧¬F' p.1∧¬G p.1∧a.heap[p.1]? =some p.2
variable {x t r c K:Nat} {S:List UInt8} {M:Gd.Vol} {Z:Pz.Fil} {w a b:World} {Ls:List (Nat×Obj)}
theorem PSt.tl[zg](h:PSt x t r S M Z c K w a Ls):Tl x t S M c K Nof w a Ls:=by
 obtain⟨F',G,h1,h2,h3,h4⟩:=h;exact⟨F',h1,fun p hp=>⟨(h4 p hp).1,(h4 p hp).2.1,(h4 p hp).2.2.2⟩⟩
theorem PSt.belowW[zg](h:PSt x t r S M Z c K w a Ls):Below w.heap.size w a:=h.tl.belowW
theorem PSt.size[zg](h:PSt x t r S M Z c K w a Ls):w.heap.size≤a.heap.size:=h.tl.size
theorem PSt.get[zg](h:PSt x t r S M Z c K w a Ls){k:Nat}{o:Obj}(hk:(k,o)∈Ls):a.heap[k]? =some o:=h.tl.get hk
theorem PSt.good[zg](h:PSt x t r S M Z 0 K w a Ls):Gd.Good S M:=h.tl.good
theorem PSt.mx[zg](h:PSt x t r S M Z c K w a Ls)(hM:Mx w):Mx a:=by
 obtain⟨m,hm⟩:=hM;exact⟨m,(h.belowW.cell (p:=⟨0,0,none⟩) (uH hm)).trans hm⟩
theorem PSt.below[zg](h:PSt x t r S M Z c K w a Ls)(hb:Below a.heap.size a b):PSt x t r S M Z c K w b Ls:=by
 obtain⟨F',G,h1,h2,h3,h4⟩:=h;refine⟨F',G,⟨h1.inv.below hb,h1.old,h1.only.trans (zx hb Nof) fun _ _ e=>e⟩,(zl.held r Z).below h2 hb,fun k hk=>⟨(h3 k hk).1,Nat.lt_of_lt_of_le (h3 k hk).2.1 hb.size,(h3 k hk).2.2⟩,fun p hp=>⟨(h4 p hp).1,(h4 p hp).2.1,(h4 p hp).2.2.1,?_⟩⟩;rw[hb.block p.1 (za (h4 p hp).2.2.2)];exact(h4 p hp).2.2.2
theorem PSt.new[zg](h:PSt x t r S M Z c K w a Ls)(hb:Below a.heap.size a b){k:Nat}{o:Obj}(hk:a.heap.size≤k)(ho:b.heap[k]? =some o):PSt x t r S M Z c K w b ((k,o)::Ls):=by
 have hw:=h.size;obtain⟨F',G,h1,h2,h3,h4⟩:=h;refine⟨F',G,⟨h1.inv.below hb,h1.old,h1.only.trans (zx hb Nof) fun _ _ e=>e⟩,(zl.held r Z).below h2 hb,fun q hq=>⟨(h3 q hq).1,Nat.lt_of_lt_of_le (h3 q hq).2.1 hb.size,(h3 q hq).2.2⟩,fun p hp=> ?_⟩;rcases List.mem_cons.1 hp with rfl|hp
 ·exact⟨Nat.le_trans hw hk,fun e=>absurd (h1.inv.tight k e) (Nat.not_lt.2 hk),fun e=>absurd (h3 k e).2.1 (Nat.not_lt.2 hk),ho⟩
 ·exact⟨(h4 p hp).1,(h4 p hp).2.1,(h4 p hp).2.2.1,(hb.block p.1 (za (h4 p hp).2.2.2)).trans (h4 p hp).2.2.2⟩
theorem PSt.less[zg]{Ls':List (Nat×Obj)}(h:PSt x t r S M Z c K w a Ls)(hL:∀p∈Ls',p∈Ls):PSt x t r S M Z c K w a Ls':=by
 obtain⟨F',G,h1,h2,h3,h4⟩:=h;exact⟨F',G,h1,h2,h3,fun p hp=>h4 p (hL p hp)⟩
theorem PSt.open[zg](h:PSt x t r S M Z c K w a Ls):∃F,zy x t S M c K a F∧(∀k,k<w.heap.size→¬F k)∧∀(N:Gd.Vol) (S2:List UInt8) (d K2:Nat) (b:World),zt x t S2 N d K2 F a b→PSt x t r S2 N Z d K2 w b Ls:=by
 obtain⟨F',G,h1,h2,h3,h4⟩:=h;refine⟨F',h1.inv,fun k hk hf=>h1.old k hk hf,fun N S2 d K2 b ⟨F2,k2⟩=> ?_⟩;have hs:=k2.only.size;refine⟨F2,G,h1.trans k2,(zl.held r Z).apart h2 k2.only fun k hk hg=>(h3 k hg).2.2,fun k hk=>⟨(h3 k hk).1,Nat.lt_of_lt_of_le (h3 k hk).2.1 hs,fun e=>(h3 k hk).2.2 (k2.old k (h3 k hk).2.1 e)⟩,fun p hp=> ?_⟩;obtain⟨e1,e2,e3,e4⟩:=h4 p hp;exact⟨e1,fun e=>e2 (k2.old _ (za e4) e),e3,(k2.only.block _ (za e4) e2).trans e4⟩
theorem PSt.doc[zg](h:PSt x t r S M Z c K w a Ls):∃G,zl r Z a G∧(∀k,G k→w.heap.size≤k∧k<a.heap.size)∧(∀p∈Ls,¬G p.1)∧∀(Z2:Pz.Fil) (b:World),zl r Z2 b (Gr G a)→zu G a b→PSt x t r S M Z2 c K w b Ls:=by
 obtain⟨F',G,h1,h2,h3,h4⟩:=h;refine⟨G,h2,fun k hk=>⟨(h3 k hk).1,(h3 k hk).2.1⟩,fun p hp=>(h4 p hp).2.2.1,fun Z2 b hi ho=> ?_⟩;have hs:=ho.size;have hw:=h1.only.size;refine⟨F',fun k=>Gr G a k∧k<b.heap.size,⟨h1.inv.keep hs fun k hk hf=>ho.block k hk fun e=>(h3 k e).2.2 hf,h1.old,h1.only.trans (ho.mono fun k hk e=>e) ?_⟩,?_,fun k hk=> ?_,fun p hp=> ?_⟩
 ·intro j hj hg;exact absurd (h3 j hg).1 (Nat.not_le.2 hj)
 ·exact(zl.held r Z2).mono hi fun k hk e=>⟨e,hk⟩
 ·rcases hk with⟨e|e,e2⟩
  ·exact⟨(h3 k e).1,e2,(h3 k e).2.2⟩
  ·exact⟨Nat.le_trans hw e,e2,fun hf=>absurd (h1.inv.tight k hf) (Nat.not_lt.2 e)⟩
 ·obtain⟨e1,e2,e3,e4⟩:=h4 p hp;refine⟨e1,e2,fun e=> ?_,(ho.block _ (za e4) e3).trans e4⟩;rcases e.1 with e|e
  ·exact e3 e
  ·exact absurd (za e4) (Nat.not_lt.2 e)
theorem PSt.turn[zg](h:PSt x t r S M Z c K w a Ls){k:Nat}{o o2:Obj}(hk:(k,o)∈Ls)(hO:zu (fun q=>q=k) a b)(ho:b.heap[k]? =some o2)(Ls':List (Nat×Obj))(hL:∀p∈Ls',p=(k,o2)∨(p∈Ls∧p.1≠k)):
 PSt x t r S M Z c K w b Ls':=by
 obtain⟨F',G,h1,h2,h3,h4⟩:=h;obtain⟨e1,e2,e3,e4⟩:=h4 _ hk;dsimp only at e1 e2 e3 e4;have hs:=hO.size;refine⟨F',G,⟨h1.inv.keep hs fun q hq hf=>hO.block q hq fun e=>e2 (e▸hf),h1.old,h1.only.trans hO fun q hq e=>absurd e1 (by rw[←e];exact Nat.not_le.2 hq)⟩,(zl.held r Z).apart h2 hO fun q hq hg e=>e3 (e▸hg),fun q hq=>⟨(h3 q hq).1,Nat.lt_of_lt_of_le (h3 q hq).2.1 hs,(h3 q hq).2.2⟩,fun p hp=> ?_⟩;rcases hL p hp with rfl|⟨hp,hne⟩
 ·exact⟨e1,e2,e3,ho⟩
 ·obtain⟨q1,q2,q3,q4⟩:=h4 p hp;exact⟨q1,q2,q3,(hO.block _ (za q4) hne).trans q4⟩
theorem PSt.set[zg](h:PSt x t r S M Z c K w a Ls){k j:Nat}{C:Array Value}{ty:TypeId}{v:Value}(hk:(k,Obj.cells C ty (0,0))∈Ls)(Ls':List (Nat×Obj))(hL:∀p∈Ls',p=(k,Obj.cells (C.setIfInBounds j v) ty (0,0))∨(p∈Ls∧p.1≠k)):
 PSt x t r S M Z c K w (a.setCell ⟨k,j,none⟩ v) Ls':=
 h.turn hk (zz a _ _ rfl) (heap_setCell_same a k j C ty v (h.get hk)) Ls' hL
theorem PSt.setAll[zg](h:PSt x t r S M Z c K w a Ls){k:Nat}{C:Array Value}{ty:TypeId}{vs:List Value}(hk:(k,Obj.cells C ty (0,0))∈Ls)(hC:C.size=vs.length)(Ls':List (Nat×Obj))(hL:∀p∈Ls',p=(k,Obj.cells vs.toArray ty (0,0))∨(p∈Ls∧p.1≠k)):
 PSt x t r S M Z c K w (a.setCells k 0 vs) Ls':=
 h.turn hk (zw (zo k vs 0 a) fun q e=>(Option.some.inj e).symm) (zC (h.get hk) hC (Nat.le_refl k)).2 Ls' hL
theorem PSt.alloc[zg](h:PSt x t r S M Z c K w a Ls)(C:Array Value)(ty:TypeId):PSt x t r S M Z c K w (a.alloc (.cells C ty)) ((a.heap.size,.cells C ty (0,0))::Ls):=
 h.new ((Below.refl _ _).alloc (Nat.le_refl _) _) (Nat.le_refl _) (heap_alloc_new _ _)
def js[zg](t x r:Nat)(D:Nat→Nat→Nat):Array Value:=#[.pointer (some ⟨zg.no,0,none⟩),.pointer (some ⟨t,0,none⟩),.pointer (some ⟨x,0,none⟩),.pointer (some ⟨r,0,none⟩)]++((List.range 64).map fun j=>Value.int .i64 (D (j/8) (j % 8):Nat)).toArray
def zL[zg](t x r:Nat)(D:Nat→Nat→Nat):Obj:= .cells (js t x r D) 43 (0,0)
theorem qL[zg]{t x r:Nat}{D:Nat→Nat→Nat}:(js t x r D)[0]? =some (.pointer (some ⟨zg.no,0,none⟩))∧(js t x r D)[1]? =some (.pointer (some ⟨t,0,none⟩))∧(js t x r D)[2]? =some (.pointer (some ⟨x,0,none⟩))∧(js t x r D)[3]? =some (.pointer (some ⟨r,0,none⟩)):=by
 unfold js;exact⟨(Array.getElem?_append_left (show 0<4 by decide)).trans rfl,(Array.getElem?_append_left (show 1<4 by decide)).trans rfl,(Array.getElem?_append_left (show 2<4 by decide)).trans rfl,(Array.getElem?_append_left (show 3<4 by decide)).trans rfl⟩
theorem Z0[zg]{t x r:Nat}{D:Nat→Nat→Nat}{k fd:Nat}(hk:k<8)(hfd:fd<8):(js t x r D)[4+(8*k+fd)]? =some (.int .i64 (D k fd:Nat)):=by
 unfold js;rw[Array.getElem?_append_right (by show 4≤_;omega)];rw[show(4+(8*k+fd)-#[Value.pointer (some ⟨zg.no,0,none⟩),.pointer (some ⟨t,0,none⟩),.pointer (some ⟨x,0,none⟩),.pointer (some ⟨r,0,none⟩)].size)=8*k+fd by show 4+(8*k+fd)-4=_;omega];rw[List.getElem?_toArray,List.getElem?_map,List.getElem?_range (by omega)];show some (Value.int .i64 (D ((8*k+fd)/8) ((8*k+fd) % 8):Nat))=_
 rw[show(8*k+fd)/8=k by omega,show(8*k+fd) % 8=fd by omega]
theorem vD[zg]{t x r:Nat}{D:Nat→Nat→Nat}:(js t x r D).size=68:=by
 unfold js;rw[Array.size_append];show 4+(List.map (fun j=>Value.int .i64 (D (j/8) (j % 8):Nat)) (List.range 64)).length=68
 rw[List.length_map,List.length_range]
theorem Xq[zg]{t x r:Nat}{D:Nat→Nat→Nat}{k fd i:Nat}(hk:k<8)(hfd:fd<8):(js t x r D).setIfInBounds (4+(8*k+fd)) (.int .i64 (i:Nat))=js t x r (fun a b=>if a=k∧b=fd then i else D a b):=by
 apply Array.ext_getElem?
 intro j;rw[Array.getElem?_setIfInBounds];by_cases e:4+(8*k+fd)=j
 ·rw[if_pos e,if_pos (by rw[vD];omega),←e,Z0 hk hfd,if_pos ⟨rfl,rfl⟩]
 ·rw[if_neg e];unfold js;by_cases hj:j<4
  ·rw[Array.getElem?_append_left (by exact hj),Array.getElem?_append_left (by exact hj)]
  ·rw[Array.getElem?_append_right (by show 4≤j;omega),Array.getElem?_append_right (by show 4≤j;omega)];show(List.map _ _).toArray[j-4]? =(List.map _ _).toArray[j-4]?
   rw[List.getElem?_toArray,List.getElem?_toArray,List.getElem?_map,List.getElem?_map];by_cases h64:j-4<64
   ·rw[List.getElem?_range h64];dsimp only[Option.map];rw[if_neg];intro e2;omega
   ·rw[List.getElem?_eq_none (by rw[List.length_range];omega)];rfl
end
section
open Go.Shelf
attribute [local go_sem] Oper.semAt_some
section
theorem Tl.of_step0[zg]{x t c K:Nat}{S:List UInt8}{M:Gd.Vol}{F4 F6:Nat→Prop}{w a b:World}(hb:Below w.heap.size w a)(hF:∀k,F4 k→w.heap.size≤k)(h:jB (zy x t S M c K) F4 a F6 b):Tl x t S M c K Nof w b []:=by
 refine⟨F6,⟨h.inv,fun k hk h6=> ?_,(zx hb Nof).trans h.only fun j hj hj2=> ?_⟩,fun p hp=>by cases hp⟩
 ·have:=hF k (h.old k (Nat.lt_of_lt_of_le hk hb.size) h6)
  omega
 ·have:=hF j hj2
  omega
theorem Xp:zeroCells43=#[.pointer none,.pointer none,.pointer none,.pointer none]++((List.range 64).map fun _=>Value.int .i64 0).toArray:=by kernel_rfl
theorem YK[zg](t x r:Nat):(((zeroCells43.setIfInBounds 0 (.pointer (some ⟨zg.no,0,none⟩))).setIfInBounds 1 (.pointer (some ⟨t,0,none⟩))).setIfInBounds 2 (.pointer (some ⟨x,0,none⟩))).setIfInBounds 3 (.pointer (some ⟨r,0,none⟩))=js t x r fun _ _=>0:=by
 apply Array.ext_getElem?
 intro j;rw[Xp];unfold js;by_cases hj:j<4
 ·rw[Array.getElem?_append_left (show j<4 from hj),Array.getElem?_setIfInBounds];by_cases h3:3=j
  ·subst h3;rw[if_pos rfl,if_pos (by simp)];rfl
  rw[if_neg h3,Array.getElem?_setIfInBounds];by_cases h2:2=j
  ·subst h2;rw[if_pos rfl,if_pos (by simp)];rfl
  rw[if_neg h2,Array.getElem?_setIfInBounds];by_cases h1:1=j
  ·subst h1;rw[if_pos rfl,if_pos (by simp)];rfl
  rw[if_neg h1,Array.getElem?_setIfInBounds];have h0:0=j:=by omega
  subst h0;rw[if_pos rfl,if_pos (by simp)];rfl
 ·rw[Array.getElem?_setIfInBounds_ne (by omega),Array.getElem?_setIfInBounds_ne (by omega),Array.getElem?_setIfInBounds_ne (by omega),Array.getElem?_setIfInBounds_ne (by omega),Array.getElem?_append_right (by show 4≤j;omega),Array.getElem?_append_right (by show 4≤j;omega)];rfl
end
theorem vB(w:World):Calls prog 9 #[] w fun e w'=>∃(mn:zg) (p x t r:Nat) (S V:List UInt8),e= .returned (.pointer (some ⟨p,0,none⟩))∧PSt x t r S (Gd.freshV V) qu 0 2000000 w w' [(p,zL t x r fun _ _=>0)]:=by
 have HP:Hid (Calls prog 30 #[.int .i64 23168] w (Qu w 2896 23168)):=hid (YG 2896 (by omega) (by omega) (by omega) w);go_enter func9,ntmps9;go_wp2_with fail
 refine HP.o.mono ?_;rintro e w1 ⟨m,sb,lb,ab,rfl,hM1,hb1,hlow1,hge1⟩;obtain⟨mn,hmn⟩:∃mn:zg,m=mn.no:=⟨⟨m⟩,rfl⟩;have Hmn:=hid hmn;clear hmn;obtain⟨S,hS⟩:∃S:List UInt8,S=List.replicate 23168 0:=⟨_,rfl⟩;have hSl:S.length=23168:=by rw[hS,List.length_replicate]
 have hSe:Gd.part S 2688 8=Gd.le 0 8:=by rw[hS];exact QT
 rw[←hS]at hM1;have HM1:=hid hM1;have HS:=hid (And.intro hSl hSe);have HB1:=hid hb1;have HGe:=hid hge1;clear HP hM1 hb1 hlow1 hge1 hS hSl hSe;go_wp2_with fail
 refine(Y6 w1 HM1.o HS.o.1).mono ?_
 rintro e w2 ⟨rfl,hw2⟩;have hb2:Below w1.heap.size w1 w2:=by rw[hw2];exact(Below.refl _ _).alloc (Nat.le_refl _) _
 have HL2:Hid (jm w2 w1.heap.size m 2688 4096):=hid (by rw[hw2];exact heap_alloc_new _ _);have HM2:=hid (HM1.o.below hb2);have HB2:=HB1.t hb2;obtain⟨g,hg⟩:=nm w1.heap.size;have Hg:Hid (w.heap.size≤g):=hid (by rw[hg];exact HB1.o.size);rw[←hg]at HL2⊢;clear hw2 hb2 hg;go_wp2_with fail
 refine(Yr m g w2).mono ?_
 rintro e w3 ⟨rfl,hw3⟩;have hb3:Below w2.heap.size w2 w3:=by rw[hw3];exact(Below.refl _ _).alloc (Nat.le_refl _) _
 have hT3:w3.heap[w2.heap.size]? =some (.cells #[.pointer (some ⟨m,0,none⟩),.pointer (some ⟨g,0,none⟩),.slice none 0 0] 115 (0,0)):=by rw[hw3];exact heap_alloc_new _ _
 obtain⟨t,ht⟩:=nm w2.heap.size;have Ht:Hid (w.heap.size≤t):=hid (by rw[ht];exact HB2.o.size);rw[←ht]at hT3⊢;have HT3:=hid (QX (w:=w) (HM2.o.below hb3) HGe.o Hg.o ((hb3.block g (za HL2.o)).trans HL2.o) Ht.o hT3 Hmn.o);have HB3:=HB2.t hb3;clear hw3 hb3 hT3 ht HM1 HM2 HL2;go_wp2_with fail
 refine(Yo w3 HT3.o HS.o.1).mono ?_
 rintro e w4 ⟨x,rfl,hx,hx4,hb4⟩;have HT4:Hid (j5 t S [] 0 w4 fun k=>w.heap.size≤k∧k<x):=hid ((j5.held t S [] 0).below ((j5.held t S [] 0).mono HT3.o fun k hk e=>⟨e,Nat.lt_of_lt_of_le hk hx⟩) hb4);have HM4:=hid (J2 HT4.o (Nat.le_trans HB3.o.size hx) hx4 HS.o.1 HS.o.2);have HB4:=HB3.t hb4;clear hx hx4 hb4 HT3 HT4;have HFm:Hid (Calls prog 34 #[.pointer (some ⟨x,0,none⟩)] w4 fun e b=>e= .returned (.int .i64 0)∧Tl x t S (Gd.freshV S) 50 0 Nof w b []):=hid ((Qc w4 HM4.o (by omega)).mono (by
  rintro e b ⟨rfl,F6,hs⟩;exact⟨rfl,Tl.of_step0 HB4.o (fun k hk=>hk.1) (hs.mono fun hi=>⟨_,hi,Gd.fresh_good HS.o.1⟩)⟩))
 clear HM4;go_wp2_with fail
 refine HFm.o.mono ?_;rintro e w6 ⟨rfl,hT6⟩;have HCm:=hid (hT6.commit (by omega) (by omega));clear hT6 HFm;go_wp2_with fail
 refine HCm.o.mono ?_;rintro e w7 ⟨rfl,S7,hT7⟩;have HT7:=hid hT7;clear hT7 HCm;go_wp2_with fail
 refine(YA w7).mono ?_
 rintro e w8 ⟨rfl,hR8,hb8⟩;have HP8:Hid (PSt x t w7.heap.size S7 (Gd.freshV S) qu 0 2000000 w w8 []):=hid (by
  obtain⟨F',h1,-⟩:=HT7.o;have hw:=HT7.o.size;exact⟨F',fun k=>w7.heap.size≤k∧k<w8.heap.size,⟨h1.inv.below hb8,h1.old,h1.only.trans (zx hb8 Nof) fun _ _ e=>e⟩,(zl.held _ _).mono hR8 fun k hk e=>⟨e,hk⟩,fun k hk=>⟨Nat.le_trans hw hk.1,hk.2,fun hf=>absurd (h1.inv.tight k hf) (Nat.not_lt.2 hk.1)⟩,fun p hp=>by cases hp⟩)
 clear hR8 hb8;go_wp2;go_ret
 exact⟨mn,_,x,t,w7.heap.size,S7,S,rfl,HP8.o.new ((Below.refl _ _).alloc (Nat.le_refl _) _) (Nat.le_refl _) ((heap_alloc_new _ _).trans (congrArg (fun C=>some (Obj.cells C 43 (0,0))) (by rw[Hmn.o];exact YK t x _)))⟩
end
section
open Go.Shelf
section
def Par[zg](p x t:Nat)(S Z:List UInt8)(w a:World):Prop:=∃C:Array Value,C[2]? =some (.pointer (some ⟨x,0,none⟩))∧Tl x t S (Gd.freshV Z) 0 2000000 Nof w a [(p,.cells C 43 (0,0))]
end
theorem Ju(w:World):Calls prog 9 #[] w fun e w'=>∃(mn:zg) (p x t:Nat) (S Z:List UInt8),e= .returned (.pointer (some ⟨p,0,none⟩))∧Par p x t S Z w w':=by
 refine(vB w).mono ?_
 rintro e w' ⟨mn,p,x,t,r,S,V,rfl,h⟩;exact⟨mn,p,x,t,S,V,rfl,js t x r fun _ _=>0,qL.2.2.1,h.tl⟩
end
section
open Go.Shelf
attribute [local go_sem] Oper.semAt_some
def VR:Obj:= .cells #[.int .i64 2,.int .i64 1,.int .i64 1] 54 (0,0)
def VQ(y:Gd.Ino):Obj:= .cells (zf y) 48 (0,0)
theorem yV(w:World)(hM:Mx w):Calls prog 11 #[] w fun e w'=>e= .returned (.bool true)∧Below w.heap.size w w':=by
 obtain⟨mx,hmx⟩:=hM;have HMx:=hid (And.intro hmx (uH hmx));have HBg:=hid (Ju w);obtain⟨y,hy⟩:=nm ((jf.setO 0 1).setL 0);have HS:=hid (zm (x:=y) (by rw[hy];exact⟨rfl,rfl⟩));have HSh:Hid (y.Shape):=hid (by rw[hy];exact⟨rfl,rfl⟩);have HK:Hid (y.k=1):=hid (by rw[hy];rfl);have Hy:=hid hy;obtain⟨z,hz⟩:=nm Gd.noIno;have HSz:=hid (zm (x:=z) (by rw[hz];exact⟨rfl,rfl⟩));have HShz:Hid (z.Shape):=hid (by rw[hz];exact⟨rfl,rfl⟩);have HKz:Hid (z.k=0):=hid (by rw[hz];rfl);have Hz:=hid hz;clear hmx hy hz;go_enter func11,ntmps11;go_wp2_with fail
 refine HBg.o.mono ?_;rintro e w1 ⟨mn,p,x,t,S,Z,rfl,C,hC,hT1⟩;have HT1:=hid hT1;have HCx:Hid (∀{W:World},W.heap[p]? =some (.cells C 43 (0,0))→W.cell? ⟨p,2,none⟩=some (.pointer (some ⟨x,0,none⟩))):=hid fun h=>(cell_of_row _ p 2 _ _ _ h).trans hC;have HMw:Hid (∀{a:World} {c K:Nat} {N:Gd.Vol} {Ls:List (Nat×Obj)},Tl x t S N c K Nof w a Ls→a.cell? ⟨0,0,none⟩=some (.int .i64 mx)∧0<a.heap.size):=hid fun h=>⟨(h.belowW.cell (p:=⟨0,0,none⟩) HMx.o.2).trans HMx.o.1,Nat.lt_of_lt_of_le HMx.o.2 h.size⟩;have HMk:=hid (Y2 mx hT1 (HMw.o hT1).1 (HMw.o hT1).2);have c2:=HCx.o (hT1.get (k:=p) (o:= .cells C 43 (0,0)) (by simp));clear hT1 hC HBg;go_wp2_with fail
 refine HMk.o.mono ?_;rintro e w2 ⟨rfl,N1,hL1,hT2⟩;have HL1:=hid hL1;have HT2:=hid hT2;have HOp:=hid (VV mx hT2 hL1 (HMw.o hT2).1 (HMw.o hT2).2);have c3:=HCx.o (hT2.get (k:=p) (o:= .cells C 43 (0,0)) (by simp));clear hT2 hL1 HMk c2 HT1;go_wp2_with fail
 refine HOp.o.mono ?_;rintro e w3 ⟨rfl,N2,hL2,hT3⟩;have HL2:=hid hL2;have HT3:=hid hT3;have HSt:=hid (VU mx hT3 hL2 (HMw.o hT3).1 (HMw.o hT3).2);have c2:=HCx.o (hT3.get (k:=p) (o:= .cells C 43 (0,0)) (by simp));clear hT3 hL2 HOp c3 HT2 HL1;go_wp2_with fail
 refine HSt.o.mono ?_;rintro e w4 ⟨rfl,hb4⟩;have HT4:=hid (HT3.o.below hb4);clear hb4 HSt c2 HT3;obtain⟨w5,hw5⟩:=nm (w4.alloc VR);obtain⟨sb,hsb⟩:=nm w4.heap.size;have hT5:Tl x t S N2 10 2000000 Nof w w5 [(sb,VR),(p,.cells C 43 (0,0))]:=by
  rw[hw5,hsb];exact HT4.o.new ((Below.refl _ _).alloc (Nat.le_refl _) _) (Nat.le_refl _) (heap_alloc_new _ _)
 have HT5:=hid hT5;have HUn:=hid (XQ mx hT5 HL2.o (HMw.o hT5).1 (HMw.o hT5).2);have c3:=HCx.o (hT5.get (k:=p) (o:= .cells C 43 (0,0)) (by simp));have HW5:=hid hw5.symm;have Hsb:=hid hsb.symm;unfold VR at HW5;clear hT5 hw5 hsb;go_upto_region 7 with fail
 rw[HW5.o,Hsb.o];go_wp2_with fail
 refine HUn.o.mono ?_;rintro e w6 ⟨rfl,N3,hN3,hT6⟩;have HT6:=hid hT6;have HN3:=hid hN3;have HI6:=hid (hT6.fino 3 (by omega) (by omega));rw[show((3:Int)).toNat=3 from rfl,hN3,←Hy.o]at HI6;unfold zv at HI6;have c2:=HCx.o (hT6.get (k:=p) (o:= .cells C 43 (0,0)) (by simp));clear hT6 hN3 HUn c3 HT4 HT5 HL2;go_upto_region 9 with(first|(go_at_call 17;refine HI6.o.mono ?_;rintro e w7 ⟨rfl,hb7⟩;have HT7:=hid (HT6.o.below hb7);clear hb7)|(rw[←zA];refine wpList_store_mid rfl 48 _ _ rfl w7.heap.size 0 (zf y) rfl rfl (zd (heap_alloc_new _ _) (by rw[zc,HS.o])) (by rw[HS.o];exact sizeIno) (zr _) ?_;obtain⟨hbw,hbg⟩:=zi w7 zU 48 (zf y).toList (by rw[zc,Array.length_toList,HS.o]);generalize (World.setCells _ _ _ _)=w8 at hbw hbg⊢;have HT8:=hid (HT7.o.new hbw (Nat.le_refl _) (o:=VQ y) hbg);clear hbw hbg))
 obtain⟨ib,hib⟩:=nm w7.heap.size;rw[←hib]at HT8⊢;have HCl:=hid (Y3 HT8.o HN3.o);have c3:=HCx.o (HT8.o.get (k:=p) (o:= .cells C 43 (0,0)) (by simp));clear hib c2 HI6 HT7 HT6;go_wp2_with fail
 refine HCl.o.mono ?_;rintro e w9 ⟨rfl,N4,hN4,hT9⟩;have HT9:=hid hT9;have HI9:=hid (hT9.fino 3 (by omega) (by omega));rw[show((3:Int)).toNat=3 from rfl,hN4,←Hz.o]at HI9;unfold zv at HI9;have c2:=HCx.o (hT9.get (k:=p) (o:= .cells C 43 (0,0)) (by simp));clear hT9 hN4 HCl c3 HT8 HN3;go_upto_region 11 with(first|(go_at_call 17;refine HI9.o.mono ?_;rintro e w10 ⟨rfl,hb10⟩;have HT10:=hid (HT9.o.below hb10);clear hb10)|(rw[←zA];refine wpList_store_mid rfl 48 _ _ rfl w10.heap.size 0 (zf z) rfl rfl (zd (heap_alloc_new _ _) (by rw[zc,HSz.o])) (by rw[HSz.o];exact sizeIno) (zr _) ?_;obtain⟨hbw,hbg⟩:=zi w10 zU 48 (zf z).toList (by rw[zc,Array.length_toList,HSz.o]);generalize (World.setCells _ _ _ _)=w11 at hbw hbg⊢;have HT11:=hid (HT10.o.new hbw (Nat.le_refl _) (o:=VQ z) hbg);clear hbw hbg))
 obtain⟨iz,hiz⟩:=nm w10.heap.size;rw[←hiz]at HT11⊢;have hsr:=HT11.o.get (k:=sb) (o:=VR) (by simp);have s0:w11.cell? ⟨sb,0,none⟩=some (.int .i64 2):=cell_of_row w11 sb 0 _ _ _ hsr;have s1:w11.cell? ⟨sb,1,none⟩=some (.int .i64 1):=cell_of_row w11 sb 1 _ _ _ hsr;have s2:w11.cell? ⟨sb,2,none⟩=some (.int .i64 1):=cell_of_row w11 sb 2 _ _ _ hsr;have hiy:zp w11 ib y:=⟨HT11.o.get (k:=ib) (by simp[VQ]),HSh.o⟩;have i0:=hiy.c0;rw[HK.o]at i0;have hiz0:zp w11 iz z:=⟨HT11.o.get (k:=iz) (by simp[VQ]),HShz.o⟩;have z0:=hiz0.c0;rw[HKz.o]at z0;have HB11:=hid HT11.o.belowW;clear hiz hsr hiy hiz0 c2 HI9 HT10 HT9 HT11;go_wp2_with fail
 go_ret
 exact⟨rfl,HB11.o⟩
end
namespace Gd
theorem and_pow(c b:Nat):(c&&& 2^b !=0)=c.testBit b:=by
 cases h:c.testBit b with
 |true=>
  rw[bne_iff_ne];intro e;have:(c&&& 2^b).testBit b=true:=by rw[Nat.testBit_and,h,Nat.testBit_two_pow_self,Bool.and_self]
  rw[e,Nat.zero_testBit]at this
  cases this
 |false=>
  have:c&&& 2^b=0:=by
   apply Nat.eq_of_testBit_eq
   intro i;rw[Nat.testBit_and,Nat.testBit_two_pow,Nat.zero_testBit];by_cases e:b=i
   ·rw[←e,h];rfl
   ·rw[decide_eq_false e,Bool.and_false]
  rw[this];rfl
theorem bit_ext{c d:Nat}(hc:c<256)(hd:d<256)(h:∀b,b<8→(c&&& 2^b !=0)=(d&&& 2^b !=0)):c=d:=by
 apply Nat.eq_of_testBit_eq
 intro i;by_cases hi:i<8
 ·have:=h i hi
  rw[and_pow,and_pow]at this;exact this
 ·have e:(256:Nat)≤2^i:=by
   have:2^8≤2^i:=Nat.pow_le_pow_right (by omega) (by omega)
   omega
  rw[Nat.testBit_lt_two_pow (by omega),Nat.testBit_lt_two_pow (by omega)]
theorem map_ext{m o:List UInt8}(hm:m.length=16)(ho:o.length=16)(h:∀n,1≤n→n≤128→usedB m n=usedB o n):m=o:=by
 apply List.ext_getElem (by omega)
 intro i h1 h2;apply UInt8.toNat_inj.1
 apply bit_ext (UInt8.toNat_lt _) (UInt8.toNat_lt _)
 intro b hb;have:=h (8*i+b+1) (by omega) (by omega)
 unfold usedB byteAt bitOf at this;rw[show(8*i+b+1-1)/8=i by omega,show(8*i+b+1-1) % 8=b by omega,List.getD_eq_getElem?_getD,List.getD_eq_getElem?_getD,List.getElem?_eq_getElem h1,List.getElem?_eq_getElem h2]at this;exact this
theorem takeI_len(m:List UInt8)(n:Int):(takeI m n).length=m.length:=by
 unfold takeI;split
 ·exact take_length _ _
 ·rfl
def takesL(L:List Int):List UInt8:=L.foldl takeI (List.replicate 16 0)
theorem takesL_snoc(L:List Int)(n:Int):takesL (L++[n])=takeI (takesL L) n:=by
 unfold takesL;rw[List.foldl_append];rfl
theorem foldl_takeI_len:∀(L:List Int) (m:List UInt8),(L.foldl takeI m).length=m.length
 |[],_=>rfl
 |n::r,m=>by
  rw[List.foldl_cons,foldl_takeI_len r,takeI_len]
theorem takesL_len(L:List Int):(takesL L).length=16:=by
 unfold takesL;rw[foldl_takeI_len];exact List.length_replicate
theorem foldl_used:∀(L:List Int) (m:List UInt8),m.length=16→∀n,1≤n→n≤128→(usedB (L.foldl takeI m) n=true↔(n:Int)∈L∨usedB m n=true)
 |[],m,_,n,_,_=>by simp
 |a::r,m,hm,n,n1,n2=>by
  rw[List.foldl_cons,foldl_used r _ (by rw[takeI_len];exact hm) n n1 n2,List.mem_cons];unfold takeI isBlk;by_cases ha:1≤a∧a≤128
  ·rw[if_pos (by simpa using ha),used_take hm (by omega) (by omega) n1 n2,Bool.or_eq_true,decide_eq_true_iff];constructor
   ·rintro(h|h|h)
    ·exact Or.inl (Or.inr h)
    ·exact Or.inl (Or.inl (by omega))
    ·exact Or.inr h
   ·rintro((h|h)|h)
    ·exact Or.inr (Or.inl (by omega))
    ·exact Or.inl h
    ·exact Or.inr (Or.inr h)
  ·rw[if_neg (by simpa using ha)];constructor
   ·rintro(h|h)
    ·exact Or.inl (Or.inr h)
    ·exact Or.inr h
   ·rintro((h|h)|h)
    ·omega
    ·exact Or.inl h
    ·exact Or.inr h
theorem takesL_used(L:List Int){n:Nat}(n1:1≤n)(n2:n≤128):usedB (takesL L) n=true↔(n:Int)∈L:=by
 unfold takesL;rw[foldl_used L _ List.length_replicate n n1 n2,used_zero];simp
def blksD(M:Vol):Nat→List Int
 |0=>[]
 |i+1=>blksD M i++(M.ino (i+1)).B
theorem mem_blks(M:Vol)(n:Int):∀i,n∈blksD M i↔∃j k:Nat,1≤j∧j≤i∧(M.ino j).B[k]? =some n
 |0=>⟨fun h=>(by cases h),fun⟨j,k,h1,h2,_⟩=>(by omega)⟩
 |i+1=>by
  unfold blksD;rw[List.mem_append,mem_blks M n i];constructor
  ·rintro(⟨j,k,h1,h2,h3⟩|h)
   ·exact⟨j,k,h1,by omega,h3⟩
   ·obtain⟨k,hk⟩:=List.mem_iff_getElem?.1 h;exact⟨i+1,k,by omega,by omega,hk⟩
  ·rintro⟨j,k,h1,h2,h3⟩;by_cases e:j=i+1
   ·subst e;exact Or.inr (List.mem_of_getElem? h3)
   ·exact Or.inl ⟨j,k,h1,by omega,h3⟩
theorem Sound.fresh{M:Vol}(h:Sound M){i k:Nat}{n:Int}(hi:i+1≤32)(hn:(M.ino (i+1)).B[k]? =some n)(h0:n≠0):usedI (takesL (blksD M i++(M.ino (i+1)).B.take k)) n=false:=by
 unfold usedI isBlk;by_cases hb:1≤n∧n≤128
 ·have e:n=(n.toNat:Int):=by omega
  rw[Bool.and_eq_false_iff];right
  rw[Bool.eq_false_iff];intro hu;rw[takesL_used _ (by omega) (by omega),←e,List.mem_append,mem_blks]at hu;rcases hu with⟨j,q,j1,j2,hq⟩|hu
  ·have:=(h.one _ _ _ _ n j1 (by omega) (by omega) hi hq hn h0).1
   omega
  ·obtain⟨q,hq⟩:=List.mem_iff_getElem?.1 hu;rw[List.getElem?_take]at hq;split at hq
   ·rename_i hlt
    have:=(h.one _ _ _ _ n (by omega) hi (by omega) hi hq hn h0).2
    omega
   ·cases hq
 ·rw[Bool.and_eq_false_iff];left
  simpa using hb
theorem Sound.all{M:Vol}(h:Sound M):takesL (blksD M 32)=M.map:=by
 refine map_ext (takesL_len _) h.mapl fun n n1 n2=> ?_;rw[Bool.eq_iff_iff,takesL_used _ n1 n2,mem_blks,h.used n n1 n2]
def namedT(T:Tab)(k:Nat):Nat:=((T.take k).filter fun e=>decide (e.s≠[])).length
def linkT(T:Tab)(k t:Nat):Nat:=((T.take k).filter fun e=>decide (e.s≠[])&&decide (e.i=t)).length
theorem namedT_step{T:Tab}(hT:T.length=16){k:Nat}(hk:k<16):namedT T (k+1)=namedT T k+if(entAt T k).s≠[]then 1 else 0:=by
 unfold namedT;rw[List.take_add_one,entAt_get hT hk,List.filter_append,List.length_append];by_cases h:(entAt T k).s≠[]
 ·rw[if_pos h];simp[h]
 ·rw[if_neg h];simp only[ne_eq,Decidable.not_not]at h;simp[h]
theorem linkT_step{T:Tab}(hT:T.length=16){k:Nat}(hk:k<16)(t:Nat):linkT T (k+1) t=linkT T k t+if(entAt T k).s≠[]∧(entAt T k).i=t then 1 else 0:=by
 unfold linkT;rw[List.take_add_one,entAt_get hT hk,List.filter_append,List.length_append];by_cases h:(entAt T k).s≠[]∧(entAt T k).i=t
 ·rw[if_pos h];simp[h]
 ·rw[if_neg h];have:(decide ((entAt T k).s≠[])&&decide ((entAt T k).i=t))=false:=by simpa using h
  simp only[Option.toList_some,List.filter_cons,this];simp
theorem namedT_le(T:Tab)(k:Nat):namedT T k≤k:=by
 unfold namedT;have:=List.length_filter_le (fun e:Ent=>decide (e.s≠[])) (T.take k)
 rw[List.length_take]at this;omega
theorem linkT_le(T:Tab)(k t:Nat):linkT T k t≤k:=by
 unfold linkT;have:=List.length_filter_le (fun e:Ent=>decide (e.s≠[])&&decide (e.i=t)) (T.take k)
 rw[List.length_take]at this;omega
def linkD(M:Vol)(T:Nat→Tab)(t:Nat):Nat→Nat
 |0=>0
 |i+1=>linkD M T t i+if(M.ino (i+1)).k=2 then linkT (T (i+1)) 16 t else 0
theorem linkD_le(M:Vol)(T:Nat→Tab)(t:Nat):∀i,linkD M T t i≤16*i
 |0=>Nat.le_refl 0
 |i+1=>by
  unfold linkD;have:=linkD_le M T t i
  have:=linkT_le (T (i+1)) 16 t
  split<;>omega
structure Snd(M:Vol)(T:Nat→Tab):Prop where
 tree:Tree M T
 sound:Sound M
 size:∀d,1≤d→d≤32→(M.ino d).k=2→(M.ino d).s=(namedT (T d) 16:Nat)
 none:∀i,1≤i→i≤32→(M.ino i).k=0→linkD M T i 32=0
 dirs:∀i,1≤i→i≤32→(M.ino i).k=2→linkD M T i 32=if i=1 then 0 else 1
 files:∀i,1≤i→i≤32→(M.ino i).k=1→(M.ino i).l=(linkD M T i 32:Nat)∧((M.ino i).l=0→(M.ino i).O.sum≠0)
theorem linkT_none(k t:Nat):linkT noTab k t=0:=by
 unfold linkT noTab;rw[List.take_replicate,List.length_eq_zero_iff,List.filter_eq_nil_iff];intro e he;rw[List.eq_of_mem_replicate he];simp[noEnt]
theorem linkD_none(M:Vol)(t:Nat):∀i,linkD M (fun _=>noTab) t i=0
 |0=>rfl
 |i+1=>by
  unfold linkD;rw[linkD_none M t i,linkT_none];simp
end Gd
theorem qH{P:Program}{o:Oper}{ev:Operand→Value}{w:World}(ty:TypeId)(x:Operand)(ho:o.op= .load ty x)
 (g:Nat)(hx:ev x= .pointer (some ⟨g,0,none⟩))(t:TypeId)(cs:Array Value)(fr:Nat×Nat)(d:TypeDesc)(hg:w.heap[g]? =some (.cells cs t fr))
 (hu:P.underlying ty=some d)(hd:(match d with| .struct _| .array _ _=>true|_=>false)=true)(hi:(P.info? ty).map (·.size)=some cs.size):(execOp ev o).run P w= .ok (.value (.agg cs)) w:=by
 unfold execOp;simp only[ho,hx,Instr.loadAt,Instr.sureAddr,Sem.run_bind,Sem.run_pure,Result.andThen_ok,run_loadVar_row w g t ty cs fr d hg hu hd hi]
theorem Uh{P:Program}{o:Oper}{a:Act}{w:World}{K:Act→World→Prop}{Q:Exit→Act→World→Prop}(b:BinOp)(t ty:TypeId)(x y:Operand)(ho:o.op= .binOp b t x y ty)(u v r:Value)(hx:a.eval x=u)(hy:a.eval y=v)
 (hq:(eqGuard b t x y u v).run P w= .ok () w)(hr:(binOp b t u v).run P w= .ok r w)(h:K (a.put o.dst r) w):o.wp P a w K Q:=by
 unfold Oper.wp execOp;simp only[ho,hx,hy,Sem.run_bind,Sem.run_pure,hq,hr,Result.andThen_ok];exact h
theorem noGuardM:prog.eqGuardType prog.depth 35=false:=by kernel_rfl
theorem XO(o:BinOp)(x y:Operand)(cs ds:Array Value)(w:World):(eqGuard o 35 x y (.agg cs) (.agg ds)).run prog w= .ok () w:=by
 have hp:∀w:World,(Sem.program Sem.pure:Sem Program).run prog w= .ok prog w:=fun _=>rfl;simp only[eqGuard]
 cases o<;>simp[program,hp,noGuardM]
theorem YZ(m:List UInt8)(hm:m.length=16)(w:World):(binOp .eql 35 (jK m) (jK m)).run prog w= .ok (.bool true) w:=by
 have:=V6 (t:=35) m m rfl (by rw[hm];exact underlying35) w
 rw[decide_eq_true rfl]at this;exact this
end Go.Proofs.YtjlpkbhgphjpeaaGreatDoor
