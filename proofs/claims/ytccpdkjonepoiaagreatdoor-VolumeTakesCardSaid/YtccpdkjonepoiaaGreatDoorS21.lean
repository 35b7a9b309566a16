/- Walks: a volume's memory, log and objects. -/
import Derived.Test.YtccpdkjonepoiaaGreatDoorS20
set_option linter.unusedVariables false
set_option linter.unusedSimpArgs false
set_option linter.unusedSectionVars false
set_option maxHeartbeats 8000000
set_option maxRecDepth 100000
namespace Go.Proofs.YtccpdkjonepoiaaGreatDoor
open Go.RowKit
open Lib(hid)
open Go.Proofs.Tryz
section
open Go.Shelf
attribute [local go_sem] Oper.semAt_some
theorem Y5{m sb lb ab n K:Nat}{S:List UInt8}(w:World)(h:zH w m sb lb ab n S K):Calls prog 42 #[.pointer (some ⟨m,0,none⟩)] w fun e w'=>e= .returned (.bool (decide (S.length=23168)))∧Below w.heap.size w w':=by
 have hn:((S.length:Nat):Int)=23168↔S.length=23168:=by omega
 obtain⟨N,hN⟩:=nm S.length;have HSz:=vM w h.tozZ;rw[←hN]at HSz hn⊢;have HSz:=hid HSz;have Hn:=hid hn;clear h hN hn;go_enter func42,ntmps42;go_wp2_with fail
 refine HSz.o.mono ?_;rintro e w1 ⟨rfl,rfl⟩;go_wp2_with fail
 refine(yT _).mono ?_
 rintro e w2 ⟨rfl,hb2⟩;have HB2:=hid hb2;go_wp2;go_ret
 refine⟨?_,HB2.o⟩;congr 2
 by_cases e:N=23168
 ·subst e;rfl
 ·have e2:¬((N:Int)=23168):=fun h=>e (Hn.o.1 h);simp[e,e2]
theorem jM.nil(c:Nat):jM [] c:=⟨Nat.zero_le _,fun _ hp=>by cases hp⟩
theorem XR[zc]{g t x f o K:Nat}{S:List UInt8}{w a b:World}{Ls:List (Nat×Obj)}(h:Mst S K w a ((g,vX)::Ls))(hne:∀p∈Ls,p.1≠g)(hS:S.length=23168)(he:Gd.part S 2688 8=Gd.le 0 8)(hb:Below a.heap.size a b)
 (ht1:a.heap.size≤t)(hx1:a.heap.size≤x)(hf1:a.heap.size≤f)(ho1:a.heap.size≤o)(htx:t≠x)(hft:f≠t)(hfx:f≠x)(hot:o≠t)(hox:o≠x)
 (ht:b.heap[t]? =some (.cells #[.pointer (some ⟨zc.no,0,none⟩),.pointer (some ⟨g,0,none⟩),.slice none 0 0] 133 (0,0)))(hx:b.heap[x]? =some (.cells #[.pointer (some ⟨t,0,none⟩)] 163 (0,0)))(hf:b.heap[f]? =some (j5 t x))(ho:b.heap[o]? =some (qP t x f)):
 Vp o x t f S [] 0 K w b Ls:=by
 have hs:=h.size;have hgl:=za (h.get (List.mem_cons_self ..));obtain⟨sb,lb,ab,n,h1,⟨m1,m2,m3,m4⟩,h3,h4⟩:=h;have hm:=za h1.objE.choose_spec;have hl:=fun k hk=>Qt h1 (k:=k) hk;obtain⟨g1,g2,g3,g4⟩:=h4 _ (List.mem_cons_self ..);dsimp only at g1 g2 g3 g4;have hM:zH b zc.no sb lb ab n S K:=h1.keep fun k hk=>hb.block k (h1.lts k hk);have hg:zW b g zc.no 2688 4096:=(hb.block g hgl).trans g4;have q1:=hl sb (Or.inl rfl);have q2:=hl lb (Or.inr (Or.inl rfl));have q3:=hl ab (Or.inr (Or.inr rfl));obtain⟨F',hF'⟩:∃F':Nat→Prop,F'=fun k=>k=zc.no∨zL sb lb ab k∨k=g∨k=t∨k=x:=⟨_,rfl⟩;have low:∀k,F' k→w.heap.size≤k∧k<b.heap.size:=by
  have hbs:=hb.size;have t2:=za ht;have x2:=za hx;rintro k hk;rw[hF']at hk;rcases hk with rfl|(rfl|rfl|rfl)|rfl|rfl|rfl<;>constructor<;>omega
 have inF:∀k,(k=zc.no∨zL sb lb ab k∨k=g∨k=t∨k=x)→F' k:=fun k hk=>by rw[hF'];exact hk
 have hT:jC t S [] K b (Fx x F'):=
  ⟨zc.no,g,.slice none 0 0,⟨sb,lb,ab,n,hM,⟨inF _ (Or.inl rfl),by omega⟩,⟨inF _ (Or.inr (Or.inl (Or.inl rfl))),by omega⟩,⟨inF _ (Or.inr (Or.inl (Or.inr (Or.inl rfl)))),by omega⟩,⟨inF _ (Or.inr (Or.inl (Or.inr (Or.inr rfl)))),by omega⟩⟩,⟨ht,World.ownsRow_nil _ _ _ _⟩,hg,⟨inF _ (Or.inr (Or.inr (Or.inr (Or.inl rfl)))),htx⟩,⟨inF _ (Or.inr (Or.inr (Or.inl rfl))),by omega⟩,(fun q hq=>by cases hq),⟨(fun p hp=>by cases hp),(fun p hp=>by cases hp),Nat.zero_le _⟩,rfl⟩
 refine⟨F',⟨⟨hT,hx,inF _ (Or.inr (Or.inr (Or.inr (Or.inr rfl)))),hS,he,jM.nil 0,fun k hk=>(low k hk).2⟩,fun k hk hF=>absurd (low k hF).1 (Nat.not_le.2 hk),zg (h3.trans (hb.mono hs)) _⟩,fun p hp=> ?_⟩;have new:∀k,a.heap.size≤k→k≠t→k≠x→¬F' k:=fun k hk k1 k2 hF=>by
  rw[hF']at hF;rcases hF with rfl|(rfl|rfl|rfl)|rfl|rfl|rfl<;>omega
 rcases List.mem_cons.1 hp with rfl|hp
 ·exact⟨Nat.le_trans hs ho1,new _ ho1 hot hox,ho⟩
 rcases List.mem_cons.1 hp with rfl|hp
 ·exact⟨Nat.le_trans hs hf1,new _ hf1 hft hfx,hf⟩
 obtain⟨p1,p2,p3,p4⟩:=h4 p (List.mem_cons_of_mem _ hp);refine⟨p1,fun hF=> ?_,(hb.block _ (za p4)).trans p4⟩;have:=za p4
 rw[hF']at hF;rcases hF with e|e|e|e|e
 ·exact p2 e
 ·exact p3 e
 ·exact hne p hp e
 ·omega
 ·omega
theorem ZE[zc]{S:List UInt8}{K:Nat}{w a:World}{Ls:List (Nat×Obj)}(h:Mst S K w a Ls)(hS:S.length=23168):
 Calls prog 43 #[.pointer (some ⟨zc.no,0,none⟩)] a fun e b=>∃g,e= .returned (.pointer (some ⟨g,0,none⟩))∧Mst S K w b ((g,vX)::Ls)∧∀p∈Ls,p.1≠g:=by
 have HF:=hid (ju 5 0 a);rw[show Gd.ptAt 5 0=some ⟨5,0,2688,4096⟩ from rfl]at HF;have H:=hid h;have HS:=hid hS;clear h hS;go_enter func43,ntmps43;go_wp2_with fail
 refine HF.o.mono ?_;rintro e w1 ⟨rfl,hb1⟩;have H1:=hid (H.o.below hb1);clear HF hb1;unfold ptO ptV;go_wp2_with fail
 have H2:=hid (H1.o.alloc #[.int .i64 5,.int .i64 0,.int .i64 2688,.int .i64 4096] 139);obtain⟨sb,lb,ab,n,hM,-⟩:=H2.o.open;refine(Yv _ hM HS.o).mono ?_
 rintro e w3 ⟨rfl,hw3⟩;have H3:=hid (H2.o.alloc #[.pointer (some ⟨zc.no,0,none⟩),.int .i64 2688,.int .i64 4096] 145);rw[←hw3]at H3;clear hM hw3;have He:Hid ((w1.alloc (.cells #[.int .i64 5,.int .i64 0,.int .i64 2688,.int .i64 4096] 139)).heap.size=w1.heap.size+1):=hid (by simp);go_wp2;go_ret
 refine⟨_,rfl,H3.o.less fun p hp=> ?_,fun p hp e=> ?_⟩
 ·rcases List.mem_cons.1 hp with rfl|hp
  ·rw[←He.o];exact List.mem_cons_self ..
  ·exact List.mem_cons_of_mem _ (List.mem_cons_of_mem _ hp)
 ·have:=za (H2.o.get (k:=p.1) (o:=p.2) (List.mem_cons_of_mem _ hp))
  have:=He.o
  omega
theorem uI[zc]{g K:Nat}{S:List UInt8}{w a:World}{Ls:List (Nat×Obj)}(h:Mst S K w a ((g,vX)::Ls))(hne:∀p∈Ls,p.1≠g)(hS:S.length=23168)(he:Gd.part S 2688 8=Gd.le 0 8):
 Calls prog 45 #[.pointer (some ⟨zc.no,0,none⟩),.pointer (some ⟨g,0,none⟩)] a fun e b=>∃o x t f,e= .returned (.pointer (some ⟨o,0,none⟩))∧Vp o x t f S [] 0 K w b Ls:=by
 have H:=hid h;have HN:=hid hne;have HS:=hid (And.intro hS he);obtain⟨m,hm⟩:=nm zc.no;have Hm:=hid hm;rw[←hm];clear h hne hS he hm;go_enter func45,ntmps45;go_wp2_with fail
 refine(XX m g a).mono ?_
 rintro e w1 ⟨rfl,hw1⟩;have hb1:Below a.heap.size a w1:=by rw[hw1];exact(Below.refl _ _).alloc (Nat.le_refl _) _
 have hT1:w1.heap[a.heap.size]? =some (.cells #[.pointer (some ⟨m,0,none⟩),.pointer (some ⟨g,0,none⟩),.slice none 0 0] 133 (0,0)):=by rw[hw1];exact heap_alloc_new _ _
 obtain⟨t,ht⟩:=nm a.heap.size;rw[←ht]at hT1⊢;have HF1:Hid (jC t S [] K w1 fun _=>True):=hid (by
  obtain⟨sb,lb,ab,n,hM,-⟩:=(H.o.below hb1);exact⟨zc.no,g,.slice none 0 0,⟨sb,lb,ab,n,hM,trivial,trivial,trivial,trivial⟩,⟨by rw[←Hm.o];exact hT1,World.ownsRow_nil _ _ _ _⟩,(H.o.below hb1).get (List.mem_cons_self ..),trivial,trivial,(fun q hq=>trivial),⟨(fun p hp=>by cases hp),(fun p hp=>by cases hp),Nat.zero_le _⟩,rfl⟩)
 have HT1:=hid hT1;have HB1:=hid hb1;have Ht:=hid ht;clear hw1 hb1 hT1 ht;go_wp2_with fail
 refine(XP w1 HF1.o HS.o.1).mono ?_
 rintro e w2 ⟨x,rfl,hx,hx2,hb2⟩;have HX:=hid (And.intro hx hx2);have HB2:=hid hb2;clear hx hx2 hb2 HF1;go_wp2_with fail
 refine(Xt t x w2).mono ?_
 rintro e w3 ⟨rfl,hw3⟩;have hb3:Below w2.heap.size w2 w3:=by rw[hw3];exact(Below.refl _ _).alloc (Nat.le_refl _) _
 have hF3:w3.heap[w2.heap.size]? =some (j5 t x):=by rw[hw3];exact heap_alloc_new _ _
 obtain⟨f,hf⟩:=nm w2.heap.size;rw[←hf]at hF3⊢;have HF3:=hid (And.intro hF3 hf);have HB3:=hid hb3;clear hw3 hb3 hF3 hf;go_wp2;go_ret
 have hb4:=(Below.refl w3.heap.size w3).alloc (Nat.le_refl _) (.cells #[.pointer (some ⟨t,0,none⟩),.pointer (some ⟨x,0,none⟩),.pointer (some ⟨f,0,none⟩)] 79);have s1:=HB1.o.size;have s2:=HB2.o.size;have s3:=HB3.o.size;have l1:=za HT1.o;have l2:=za HX.o.2;have l3:=za HF3.o.1;have l4:=Ht.o;have l5:=HX.o.1;have l6:=HF3.o.2;have b13:Below w1.heap.size w1 w3:=HB2.o.trans (HB3.o.mono s2);have b14:=b13.trans (hb4.mono (Nat.le_trans s2 s3));refine⟨_,x,t,f,rfl,XR H.o HN.o HS.o.1 HS.o.2 (HB1.o.trans (b14.mono s1)) (t:=t) (x:=x) (f:=f) (by omega) (by omega) (by omega) (by omega) (by omega) (by omega) (by omega) (by omega) (by omega) ?_ ?_ ?_ (heap_alloc_new _ _)⟩
 ·rw[b14.block t l1,HT1.o,Hm.o]
 ·rw[hb4.block x (by omega),HB3.o.block x l2];exact HX.o.2
 ·rw[hb4.block f l3];exact HF3.o.1
end
section
open Go.Shelf
attribute [local go_sem] Oper.semAt_some
theorem Mst.vis[zc]{S:List UInt8}{K:Nat}{w a:World}{Ls:List (Nat×Obj)}(h:Mst S K w a Ls):Calls prog 42 #[.pointer (some ⟨zc.no,0,none⟩)] a fun e b=>e= .returned (.bool (decide (S.length=23168)))∧Mst S K w b Ls:=by
 obtain⟨sb,lb,ab,n,hM,-⟩:=h.open;exact(Y5 a hM).mono fun e b ⟨he,hb⟩=>⟨he,h.below hb⟩
theorem Mst.redo[zc]{g:Nat}{S:List UInt8}{K:Nat}{w a:World}{Ls:List (Nat×Obj)}(h:Mst S K w a ((g,vX)::Ls))(hS:S.length=23168)(hK:K<100000000000):
 Calls prog 44 #[.pointer (some ⟨g,0,none⟩)] a fun e b=>(∃c:Nat,e= .returned (.int .i64 c))∧∃S2:List UInt8,S2.length=23168∧Gd.part S2 2688 8=Gd.le 0 8∧(Gd.part S 2688 8=Gd.le 0 8→S2=S)∧Mst S2 (K+654100000) w b ((g,vX)::Ls):=by
 obtain⟨sb,lb,ab,n,hM,hlow,hLs,hC⟩:=h.open;refine(Ya a hM (h.get (List.mem_cons_self ..)) hS hK).mono ?_
 rintro e b ⟨⟨c,he,-⟩,⟨S2,hl,hsame,hM2⟩,hO⟩;have hf:2688+(List.replicate 8 (0:UInt8)).length≤S2.length:=by rw[List.length_replicate];omega
 refine⟨⟨c,he⟩,_,(Gd.splice_length hf).trans hl,?_,fun h0=> ?_,hC _ _ _ (by rw[show K+654100000=K+654080000+20000 by omega];exact hM2) hO⟩
 ·have:=Gd.part_splice_same hf
  rw[List.length_replicate]at this;rw[this];rfl
 ·rw[hsame h0];exact Gd.splice_nil8 h0
theorem Mst.clear[zc]{g:Nat}{S:List UInt8}{K:Nat}{w a:World}{Ls:List (Nat×Obj)}(h:Mst S K w a ((g,vX)::Ls))(hS:S.length=23168)(hK:K<100000000000):
 Calls prog 47 #[.pointer (some ⟨g,0,none⟩)] a fun e b=>e= .returned (.tuple #[])∧∃S2:List UInt8,S2.length=23168∧(Gd.part S2 2688 8=Gd.le 0 8∧Gd.part S2 6784 8192=Gd.part S 6784 8192)∧Mst S2 (K+20000) w b ((g,vX)::Ls):=by
 obtain⟨sb,lb,ab,n,hM,hlow,hLs,hC⟩:=h.open;refine(ut a hM (h.get (List.mem_cons_self ..)) hS (by omega)).mono ?_
 rintro e b ⟨he,hM2,hO⟩;have hf:2688+(List.replicate 8 (0:UInt8)).length≤S.length:=by rw[List.length_replicate];omega
 refine⟨he,_,(Gd.splice_length hf).trans hS,⟨?_,Gd.part_splice_apart (by omega) hf (by rw[List.length_replicate];omega)⟩,hC _ _ _ hM2 hO⟩;have:=Gd.part_splice_same hf
 rw[List.length_replicate]at this;rw[this];rfl
theorem Vp.sound[zc]{o x t f K:Nat}{S:List UInt8}{w a:World}{Ls:List (Nat×Obj)}(h:Vp o x t f S [] 0 K w a Ls):
 Calls prog 46 #[.pointer (some ⟨o,0,none⟩)] a fun e b=>Vp o x t f S [] 0 K w b Ls∧((Gd.SoundV S∧e= .returned (.bool true))∨(¬Gd.SoundV S∧e= .returned (.bool false))):=by
 obtain⟨F',hm,-⟩:=h.metaF;refine(QX a hm h.vol).mono ?_
 rintro e b ⟨hb,hor⟩;exact⟨h.below hb,hor⟩
def VL[zc](S:List UInt8)(K:Nat)(w:World)(Ls:List (Nat×Obj))(e:Ending)(b:World):Prop:=
 ∃S2:List UInt8,S2.length=23168∧Gd.part S2 2688 8=Gd.le 0 8∧(Gd.part S 2688 8=Gd.le 0 8→S2=S)∧
  ((Gd.SoundV S2∧∃o x t f,e= .returned (.tuple #[.pointer (some ⟨o,0,none⟩),.int .i64 0])∧Vp o x t f S2 [] 0 (K+654100000) w b Ls)∨(¬Gd.SoundV S2∧e= .returned (.tuple #[.pointer none,.int .i64 36])∧Mst S2 (K+654100000) w b Ls))
theorem yc[zc]{K:Nat}{S:List UInt8}{w a:World}{Ls:List (Nat×Obj)}(h:Mst S K w a Ls)(hS:S.length=23168)(hK:K<100000000000):
 Calls prog 10 #[.pointer (some ⟨zc.no,0,none⟩)] a (VL S K w Ls):=by
 have HIs:=h.vis;rw[hS,show decide (23168=23168)=true from rfl]at HIs;have HIs:=hid HIs;have HS:=hid (And.intro hS hK);clear h hS hK;go_enter func10,ntmps10;go_wp2_with fail
 refine HIs.o.mono ?_;rintro e w1 ⟨rfl,h1⟩;have HLg:=hid (ZE h1 HS.o.1);clear h1 HIs;go_wp2_with fail
 refine HLg.o.mono ?_;rintro e w2 ⟨g,rfl,h2,hne⟩;have HN:=hid hne;have HRd:=hid (h2.redo HS.o.1 HS.o.2);clear h2 hne HLg;go_wp2_with fail
 refine HRd.o.mono ?_;rintro e w3 ⟨⟨c,rfl⟩,S2,hl2,he2,hs2,h3⟩;have HS2:=hid (And.intro hl2 (And.intro he2 hs2));have HOp:=hid (uI h3 HN.o hl2 he2);clear h3 hl2 he2 hs2 HRd;go_wp2_with fail
 refine HOp.o.mono ?_;rintro e w4 ⟨o,x,t,f,rfl,h4⟩;have HSo:=hid h4.sound;clear h4 HOp;go_wp2_with fail
 refine HSo.o.mono ?_;rintro e w5 ⟨h5,⟨hs,rfl⟩|⟨hs,rfl⟩⟩
 ·have H5:=hid (And.intro hs h5);clear hs h5 HSo;go_wp2;go_ret2
  exact⟨S2,HS2.o.1,HS2.o.2.1,HS2.o.2.2,Or.inl ⟨H5.o.1,o,x,t,f,rfl,H5.o.2⟩⟩
 ·have H5:=hid (And.intro hs h5.mst);clear hs h5 HSo;go_wp2;go_ret2
  exact⟨S2,HS2.o.1,HS2.o.2.1,HS2.o.2.2,Or.inr ⟨H5.o.1,rfl,H5.o.2⟩⟩
def Sized(w:World)(v:Value):Prop:=v= .pointer none∨∃m sb lb ab n S K,v= .pointer (some ⟨m,0,none⟩)∧zH w m sb lb ab n S K∧S.length≠23168
def Uu[zc](K:Nat)(w:World)(Ls:List (Nat×Obj))(b:World):Prop:=
 ∃S Z:List UInt8,Z.length=23168∧Gd.Good S (Gd.freshV Z)∧Gd.part S 2688 8=Gd.le 0 8∧Mst S K w b Ls
def VN[zc](S0:List UInt8)(K:Nat)(w:World)(Ls:List (Nat×Obj))(b:World):Prop:=
 ∃S Z:List UInt8,Z.length=23168∧Gd.Good S (Gd.freshV Z)∧(Gd.part S 2688 8=Gd.le 0 8∧Gd.part Z 6784 8192=Gd.part S0 6784 8192)∧Mst S K w b Ls
theorem Vp.format[zc]{o x t f K:Nat}{S:List UInt8}{w a:World}{Ls:List (Nat×Obj)}(h:Vp o x t f S [] 0 K w a Ls):
 Calls prog 48 #[.pointer (some ⟨x,0,none⟩)] a fun e b=>e= .returned (.int .i64 0)∧Vp o x t f S Gd.fmtP 50 K w b Ls:=by
 obtain⟨F',hm,-,-,hC⟩:=h.metaF;refine(J0 a hm (by omega)).mono ?_
 rintro e b ⟨he,F2,hs⟩;exact⟨he,hC _ _ _ _ _ _ hs⟩
theorem Vp.txn[zc]{o x t f c K:Nat}{S:List UInt8}{P:List Gd.Pa}{w a:World}{Ls:List (Nat×Obj)}(h:Vp o x t f S P c K w a Ls)(hc:c≤57)(hK:K<600000000000):
 Calls prog 49 #[.pointer (some ⟨t,0,none⟩)] a fun e b=>e= .returned (.int .i64 0)∧∃S':List UInt8,S'.length=23168∧Gd.part S' 2688 8=Gd.le 0 8∧(∀i,i<2688∨6784≤i→S'[i]? =(Gd.view S P)[i]?)∧Vp o x t f S' [] 0 (K+2000000) w b Ls:=by
 obtain⟨F',h,-,-,hC⟩:=h.metaF;refine(ur a h.txn ⟨Nat.le_trans h.light.many hc,h.light.len⟩ h.len h.log hK).mono ?_
 rintro e b ⟨rfl,⟨S',hl,he,hs,hT⟩,hO⟩;exact⟨rfl,S',hl,he,hs,hC _ _ _ _ _ F' ⟨⟨hT,(hO.block x (za h.obj) fun e=>e.2 rfl).trans h.obj,h.inF,hl,he,jM.nil 0,fun k hk=>Nat.lt_of_lt_of_le (h.tight k hk) hO.size⟩,fun _ _ e=>e,hO.mono fun _ _ e=>e.1⟩⟩
theorem Vp.txnE[zc]{o x t f c K:Nat}{S:List UInt8}{P:List Gd.Pa}{w a:World}{Ls:List (Nat×Obj)}(h:Vp o x t f S P c K w a Ls)(hP:P≠[])(hc:c≤57)(hK:K<600000000000):
 Calls prog 49 #[.pointer (some ⟨t,0,none⟩)] a fun e b=>e= .returned (.int .i64 0)∧((Gd.doneS S P).length=23168∧Gd.part (Gd.doneS S P) 2688 8=Gd.le 0 8∧(∀i,i<2688∨6784≤i→(Gd.doneS S P)[i]? =(Gd.view S P)[i]?))∧Vp o x t f (Gd.doneS S P) [] 0 (K+2000000) w b Ls:=by
 obtain⟨F',h,-,-,hC⟩:=h.metaF;refine(UY a h.txn hP ⟨Nat.le_trans h.light.many hc,h.light.len⟩ h.len h.log hK).mono ?_
 rintro e b ⟨rfl,⟨hl,he,hs,hT⟩,hO⟩;exact⟨rfl,⟨hl,he,hs⟩,hC _ _ _ _ _ F' ⟨⟨hT,(hO.block x (za h.obj) fun e=>e.2 rfl).trans h.obj,h.inF,hl,he,jM.nil 0,fun k hk=>Nat.lt_of_lt_of_le (h.tight k hk) hO.size⟩,fun _ _ e=>e,hO.mono fun _ _ e=>e.1⟩⟩
theorem vj[zc]{K:Nat}{S:List UInt8}{w a:World}{Ls:List (Nat×Obj)}(h:Mst S K w a Ls)(hS:S.length=23168)(hK:K<100000000000):
 Calls prog 11 #[.pointer (some ⟨zc.no,0,none⟩)] a fun e b=>e= .returned (.int .i64 0)∧VN S (K+3000000) w Ls b:=by
 have HIs:=h.vis;rw[hS,show decide (23168=23168)=true from rfl]at HIs;have HIs:=hid HIs;have HS:=hid (And.intro hS hK);clear h hS hK;go_enter func11,ntmps11;go_wp2_with fail
 refine HIs.o.mono ?_;rintro e w1 ⟨rfl,h1⟩;have HLg:=hid (ZE h1 HS.o.1);clear h1 HIs;go_wp2_with fail
 refine HLg.o.mono ?_;rintro e w2 ⟨g,rfl,h2,hne⟩;have HN:=hid hne;have HRd:=hid (h2.clear HS.o.1 HS.o.2);clear h2 hne HLg;go_wp2_with fail
 refine HRd.o.mono ?_;rintro e w3 ⟨rfl,S2,hl2,⟨he2,hz2⟩,h3⟩;have HS2:=hid (And.intro hl2 (And.intro he2 hz2));have HOp:=hid (uI h3 HN.o hl2 he2);clear h3 hl2 he2 hz2 HRd;go_wp2_with fail
 refine HOp.o.mono ?_;rintro e w4 ⟨o,x,t,f,rfl,h4⟩;have HFm:=hid h4.format;obtain⟨c0,c1,c2⟩:=zl h4.vol;clear h4 HOp;go_wp2_with fail
 refine HFm.o.mono ?_;rintro e w5 ⟨rfl,h5⟩;have HCm:=hid (h5.txn (by omega) (by have:=HS.o.2;omega));obtain⟨d0,d1,d2⟩:=zl h5.vol;clear h5 HFm c0 c1 c2;go_wp2_with fail
 refine HCm.o.mono ?_;rintro e w6 ⟨rfl,S',hl,he,hs,h6⟩;have H6:=hid (And.intro hl (And.intro he (And.intro hs h6.mst)));clear hl he hs h6 HCm d0 d1 d2;go_wp2;go_ret
 refine⟨rfl,S',S2,HS2.o.1,(Gd.fresh_good HS2.o.1).same (by rw[(Gd.fresh_good HS2.o.1).len];exact H6.o.1) H6.o.2.2.1,⟨H6.o.2.1,HS2.o.2.2⟩,H6.o.2.2.2.more (by omega)⟩
theorem ZF[zc]{K:Nat}{S:List UInt8}{w a:World}{Ls:List (Nat×Obj)}(h:Mst S K w a Ls)(hS:S.length=23168)(hK:K<100000000000):
 Calls prog 11 #[.pointer (some ⟨zc.no,0,none⟩)] a fun e b=>e= .returned (.int .i64 0)∧Uu (K+3000000) w Ls b:=
 (vj h hS hK).mono fun _ _ ⟨he,S',Z,h1,h2,h3,h4⟩=>⟨he,S',Z,h1,h2,h3.1,h4⟩
end
section
open Go.Shelf
attribute [local go_sem] Oper.semAt_some
theorem Xu{P:List Gd.Pa}:∀u∈z9 P,u.oneCell'=true:=by
 intro u hu;unfold z9 at hu;obtain⟨p,hp,hu⟩:=List.mem_flatMap.1 hu;unfold paC at hu;simp only[List.mem_cons,List.not_mem_nil,or_false]at hu;rcases hu with rfl|rfl<;>rfl
theorem uY(P:List Gd.Pa):(z9 P).length=P.length*2:=by
 unfold z9;induction P with
 |nil=>rfl
 |cons p P ih=>rw[List.flatMap_cons,List.length_append,ih,List.length_cons];unfold paC;simp;omega
theorem V8(w:World)(a:Option Addr)(l c:Nat):(binOp .eql 65 (.slice a l c) (.slice none 0 0)).run prog w= .ok (.bool a.isNone) w:=
 Lib.run_eql_slice_nil w _ _ a l c 0 0 underlying65
theorem YP(v:Value)(P:List Gd.Pa)(B:Nat)(w:World)(h:w.ownsRow B 122 2 v P.length (z9 P))(hP:P.length≤64):
 Calls prog 116 #[v] w fun e w'=>(∃A c,e= .returned (.slice A P.length c))∧Below w.heap.size w w':=by
 have hnil:=V8;rcases h.2 with⟨rfl,h0⟩|⟨g,cap,cur,rfl,-,hg,hn,hcap,hcs,hcur⟩
 ·clear h;go_enter func116,ntmps116;go_wp2;go_ret
  exact⟨⟨none,0,by rw[h0];rfl⟩,Below.refl _ _⟩
 ·obtain⟨i0,hi,hz0,hz1,hz2⟩:=info_parts infoPa;have Hc:Hid (∀W,Below w.heap.size w W→∀j u,(z9 P)[j]? =some u→W.cell? ((⟨g,0,none⟩:Addr).add j)=some u):=hid fun W hW j u hj=>by
   have hl:=(List.getElem?_eq_some_iff.1 hj).1;rw[uY]at hl;have hr:W.cell? ⟨g,j,none⟩=some u:=(hW.cell (p:=⟨g,j,none⟩) (za hg)).trans ((h.cellAt j hl).trans hj);by_cases h0:j=0
   ·subst h0;simpa [Addr.add]using hr
   ·simpa [Addr.add,h0]using hr
  have Hg:Hid (g<w.heap.size):=hid (za hg);obtain⟨n,hne⟩:=nm P.length;have Hn:=hid (And.intro hne hP);rw[←hne];clear h hg hn hcap hcs hcur hP hne;go_enter func116,ntmps116;go_wp2_with(at_builtin;go_loud (refine wpList_append_own_at _ rfl _ _ 65 rfl w.heap.size 122 i0 _ 2 24 underlying65 hi hz0 hz1 hz2 rfl (by decide) (.slice (some ⟨w.heap.size,0,none⟩) 0 0) 0 [] rfl ⟨rfl,Or.inr ⟨w.heap.size,0,#[],rfl,Nat.le_refl _,heap_alloc_new _ _,Nat.le_refl _,Nat.zero_le _,rfl,rfl⟩⟩ ⟨g,0,none⟩ n cap (z9 P) rfl (by rw[uY,Hn.o.1]) ?_ Xu (by have:=Hn.o;unfold maxLen;omega) (by have:=Hn.o;omega) (by simp) ?_))
  ·exact Hc.o _ ((Below.refl w.heap.size w).alloc (Nat.le_refl _) _)
  intro v' w1 hown hgrow _ hat;have hb1:Below w.heap.size w w1:=((Below.refl w.heap.size w).alloc (Nat.le_refl _) (.cells #[] 122)).trans ((zK (F:=fun k=>k=w.heap.size) hgrow fun k e=>by cases e;rfl).below (by simp) fun k hk e=>by omega);obtain⟨A',c',rfl⟩:∃A' c',v'= .slice A' n c':=by
   rcases hown.2 with⟨rfl,h0⟩|⟨b,cap,cur,rfl,_⟩
   ·exact⟨none,0,by rw[show n=0 by omega]⟩
   ·exact⟨some ⟨b,0,none⟩,cap,rfl⟩
  have HB:=hid hb1;clear hown hgrow hat hb1;go_wp2;go_ret
  exact⟨⟨_,_,rfl⟩,HB.o⟩
theorem vn[zc]{t K:Nat}{S:List UInt8}{P:List Gd.Pa}{F:Nat→Prop}(w:World)(h:jC t S P K w F):
 Calls prog 64 #[.pointer (some ⟨t,0,none⟩)] w fun e w'=>(∃A c,e= .returned (.slice A P.length c))∧Below w.heap.size w w':=by
 obtain⟨m,g,pv,-,hT,-,-,-,-,hP,-⟩:=h;have HCl:=hid (YP pv P 0 w hT.row hP.many);obtain⟨_,_,c2⟩:=zl hT.obj;clear hT hP;go_enter func64,ntmps64;go_wp2_with fail
 refine HCl.o.mono ?_;rintro e w1 ⟨⟨A,c,rfl⟩,hb⟩;have HB:=hid hb;go_wp2;go_ret
 exact⟨⟨_,_,rfl⟩,HB.o⟩
theorem QG[zc]{x t c K:Nat}{S:List UInt8}{P:List Gd.Pa}{F:Nat→Prop}(k m:Int)(p:Gd.Pt)(v:Value)(L:List UInt8)(w:World)(h:zY x t S P c K w F)(hp:Gd.ptAt k m=some p)(hv:zr w v L)(hL:L.length≤64)(hLp:L.length≤p.s)(hc:c<64)(hap:∀q,v.ownBlock=some q→¬F q):
 Calls prog 63 #[.agg #[.pointer (some ⟨t,0,none⟩)],.int .i64 k,.int .i64 m,v] w fun e w'=>e= .returned (.int .i64 0)∧∃F',je (zY x t S (P++[(p.a,L)]) (c+1) K) F w F' w':=by
 obtain⟨w0,hw0⟩:=nm (w.alloc (.cells #[.pointer (some ⟨t,0,none⟩)] 76));have hb0:Below w.heap.size w w0:=by rw[hw0];exact(Below.refl _ _).alloc (Nat.le_refl _) _
 obtain⟨x0,hx0⟩:=nm w.heap.size;have hxc:zd w0 x0 76 #[.pointer (some ⟨t,0,none⟩)]:=by rw[hw0,hx0];exact heap_alloc_new _ _
 have HF:=hid (ju k m w0);rw[hp]at HF;have hpi:=xf hp;have H:=hid h;have HV:=hid hv;obtain⟨A,cap,hve,-⟩:=hv;have HAp:=hid hap;have HC:=hid hc;have HL:=hid (And.intro hL hLp);subst hve;obtain⟨ln,hln⟩:=nm L.length;rw[←hln]at HV HAp⊢;have Hxc:=hid hxc;have HB0:=hid hb0;have Hw0:=hid hw0.symm;have Hx0:=hid hx0.symm;clear h hp hap hc hL hLp hln hb0 hxc hw0 hx0;go_enter func63,ntmps63;go_upto_region 1 with fail
 rw[Hw0.o,Hx0.o];go_wp2_with fail
 refine HF.o.mono ?_;rintro e w1 ⟨rfl,hb1⟩;unfold ptO ptV;have hn:=heap_alloc_new w1 (.cells (ptC p) 139);have hba:=(Below.refl w1.heap.size w1).alloc (Nat.le_refl _) (.cells (ptC p) 139);obtain⟨w2,hw2⟩:=nm (w1.alloc (.cells (ptC p) 139));rw[←hw2]at hn hba;have hb2:Below w0.heap.size w0 w2:=hb1.trans (hba.mono hb1.size);obtain⟨pb,hpb⟩:=nm w1.heap.size;rw[←hpb]at hn;have hdw:Below w.heap.size w w2:=HB0.o.trans (hb2.mono HB0.o.size);have H2:=H.o.below hdw;have hx:zd w2 x0 76 #[.pointer (some ⟨t,0,none⟩)]:=(hb2.block x0 Hxc.o.lt).trans Hxc.o;have x1:w2.cell? ⟨x0,0,none⟩=some (.pointer (some ⟨t,0,none⟩)):=cell_of_row _ x0 0 _ _ _ hx;have x2:w2.cell? ⟨pb,2,none⟩=some (.int .i64 p.a):=cell_of_row _ pb 2 _ _ _ hn
 have HSt:=hid (ye p.a (.slice A ln cap) L w2 H2.txn (HV.o.keep hdw) (by have:=H2.len;omega) (by have:=H2.len;have:=HL.o;omega) (by have:=HL.o;omega) (by have:=H2.light.many;have:=HC.o;omega) (fun q hq e=>HAp.o q hq e.1));have HD:=hid hdw;have Hpb:=hid hpb.symm;have Hw2:=hid hw2.symm;unfold ptC at Hw2;clear hb1 HF hn hba hw2 hb2 hpb hdw H2 hx hpi;go_upto_region 4 with fail
 rw[Hw2.o,Hpb.o];go_wp2_with fail
 refine HSt.o.mono ?_;rintro e w3 ⟨rfl,hT3,hO3⟩;have HT3:=hid hT3;have HO3:=hid hO3;clear hT3 hO3 x1 x2 HSt;go_wp2;go_ret
 have h1:=HD.o.size;have h2:=HO3.o.size;have hxl:x<w3.heap.size:=Nat.lt_of_lt_of_le (za H.o.obj) (Nat.le_trans h1 h2);have hox:w3.heap[x]? =w.heap[x]? :=(HO3.o.block x (Nat.lt_of_lt_of_le (za H.o.obj) h1) fun e=>e.2 rfl).trans (HD.o.block x (za H.o.obj));refine⟨rfl,fun k=>(F k∨w.heap.size≤k)∧k<w3.heap.size,⟨?_,hox.trans H.o.obj,⟨Or.inl H.o.inF,hxl⟩,H.o.len,H.o.log,⟨?_,?_⟩,fun k hk=>hk.2⟩,?_,?_⟩
 ·refine(jC.held t S _ K).mono HT3.o fun k hk e=> ?_
  rcases e with e|e
  ·exact⟨⟨Or.inl e.1,hk⟩,e.2⟩
  ·exact⟨⟨Or.inr (Nat.le_trans h1 e),hk⟩,fun he=>by
    have:=za H.o.obj
    omega⟩
 ·rw[List.length_append];have:=H.o.light.many
  simp
  omega
 ·intro q hq;rcases List.mem_append.1 hq with e|e
  ·exact H.o.light.len q e
  ·rw[List.mem_singleton.1 e];have:=HL.o.1
   exact this
 ·intro k hk e;rcases e.1 with e|e
  ·exact e
  ·omega
 ·exact(zg HD.o F).trans (HO3.o.mono fun _ _ e=>e.1) fun _ _ e=>e
theorem Vp.put[zc]{o x t f c K:Nat}{S:List UInt8}{P:List Gd.Pa}{w a b:World}{Ls:List (Nat×Obj)}(k m:Int)(p:Gd.Pt)(v:Value)(L:List UInt8)(h:Vp o x t f S P c K w a Ls)(hb:Below a.heap.size a b)(ho:zA b a.heap.size v L)(hp:Gd.ptAt k m=some p)(hL:L.length≤64)(hLp:L.length≤p.s)(hc:c<64):
 Calls prog 63 #[.agg #[.pointer (some ⟨t,0,none⟩)],.int .i64 k,.int .i64 m,v] b fun e d=>e= .returned (.int .i64 0)∧Vp o x t f S (P++[(p.a,L)]) (c+1) K w d Ls:=by
 obtain⟨F',hm,-,-,hC⟩:=h.metaF;refine(QG k m p v L b (hm.below hb) hp ho.at_ hL hLp hc fun q hq hF=> ?_).mono ?_
 ·have h1:=(zE ho q hq).1;have h2:=hm.tight q hF;omega
 ·rintro e d ⟨he,F2,hs⟩;exact⟨he,hC _ _ _ _ _ F2 (je.behind hb hs)⟩
theorem Vp.commits[zc]{o x t f c K n:Nat}{S:List UInt8}{P:List Gd.Pa}{w a:World}{Ls:List (Nat×Obj)}(h:Vp o x t f S P c K w a Ls)(hn:n≤1152921504606846976)(hh:Gd.part (Gd.view S P) 0 64=Gd.headB n):
 Calls prog 30 #[.pointer (some ⟨o,0,none⟩)] a fun e b=>e= .returned (.int .i64 n)∧Below a.heap.size a b:=by
 obtain⟨F',hm,-⟩:=h.metaF;refine(Zh a hm h.vol).mono ?_
 rw[hh];rintro e b ⟨hb,⟨-,he⟩|⟨hno,-⟩⟩
 ·rw[Gd.headB_get hn]at he;exact⟨he,hb⟩
 ·exact absurd (Gd.isHead_headB hn) hno
theorem Vp.slot[zc]{o x t f c K:Nat}{S:List UInt8}{P:List Gd.Pa}{w a:World}{Ls:List (Nat×Obj)}(h:Vp o x t f S P c K w a Ls)(k:Nat)(k1:1≤k)(k2:k≤8){s:Gd.Slot}(hs:s.May)(hh:Gd.part (Gd.view S P) (64*k) 64=Gd.slotB s):
 Calls prog 17 #[.pointer (some ⟨o,0,none⟩),.int .i64 k] a fun e b=>e= .returned (.tuple #[zO s,.int .i64 0])∧Below a.heap.size a b:=by
 obtain⟨F',hm,-⟩:=h.metaF;refine(yQ k (64*k) a hm h.vol (Gd.ptAt_slotV k1 k2)).mono ?_
 rw[hh];rintro e b ⟨hb,⟨-,he⟩|⟨hno,-⟩⟩
 ·rw[Gd.rawS_slot hs]at he;exact⟨he,hb⟩
 ·exact absurd (Gd.isSlot_slotB hs) hno
theorem yu{a:World}{o t x f:Nat}(h:jU a o t x f):a.rangeAt o 0 [.pointer (some ⟨t,0,none⟩)]:=fun j v hj=>by
 have hvr:a.heap[o]? =some (.cells #[.pointer (some ⟨t,0,none⟩),.pointer (some ⟨x,0,none⟩),.pointer (some ⟨f,0,none⟩)] 79 (0,0)):=h;match j,hj with
 |0,hj=>cases hj;exact(zl hvr).1
 |j+1,hj=>simp at hj
theorem Vp.setslot[zc]{o x t f c K:Nat}{S:List UInt8}{P:List Gd.Pa}{w a:World}{Ls:List (Nat×Obj)}(h:Vp o x t f S P c K w a Ls)(k:Nat)(k1:1≤k)(k2:k≤8)(s:Gd.Slot)(hs:s.May)(hc:c<64):
 Calls prog 22 #[.pointer (some ⟨o,0,none⟩),.int .i64 k,zO s] a fun e b=>e= .returned (.int .i64 0)∧Vp o x t f S (P++[(64*k,Gd.slotB s)]) (c+1) K w b Ls:=by
 obtain⟨hbb,hbc⟩:=zM a (zm s) 48;obtain⟨b,hbe⟩:=nm a.heap.size;obtain⟨wb,hwb⟩:=nm (a.alloc (.cells (zm s) 48));rw[←hwb,←hbe]at hbc;rw[←hwb]at hbb;have HPu:=hid (qN s hs wb);have H:=hid (h.below hbb);have Hbe:=hid hbe.symm;have HWb:=hid hwb.symm;have Hbc:=hid hbc;have HK:=hid (And.intro k1 (And.intro k2 hc));obtain⟨sB,hsB⟩:=nm (Gd.slotB s);have HsB:Hid (sB.length=64):=hid (by rw[hsB];exact Gd.slotB_length s);rw[←hsB]at HPu⊢;clear h hbb hbe hwb hbc k1 k2 hc hs hsB;go_enter func22,ntmps22;unfold zO at*;go_upto_region 1 with fail
 rw[HWb.o,Hbe.o];go_wp2_with(refine wpList_load_row rfl 48 _ rfl b rfl 48 (zm s) (0,0) _ Hbc.o underlying48 rfl sizeSlot ?_)
 refine HPu.o.mono ?_;rintro e w1 ⟨v1,rfl,ho1,hb1⟩;have HSt:=hid (H.o.put 2 k _ v1 sB hb1 ho1 (Gd.ptAt_slotV HK.o.1 HK.o.2.1) (by rw[HsB.o];omega) (by rw[HsB.o];exact Nat.le_refl _) HK.o.2.2);have hrow:=yu (H.o.below hb1).vol;clear ho1 hb1 HPu;go_wp2_with(refine wpList_load_mid rfl 76 _ rfl o 0 rfl [.pointer (some ⟨t,0,none⟩)] _ hrow underlying76 rfl sizeStore ?_)
 refine HSt.o.mono ?_;rintro e w2 ⟨rfl,h2⟩;have H2:=hid h2;clear h2 HSt hrow;go_wp2;go_ret
 exact⟨rfl,H2.o⟩
theorem Vp.drop0[zc]{o x t f c K:Nat}{S:List UInt8}{P:List Gd.Pa}{w a:World}{Ls:List (Nat×Obj)}(u:FrameMode)(h:Vp o x t f S P c K w a Ls):
 CallsD prog 31 #[.pointer (some ⟨t,0,none⟩)] u a fun e u' b=>u'=u∧e= .returned (.tuple #[])∧Vp o x t f S [] 0 K w b Ls:=by
 obtain⟨F',h,-,-,hC⟩:=h.metaF;refine(JH u a h.txn).mono ?_
 rintro e u' b ⟨hu,he,hT,hO⟩;exact⟨hu,he,hC _ _ _ _ _ F' ⟨⟨hT,(hO.block x (za h.obj) fun e=>e.2 rfl).trans h.obj,h.inF,h.len,h.log,jM.nil 0,fun k hk=>Nat.lt_of_lt_of_le (h.tight k hk) hO.size⟩,fun _ _ e=>e,hO.mono fun _ _ e=>e.1⟩⟩
theorem Vp.txnF[zc]{o x t f c K:Nat}{S:List UInt8}{P:List Gd.Pa}{w a:World}{Ls:List (Nat×Obj)}(h:Vp o x t f S P c K w a Ls):∃F,jC t S P K a F:=by
 obtain⟨F',h,-⟩:=h.metaF;exact⟨_,h.txn⟩
theorem Vp.commit0[zc]{o x t f c K:Nat}{S:List UInt8}{w a:World}{Ls:List (Nat×Obj)}(h:Vp o x t f S [] c K w a Ls):
 Calls prog 23 #[.pointer (some ⟨o,0,none⟩)] a fun e b=>e= .returned (.int .i64 0)∧Vp o x t f S [] 0 K w b Ls:=by
 obtain⟨F,hT⟩:=h.txnF;have HPt:=hid (vn a hT);obtain⟨c0,c1,c2⟩:=zl h.vol;have H:=hid h;clear h hT;go_enter_defers func23,ntmps23
 go_wp2_with fail
 refine HPt.o.mono ?_;rintro e w1 ⟨⟨A,cp,rfl⟩,hb1⟩;have H1:=hid (H.o.below hb1);clear HPt hb1 c0 c1 c2;go_wp2;refine leaves_cons (f:=31) (args:=#[.pointer (some ⟨t,0,none⟩)]) (by simp) (by simp[go_sem]) ?_;refine(H1.o.drop0 .returning).mono ?_
 rintro e u' w3 ⟨rfl,rfl,h3⟩;exact⟨_,results_tmp rfl _ _ _,rfl,h3⟩
theorem Vp.commitE[zc]{o x t f c K n:Nat}{S:List UInt8}{P:List Gd.Pa}{w a:World}{Ls:List (Nat×Obj)}(h:Vp o x t f S P c K w a Ls)(hP:P≠[])(hc:c≤56)(hK:K<600000000000)(hn:n+1≤1152921504606846976)(hh:Gd.part (Gd.view S P) 0 64=Gd.headB n):
 Calls prog 23 #[.pointer (some ⟨o,0,none⟩)] a fun e b=>e= .returned (.int .i64 0)∧((Gd.doneS S (P++[(0,Gd.headB (n+1))])).length=23168∧Gd.part (Gd.doneS S (P++[(0,Gd.headB (n+1))])) 2688 8=Gd.le 0 8∧(∀i,i<2688∨6784≤i→(Gd.doneS S (P++[(0,Gd.headB (n+1))]))[i]? =(Gd.view S (P++[(0,Gd.headB (n+1))]))[i]?))∧Vp o x t f (Gd.doneS S (P++[(0,Gd.headB (n+1))])) [] 0 (K+2000000) w b Ls:=by
 obtain⟨F,hT⟩:=h.txnF;have HPt:=hid (vn a hT);obtain⟨N,hN⟩:=nm P.length;have hN0:N≠0:=fun e=>hP (List.eq_nil_of_length_eq_zero (by omega));have hNi:¬((N:Int)=0):=by omega
 rw[←hN]at HPt;obtain⟨c0,c1,c2⟩:=zl h.vol;have H:=hid h;have HC:=hid (And.intro hc (And.intro hK (And.intro hn hh)));clear h hT hP hc hK hn hh hN hN0;go_enter_defers func23,ntmps23
 go_wp2_with fail
 refine HPt.o.mono ?_;rintro e w1 ⟨⟨A,cp,rfl⟩,hb1⟩;have H1:=hid (H.o.below hb1);have HCo:=hid (H1.o.commits (n:=n) (by have:=HC.o.2.2.1;omega) HC.o.2.2.2);clear HPt hb1 c0 c1 c2;go_wp2_with fail
 refine HCo.o.mono ?_;rintro e w2 ⟨rfl,hb2⟩;have H2:=hid (H1.o.below hb2);have hn1:IntKind.i64.wrap ((n:Int)+1)=(n:Int)+1:=by
  have:=HC.o.2.2.1
  rw[IntKind.wrap_i64];omega
 have HPh:=hid (xD (n+1) HC.o.2.2.1 w2);rw[show((n+1:Nat):Int)=(n:Int)+1 by omega]at HPh;clear HCo hb2;go_wp2_with fail
 refine HPh.o.mono ?_;rintro e w3 ⟨v3,rfl,ho3,hb3⟩;have HPu:=hid (H2.o.put 1 0 ⟨1,0,0,64⟩ v3 (Gd.headB (n+1)) hb3 ho3 rfl (by rw[Gd.headB_length];omega) (by rw[Gd.headB_length];exact Nat.le_refl _) (by have:=HC.o.1;omega));have hrow:=yu (H2.o.below hb3).vol;clear HPh ho3 hb3;go_wp2_with(refine wpList_load_mid rfl 76 _ rfl o 0 rfl [.pointer (some ⟨t,0,none⟩)] _ hrow underlying76 rfl sizeStore ?_)
 refine HPu.o.mono ?_;rintro e w4 ⟨rfl,h4⟩;have HCm:=hid (h4.txnE (by simp) (by have:=HC.o.1;omega) HC.o.2.1);obtain⟨d0,d1,d2⟩:=zl h4.vol;clear h4 HPu hrow;go_wp2_with fail
 refine HCm.o.mono ?_;rintro e w5 ⟨rfl,hl,h5⟩;have H5:=hid (And.intro hl h5);clear hl h5 HCm d0 d1 d2;go_wp2;refine leaves_cons (f:=31) (args:=#[.pointer (some ⟨t,0,none⟩)]) (by simp) (by simp[go_sem]) ?_;refine(H5.o.2.drop0 .returning).mono ?_
 rintro e u' w6 ⟨rfl,rfl,h6⟩;exact⟨_,results_tmp rfl _ _ _,rfl,H5.o.1,h6⟩
theorem Vp.commit[zc]{o x t f c K n:Nat}{S:List UInt8}{P:List Gd.Pa}{w a:World}{Ls:List (Nat×Obj)}(h:Vp o x t f S P c K w a Ls)(hP:P≠[])(hc:c≤56)(hK:K<600000000000)(hn:n+1≤1152921504606846976)(hh:Gd.part (Gd.view S P) 0 64=Gd.headB n):
 Calls prog 23 #[.pointer (some ⟨o,0,none⟩)] a fun e b=>e= .returned (.int .i64 0)∧∃S':List UInt8,S'.length=23168∧Gd.part S' 2688 8=Gd.le 0 8∧(∀i,i<2688∨6784≤i→S'[i]? =(Gd.splice (Gd.view S P) 0 (Gd.headB (n+1)))[i]?)∧Vp o x t f S' [] 0 (K+2000000) w b Ls:=by
 refine(h.commitE hP hc hK hn hh).mono ?_
 rintro e b ⟨he,⟨h1,h2,h3⟩,hv⟩;rw[Gd.view_snoc]at h3;exact⟨he,_,h1,h2,h3,hv⟩
end
section
open Go.Shelf
namespace Gd
def vtab4:Nat→Tab|0=>noTab|1=>tabA|2=>tabB|3=>tabC4|_=>tabD
def vblk4:Nat→List Int|0=>[0,0,0,0]|1=>[0,0,0,1]|2=>[0,0,0,1]|3=>[2,0,0,1]|_=>[2,0,0,1]
def vmap4:Nat→List UInt8|0=>map0|1=>map1|2=>map1|3=>map2|_=>map2
def vname4:Nat→List UInt8|0=>[97]|1=>[98]|2=>[99]|_=>[100]
def VBegan(M:Vol)(k:Nat):Prop:=Began M (vtab4 k) k (vblk4 k) (vmap4 k)
theorem VBegan.setHead{M:Vol}{k a:Nat}{b:List UInt8}(h:VBegan M k):VBegan (M.setHead a b) k:=
 ⟨⟨h.tree.root,fun d h1 h2 hk=>⟨(h.tree.dir d h1 h2 hk).lo,(h.tree.dir d h1 h2 hk).hi,(h.tree.dir d h1 h2 hk).kind,(h.tree.dir d h1 h2 hk).ok,(h.tree.dir d h1 h2 hk).blk⟩,h.tree.ent⟩,⟨h.sound.mapl,h.sound.one,h.sound.used⟩,h.root,h.files,h.rest,h.map⟩
theorem vbegan_fresh(Z:List UInt8):VBegan (freshV Z) 0:=began_fresh Z
end Gd
theorem VV[zc]{x t K:Nat}{S:List UInt8}{M:Gd.Vol}{F:Nat→Prop}(k:Nat)(hk:k<4)(mx:Int)(w:World)(h:zC x t S M 0 K w F)(hB:Gd.VBegan M k)
 (hmx:w.cell? ⟨0,0,none⟩=some (.int .i64 mx))(hml:0<w.heap.size):
 ∃N,(Gd.VBegan N (k+1)∧N.head=M.head∧N.logs=M.logs)∧Calls prog 50 #[.pointer (some ⟨x,0,none⟩),.int .i64 1,.string ⟨(47::Gd.vname4 k).toArray⟩,.int .i64 1,.bool false,.int .i64 0] w fun e w'=>e= .returned (.tuple #[.int .i64 ((k+2:Nat):Int),.int .i64 0])∧∃c,c≤5∧zV x t S N c K F w w':=by
 obtain⟨n1,n2,n3,n4⟩:=Gd.names4;obtain⟨p1,p2,p3,p4⟩:=Gd.paths4;obtain⟨q1,q2,q3,q4⟩:=Gd.may4;obtain⟨h1,h2,h3,h4⟩:=Gd.hash4;obtain⟨a1,a2⟩:=Gd.placeA;obtain⟨b1,b2⟩:=Gd.placeB;obtain⟨c1,c2⟩:=Gd.placeC;obtain⟨d1,d2⟩:=Gd.placeD;obtain⟨f1,f2⟩:=Gd.first0;obtain⟨g1,g2⟩:=Gd.first1;unfold Gd.VBegan at*;match k,hk with
 |0,_=>
  obtain⟨N,⟨hN,hh⟩,hC⟩:=Ze [97] 14 mx w h hB (by omega) (by omega) hmx hml n1 p1 (by rw[h1];exact a1) (by rw[h1];exact a2) rfl (by show Gd.countB Gd.map0<128;rw[f2];omega) (by show Gd.mayI (Gd.rootN 0 (([0,0,0,0]:List Int).set 3 (Gd.firstB Gd.map0:Int)))=true;rw[f1];exact q1);refine⟨N,⟨?_,hh⟩,hC.mono fun e w' ⟨he,ht⟩=>⟨he,_,by omega,ht⟩⟩;have hN':Gd.Began N Gd.tabA 1 (([0,0,0,0]:List Int).set 3 (Gd.firstB Gd.map0:Int)) (Gd.takeB Gd.map0 (Gd.firstB Gd.map0)):=hN;rw[f1]at hN';exact hN'
 |1,_=>
  obtain⟨N,⟨hN,hh⟩,hC⟩:=uy [98] 15 1 mx w h hB (by omega) (by omega) hmx hml n2 p2 (by rw[h2];exact b1) (by rw[h2];exact b2) rfl (by omega) (by omega) q2;exact⟨N,⟨hN,hh⟩,hC.mono fun e w' ⟨he,ht⟩=>⟨he,_,by omega,ht⟩⟩
 |2,_=>
  obtain⟨N,⟨hN,hh⟩,hC⟩:=Ze [99] 0 mx w h hB (by omega) (by omega) hmx hml n3 p3 (by rw[h3];exact c1) (by rw[h3];exact c2) rfl (by show Gd.countB Gd.map1<128;rw[g2];omega) (by show Gd.mayI (Gd.rootN 2 (([0,0,0,1]:List Int).set 0 (Gd.firstB Gd.map1:Int)))=true;rw[g1];exact q3);refine⟨N,⟨?_,hh⟩,hC.mono fun e w' ⟨he,ht⟩=>⟨he,_,by omega,ht⟩⟩;have hN':Gd.Began N Gd.tabC4 3 (([0,0,0,1]:List Int).set 0 (Gd.firstB Gd.map1:Int)) (Gd.takeB Gd.map1 (Gd.firstB Gd.map1)):=hN;rw[g1]at hN';exact hN'
 |3,_=>
  obtain⟨N,⟨hN,hh⟩,hC⟩:=uy [100] 1 2 mx w h hB (by omega) (by omega) hmx hml n4 p4 (by rw[h4];exact d1) (by rw[h4];exact d2) rfl (by omega) (by omega) q4;exact⟨N,⟨hN,hh⟩,hC.mono fun e w' ⟨he,ht⟩=>⟨he,_,by omega,ht⟩⟩
theorem uC{S:List UInt8}{P:List Gd.Pa}{M N:Gd.Vol}{k:Nat}(hk:k<4)(h:Gd.VBegan M k)(hM:Gd.Good S M)(h2:Gd.VBegan N (k+1))(hN:Gd.Good (Gd.view S P) N):P≠[]:=by
 rintro rfl;have e1:=hM.ino (k+2) (by omega) (by omega);have e2:Gd.part S (Gd.inoAt (k+2)) 64=_:=hN.ino (k+2) (by omega) (by omega);rw[h.rest (k+2) (Nat.le_refl _)]at e1;rw[h2.files (k+2) (by omega) (by omega)]at e2;have hm:Gd.mayI (jy.setO 0 1)=true:=by decide
 have hne:=(Gd.ino_bytes (Gd.Ino.setO_shape qF 0 1) hm (by decide)).ne;exact hne (e2.symm.trans e1)
theorem Vp.opens[zc]{o x t f K:Nat}{S:List UInt8}{M:Gd.Vol}{w a:World}{Ls:List (Nat×Obj)}(k:Nat)(hk:k<4)(mx:Int)(h:Vp o x t f S [] 0 K w a Ls)(hG:Gd.Good S M)(hB:Gd.VBegan M k)
 (hmx:a.cell? ⟨0,0,none⟩=some (.int .i64 mx))(hml:0<a.heap.size):
 Calls prog 50 #[.pointer (some ⟨x,0,none⟩),.int .i64 1,.string ⟨(47::Gd.vname4 k).toArray⟩,.int .i64 1,.bool false,.int .i64 0] a fun e b=>e= .returned (.tuple #[.int .i64 ((k+2:Nat):Int),.int .i64 0])∧∃(N:Gd.Vol) (P:List Gd.Pa) (c:Nat),Gd.VBegan N (k+1)∧N.head=M.head∧N.logs=M.logs∧P≠[]∧c≤5∧Vp o x t f S P c K w b Ls∧Gd.Good (Gd.view S P) N:=by
 obtain⟨F',h1,h2⟩:=h;have hV:zC x t S M 0 K a F':=⟨[],h1.inv,hG⟩;obtain⟨N,⟨hN,hh1,hh2⟩,hC⟩:=VV k hk mx a hV hB hmx hml;refine hC.mono ?_;rintro e b ⟨rfl,c,hc,F2,ht⟩;obtain⟨P,hm,hGN⟩:=ht.inv;exact⟨rfl,N,P,c,hN,hh1,hh2,uC hk hB hG hN hGN,hc,Vp.next h1 h2 (ht.mono fun _=>hm),hGN⟩
end
section
open Go.Shelf
attribute [local go_sem] Oper.semAt_some
theorem Jc{m sb lb ab n K:Nat}{S:List UInt8}{X:Nat→Prop}(a:Nat)(A:Option Addr)(c:Nat)(b:List UInt8)(w:World)(h:zZ w m sb lb ab n S K X)(hb:uB w A b)(hap:b≠[]→∀g o,A=some ⟨g,o,none⟩→g≠sb∧g≠ab)(ha:a+b.length≤S.length)(hk:b.length≤4000):
 Calls prog 25 #[.pointer (some ⟨m,0,none⟩),.int .i64 a,.slice A b.length c] w fun e w'=>e= .returned (.int .i64 0)∧zZ w' m sb lb ab n (Gd.splice S a b) K (fun q=>X q∨jL a b.length q)∧zi (fun k=>k=sb∨k=ab) w w':=by
 by_cases h0:b=[]
 ·subst h0;refine(Jd a A c w h (by omega)).mono ?_
  rintro e w' ⟨rfl,rfl⟩;exact⟨rfl,by rw[Gd.splice_nil];exact h.wide fun _ _ e=>Or.inl e,zi.refl _ _⟩
 ·rcases hb with rfl|⟨g,o,rfl,h2,h3⟩
  ·exact absurd rfl h0
  ·have hB:zr w (.slice (some ⟨g,o,none⟩) b.length c) b:=⟨_,_,rfl,Or.inr ⟨g,o,rfl,h2,h3⟩⟩;exact xR a _ b w h hB (fun q hq=>by cases hq;exact hap h0 g o rfl) ha (by omega)
def zo[zc](v r:Nat):Obj:= .cells #[.pointer (some ⟨zc.no,0,none⟩),.pointer (some ⟨v,0,none⟩),.pointer (some ⟨r,0,none⟩)] 35 (0,0)
theorem Mst.fresh{w a:World}(h:∃m sb lb ab,zH a m sb lb ab 2896 (List.replicate 23168 0) 0∧Below w.heap.size w a∧(w.heap.size≤m∧w.heap.size≤sb∧w.heap.size≤lb∧w.heap.size≤ab)):∃mn:zc,Mst (List.replicate 23168 0) 0 w a []:=by
 obtain⟨m,sb,lb,ab,hM,hb,hl⟩:=h;exact⟨⟨m⟩,sb,lb,ab,2896,hM,hl,hb,fun p hp=>by cases hp⟩
end
section
open Go.Shelf
attribute [local go_sem] Oper.semAt_some
def Vq[zc](o x t f:Nat)(S:List UInt8)(P:List Gd.Pa)(M:Gd.Vol)(n:Nat)(s:Nat→Gd.Slot)(c K:Nat)(w a:World)(Ls:List (Nat×Obj)):Prop:=Vp o x t f S P c K w a Ls∧Gd.Good (Gd.view S P) M∧Gd.HeadIs M n s
section
variable {o x t f c K n:Nat} {S:List UInt8} {P:List Gd.Pa} {M:Gd.Vol} {s:Nat→Gd.Slot} {w a b:World} {Ls:List (Nat×Obj)}
theorem Vq.below[zc](h:Vq o x t f S P M n s c K w a Ls)(hb:Below a.heap.size a b):Vq o x t f S P M n s c K w b Ls:=⟨h.1.below hb,h.2⟩
theorem Vq.at_[zc](h:Vq o x t f S P M n s c K w a Ls){k m:Nat}(hk:k+m≤576):Gd.part (Gd.view S P) k m=Gd.part M.head k m:=by
 rw[←h.2.1.head,Gd.part_part hk,Nat.zero_add]
theorem Vq.commits[zc](h:Vq o x t f S P M n s c K w a Ls):
 Calls prog 30 #[.pointer (some ⟨o,0,none⟩)] a fun e b=>e= .returned (.int .i64 n)∧Vq o x t f S P M n s c K w b Ls:=
 (h.1.commits h.2.2.few ((h.at_ (by omega)).trans h.2.2.head)).mono fun _ _ ⟨he,hb⟩=>⟨he,h.below hb⟩
theorem Vq.slot[zc](h:Vq o x t f S P M n s c K w a Ls)(k:Nat)(k1:1≤k)(k2:k≤8):
 Calls prog 17 #[.pointer (some ⟨o,0,none⟩),.int .i64 k] a fun e b=>e= .returned (.tuple #[zO (s k),.int .i64 0])∧Vq o x t f S P M n s c K w b Ls:=
 (h.1.slot k k1 k2 (h.2.2.may k k1 k2) ((h.at_ (by omega)).trans (h.2.2.slot k k1 k2))).mono fun _ _ ⟨he,hb⟩=>⟨he,h.below hb⟩
theorem Vq.setslot[zc](h:Vq o x t f S P M n s c K w a Ls)(k:Nat)(k1:1≤k)(k2:k≤8)(y:Gd.Slot)(hy:y.May)(hc:c<64):
 Calls prog 22 #[.pointer (some ⟨o,0,none⟩),.int .i64 k,zO y] a fun e b=>e= .returned (.int .i64 0)∧Vq o x t f S (P++[(64*k,Gd.slotB y)]) (M.setHead (64*k) (Gd.slotB y)) n (Gd.updS s k y) (c+1) K w b Ls:=
 (h.1.setslot k k1 k2 y hy hc).mono fun _ _ ⟨he,hv⟩=>⟨he,hv,by rw[Gd.view_snoc];exact h.2.1.setHead (by rw[Gd.slotB_length];omega),h.2.2.set k1 k2 hy⟩
theorem Vq.commit[zc](h:Vq o x t f S P M n s c K w a Ls)(hP:P≠[])(hc:c≤56)(hK:K<600000000000)(hn:n+1≤1152921504606846976):
 Calls prog 23 #[.pointer (some ⟨o,0,none⟩)] a fun e b=>e= .returned (.int .i64 0)∧∃S',Vq o x t f S' [] (M.setHead 0 (Gd.headB (n+1))) (n+1) s 0 (K+2000000) w b Ls:=
 (h.1.commit hP hc hK hn ((h.at_ (by omega)).trans h.2.2.head)).mono fun _ _ ⟨he,S',hl,_,hs,hv⟩=>⟨he,S',hv,by
   have hG:=h.2.1.setHead (a:=0) (b:=Gd.headB (n+1)) (by rw[Gd.headB_length];omega);exact hG.same (by rw[hG.len];exact hl) hs,h.2.2.commit hn⟩
theorem Vq.mst[zc](h:Vq o x t f S P M n s c K w a Ls):Mst S K w a Ls:=h.1.mst
theorem Vq.fence[zc](h:Vq o x t f S [] M n s 0 K w a Ls)(k:Nat)(k1:1≤k)(k2:k≤8)(hK:K<600000000000)(hn:n+1≤1152921504606846976)(he:(s k).e<1073741824):
 Calls prog 36 #[.pointer (some ⟨o,0,none⟩),.int .i64 k] a fun e b=>e= .returned (.int .i64 0)∧∃S' M',Vq o x t f S' [] M' (n+1) (Gd.updS s k {s k with e:=(s k).e+1,h:=0}) 0 (K+2000000) w b Ls∧M'.ino=M.ino∧M'.map=M.map∧M'.blk=M.blk∧M'.logs=M.logs:=by
 have hm:=h.2.2.may k k1 k2;have HSl:=h.slot k k1 k2;have HSt:∀W,Vq o x t f S [] M n s 0 K w W Ls→_:=fun W hW=>hW.setslot k k1 k2 {s k with e:=(s k).e+1,h:=0} ⟨by show(s k).e+1≤_;omega,by show 0≤1024;omega,hm.r,hm.ke,hm.ki,hm.w⟩ (by omega);obtain⟨⟨e0,h0,r0,ke0,ki0,w0⟩,hsk⟩:∃y,y=s k:=⟨_,rfl⟩;rw[←hsk]at HSl HSt he⊢;dsimp only at HSt he;unfold zO zm at HSl HSt;dsimp only at HSl HSt;rw[show((e0+1:Nat):Int)=(e0:Int)+1 by omega,show((0:Nat):Int)=0 from rfl]at HSt;have hw1:IntKind.i64.wrap ((e0:Int)+1)=(e0:Int)+1:=by rw[IntKind.wrap_i64];omega
 have hlt:decide ((1073741824:Int)≤(e0:Int))=false:=by rw[decide_eq_false_iff_not];omega
 have HSl2:=hid HSl;have HSt2:=hid HSt;have HK:=hid (And.intro hK hn);clear h hm he hK hn hsk HSl HSt;go_enter func36,ntmps36;go_wp2_with fail
 refine HSl2.o.mono ?_;rintro e w1 ⟨rfl,h1⟩;have H1:=hid h1;clear h1 HSl2;have H2:=hid (H1.o.below ((Below.refl w1.heap.size w1).alloc (Nat.le_refl _) (.cells #[.int .i64 ((e0:Int)+1),.int .i64 0,.int .i64 r0,.int .i64 ke0,.int .i64 ki0,.int .i64 w0] 48)));have HSt3:=hid (HSt2.o _ H2.o);clear HSt2 H1;go_wp2_with fail
 refine HSt3.o.mono ?_;rintro e w2 ⟨rfl,h2⟩;have HCm:=hid (h2.commit (by simp) (by omega) HK.o.1 HK.o.2);clear h2 HSt3;go_wp2_with fail
 refine HCm.o.mono ?_;rintro e w3 ⟨rfl,S',h3⟩;have H3:=hid h3;clear h3 HCm;go_wp2;go_ret
 exact⟨rfl,S',_,H3.o,rfl,rfl,rfl,rfl⟩
end
end
section
open Go.Shelf
attribute [local go_sem] Oper.semAt_some
theorem Sized.below{w w':World}{v:Value}(h:Sized w v)(hb:Below w.heap.size w w'):Sized w' v:=by
 rcases h with h|⟨m,sb,lb,ab,n,S,K,h1,h2,h3⟩
 ·exact Or.inl h
 ·exact Or.inr ⟨m,sb,lb,ab,n,S,K,h1,h2.keep fun k hk=>hb.block k (h2.lts k hk),h3⟩
theorem Vp.inode[zc]{o x t f c K:Nat}{S:List UInt8}{w a:World}{Ls:List (Nat×Obj)}(h:Vp o x t f S [] c K w a Ls)(i:Nat)(h1:1≤i)(h2:i≤32)(hs:Gd.SoundV S):
 Calls prog 16 #[.pointer (some ⟨x,0,none⟩),.int .i64 i] a fun e b=>∃y:Gd.Ino,e= .returned (.tuple #[zQ y,.int .i64 0])∧y.Shape∧(i=1→y.k=2)∧Below a.heap.size a b:=by
 obtain⟨F',hm,-⟩:=h.metaF;obtain⟨y,hy,hmy,hp⟩:=hs.ino i h1 h2;refine(uf (i:Int) y a hm (by omega) (by omega) hy hmy hp).mono ?_
 rintro e b ⟨rfl,hb⟩;refine⟨y,rfl,hy,fun e=> ?_,hb⟩;subst e;obtain⟨z,z1,z2,z3,z4⟩:=hs.root;exact Gd.inoB_k hy z1 hmy z2 (hp.symm.trans z3) z4
theorem Vp.slots[zc]{o x t f c K:Nat}{S:List UInt8}{w a:World}{Ls:List (Nat×Obj)}(h:Vp o x t f S [] c K w a Ls)(k:Nat)(k1:1≤k)(k2:k≤8)(hs:Gd.SoundV S):
 Calls prog 17 #[.pointer (some ⟨o,0,none⟩),.int .i64 k] a fun e b=>∃s:Gd.Slot,e= .returned (.tuple #[zO s,.int .i64 0])∧Below a.heap.size a b:=by
 obtain⟨F',hm,-⟩:=h.metaF;refine(yQ k (64*k) a hm h.vol (Gd.ptAt_slotV k1 k2)).mono ?_
 rintro e b ⟨hb,⟨-,he⟩|⟨hno,-⟩⟩
 ·exact⟨_,he,hb⟩
 ·exact absurd (hs.slot k k1 k2) hno
def X0:Gd.Slot:=⟨1,0,0,0,0,0⟩
theorem QY:X0.May:=⟨by decide,by decide,by decide,by decide,by decide,by decide⟩
theorem xF(w:World):Calls prog 14 #[] w fun e w'=>e= .returned (.bool true)∧Below w.heap.size w w':=by
 have HP:Hid (Calls prog 9 #[.int .i64 23168] w (Zy w 2896 23168)):=hid (Z3 2896 (by omega) (by omega) (by omega) w);go_enter func14,ntmps14;go_wp2_with fail
 refine HP.o.mono ?_;rintro e w1 ⟨m,sb,lb,ab,rfl,hM1,hb1,hlow1,hge1⟩;obtain⟨mn,hmn⟩:∃mn:zc,m=mn.no:=⟨⟨m⟩,rfl⟩;subst hmn;have h1:Mst (List.replicate 23168 0) 0 w w1 []:=⟨sb,lb,ab,2896,hM1,hge1,hb1,fun p hp=>by cases hp⟩;have HFm:=hid (ZF h1 List.length_replicate (by omega));clear hM1 hb1 hlow1 hge1 h1 HP;go_wp2_with fail
 refine HFm.o.mono ?_;rintro e w2 ⟨rfl,S,Z,hZ,hG,he,h2⟩;have HMo:=hid (yc h2 hG.len (by omega));have HH:=hid (Gd.HeadIs.fresh hZ);have HG:=hid (And.intro hG he);have HSo:=hid (HH.o.sound hG rfl);clear h2 hG he hZ HFm;go_wp2_with fail
 refine HMo.o.mono ?_;rintro e w3 ⟨S2,hl2,he2,hs2,hor⟩;obtain rfl:=hs2 HG.o.2
 rcases hor with⟨-,o,x,t,f,rfl,h3⟩|⟨hno,-⟩
 rotate_left
 ·exact absurd HSo.o hno
 have hv:Vq o x t f S2 [] (Gd.freshV Z) 0 (fun _=>Gd.slot0) 0 657100000 w w3 []:=⟨h3,HG.o.1,HH.o⟩;have HC:=hid hv.commits;clear hl2 he2 h3 HMo hv;go_wp2_with fail
 refine HC.o.mono ?_;rintro e w4 ⟨rfl,h4⟩;have HSt:=h4.setslot 1 (by omega) (by omega) X0 QY (by omega);unfold zO zm X0 at HSt;dsimp only at HSt;rw[show((1:Nat):Int)=1 from rfl,show((0:Nat):Int)=0 from rfl]at HSt;have HSt2:=hid HSt;clear h4 HC HSt;go_wp2_with fail
 refine HSt2.o.mono ?_;rintro e w5 ⟨rfl,h5⟩;have HCm:=hid (h5.commit (by simp) (by omega) (by omega) (by omega));clear h5 HSt2;go_wp2_with fail
 refine HCm.o.mono ?_;rintro e w6 ⟨rfl,S6,h6⟩;have HC6:=hid h6.commits;clear h6 HCm;go_wp2_with fail
 refine HC6.o.mono ?_;rintro e w7 ⟨rfl,h7⟩;have HFe:=hid (h7.fence 1 (by omega) (by omega) (by omega) (by omega) (by show(1:Nat)<_;omega));clear h7 HC6;go_wp2_with fail
 refine HFe.o.mono ?_;rintro e w8 ⟨rfl,S8,M8,h8,-⟩;obtain⟨s8,hs8,h8⟩:∃s8:Nat→Gd.Slot,s8 1=⟨2,0,0,0,0,0⟩∧Vq o x t f S8 [] M8 2 s8 0 (657100000+2000000+2000000) w w8 []:=⟨_,rfl,h8⟩;have HSl:=h8.slot 1 (by omega) (by omega);rw[hs8,show((1:Nat):Int)=1 from rfl]at HSl;unfold zO zm at HSl;dsimp only at HSl;have HSl2:=hid HSl;clear h8 hs8 HFe HSl;go_wp2_with fail
 refine HSl2.o.mono ?_;rintro e w9 ⟨rfl,h9⟩;have hba:=(Below.refl w9.heap.size w9).alloc (Nat.le_refl _) (.cells #[.int .i64 2,.int .i64 0,.int .i64 0,.int .i64 0,.int .i64 0,.int .i64 0] 48);have HC9:=hid (h9.below hba).commits;clear h9 HSl2 hba;go_wp2_with fail
 refine HC9.o.mono ?_;rintro e w10 ⟨rfl,h10⟩;have H10:=hid h10.1.belowW;clear h10 HC9;go_wp2;go_ret
 exact⟨rfl,H10.o⟩
end
section
open Go.Shelf
def yj(sl:List Gd.Slot):List Value:=sl.flatMap fun s=>(zm s).toList
def Uc(fs:List (List UInt8)):List Value:=fs.map fun f=> .string ⟨f.toArray⟩
def uV(bs:List Nat):List Value:=bs.map fun b=> .slice (some ⟨b,0,none⟩) 1024 1024
structure xv(r:Nat)(sl:List Gd.Slot)(n:Int)(fs lg:List (List UInt8))(sv fv lv:Value)(bs:List Nat)(w:World):Prop where
 obj:w.heap[r]? =some (.cells #[sv,.int .i64 n,fv,lv] 91 (0,0))
 slots:w.ownsRow 0 48 6 sv sl.length (yj sl)
 files:w.ownsRow 0 9 1 fv fs.length (Uc fs)
 logs:w.ownsRow 0 22 1 lv bs.length (uV bs)
 blk:∀(j b:Nat),bs[j]? =some b→∃L:List UInt8,lg[j]? =some L∧L.length=1024∧w.heap[b]? =some (.cells (ze L) 5 (0,0))
 len:bs.length=lg.length
 nodup:bs.Nodup
theorem zT{w w':World}{B e n:Nat}{size:Nat}{v:Value}{xs:List Value}(h:w.ownsRow B e size v n xs)(hk:∀q cur,v.ownBlock=some q→w.heap[q]? =some (.cells cur e (0,0))→w'.heap[q]? =w.heap[q]?):w'.ownsRow B e size v n xs:=
 ⟨h.1,h.2.imp id fun⟨g,cap,cur,hv,hB,hg,hr⟩=>⟨g,cap,cur,hv,hB,(hk g cur (by rw[hv];rfl) hg).trans hg,hr⟩⟩
section
variable {r:Nat} {sl:List Gd.Slot} {n:Int} {fs lg:List (List UInt8)} {sv fv lv:Value} {bs:List Nat} {w w':World}
theorem xv.keep(h:xv r sl n fs lg sv fv lv bs w)(hk:∀q,q=r∨sv.ownBlock=some q∨fv.ownBlock=some q∨lv.ownBlock=some q∨q∈bs→w'.heap[q]? =w.heap[q]?):xv r sl n fs lg sv fv lv bs w':=
 ⟨(hk r (Or.inl rfl)).trans h.obj,zT h.slots fun q _ hq _=>hk q (Or.inr (Or.inl hq)),zT h.files fun q _ hq _=>hk q (Or.inr (Or.inr (Or.inl hq))),zT h.logs fun q _ hq _=>hk q (Or.inr (Or.inr (Or.inr (Or.inl hq)))),fun j b hj=>by
  obtain⟨L,h1,h2,h3⟩:=h.blk j b hj;exact⟨L,h1,h2,(hk b (Or.inr (Or.inr (Or.inr (Or.inr (List.mem_of_getElem? hj)))))).trans h3⟩,h.len,h.nodup⟩
theorem xv.lt(h:xv r sl n fs lg sv fv lv bs w){q:Nat}(hq:q=r∨sv.ownBlock=some q∨fv.ownBlock=some q∨lv.ownBlock=some q∨q∈bs):q<w.heap.size:=by
 have own:∀{e size m:Nat} {v:Value} {xs:List Value},w.ownsRow 0 e size v m xs→v.ownBlock=some q→q<w.heap.size:=fun ho hv=>by
  rcases ho.2 with⟨e,-⟩|⟨g,cap,cur,e,-,hg,-⟩
  ·rw[e]at hv;cases hv
  ·rw[e]at hv;cases hv;exact za hg
 rcases hq with rfl|hq|hq|hq|hq
 ·exact za h.obj
 ·exact own h.slots hq
 ·exact own h.files hq
 ·exact own h.logs hq
 ·obtain⟨j,hj⟩:=List.mem_iff_getElem?.1 hq;obtain⟨L,-,-,hL⟩:=h.blk j q hj;exact za hL
theorem xv.obj5{wa w5:World}(h:xv r sl n fs lg sv fv lv bs w)(hb:Below w.heap.size w wa)(hg:wa.grownBy w5 sv.ownBlock):w5.heap[r]? =some (.cells #[sv,.int .i64 n,fv,lv] 91 (0,0)):=by
 have hl:=za h.obj;rw[hg.block r (Nat.lt_of_lt_of_le hl hb.size) fun e=> ?_,hb.block r hl]
 ·exact h.obj
 ·rcases h.slots.2 with⟨e2,-⟩|⟨g,cap,cur2,e2,-,hg2,-⟩
  ·rw[e2]at e;cases e
  ·rw[e2]at e
   cases e
   have:=h.obj
   rw[hg2]at this;exact absurd (Obj.cells.inj (Option.some.inj this)).2.1 (by decide)
theorem xv.obj5l{wa w5:World}(h:xv r sl n fs lg sv fv lv bs w)(hb:Below w.heap.size w wa)(hg:wa.grownBy w5 lv.ownBlock):w5.heap[r]? =some (.cells #[sv,.int .i64 n,fv,lv] 91 (0,0)):=by
 have hl:=za h.obj;rw[hg.block r (Nat.lt_of_lt_of_le hl hb.size) fun e=> ?_,hb.block r hl]
 ·exact h.obj
 ·rcases h.logs.2 with⟨e2,-⟩|⟨g,cap,cur2,e2,-,hg2,-⟩
  ·rw[e2]at e;cases e
  ·rw[e2]at e
   cases e
   have:=h.obj
   rw[hg2]at this;exact absurd (Obj.cells.inj (Option.some.inj this)).2.1 (by decide)
theorem xv.slot_put{wa w5:World}{v':Value}{x:Gd.Slot}(h:xv r sl n fs lg sv fv lv bs w)(hb:Below w.heap.size w wa)(hown:w5.ownsRow 0 48 6 v' (sl.length+1) (yj sl++(zm x).toList))(hg:wa.grownBy w5 sv.ownBlock):xv r (sl++[x]) n fs lg v' fv lv bs (w5.setCell ⟨r,0,none⟩ v'):=by
 have same:∀(q:Nat) (cur:Array Value) (ty:TypeId),w.heap[q]? =some (Obj.cells cur ty (0,0))→ty≠48→w5.heap[q]? =w.heap[q]? :=fun q cur ty hq hty=>by
  have hl:=za hq;rw[hg.block q (Nat.lt_of_lt_of_le hl hb.size) fun e=> ?_,hb.block q hl];rcases h.slots.2 with⟨e2,-⟩|⟨g,cap,cur2,e2,-,hg2,-⟩
  ·rw[e2]at e;cases e
  ·rw[e2]at e
   cases e
   rw[hg2]at hq;exact hty (Obj.cells.inj (Option.some.inj hq)).2.1.symm
 have hr5:w5.heap[r]? =some (.cells #[sv,.int .i64 n,fv,lv] 91 (0,0)):=(same r _ _ h.obj (by decide)).trans h.obj;have nr:∀(q:Nat) (cur:Array Value) (ty:TypeId),w5.heap[q]? =some (Obj.cells cur ty (0,0))→ty≠91→(w5.setCell ⟨r,0,none⟩ v').heap[q]? =w5.heap[q]? :=fun q cur ty hq hty=>Go.heap_setCell_other w5 ⟨r,0,none⟩ q v' fun e=>by
  have e:q=r:=e;subst e;rw[hr5]at hq;exact hty (Obj.cells.inj (Option.some.inj hq)).2.1.symm
 have both:∀(q:Nat) (cur:Array Value) (ty:TypeId),w.heap[q]? =some (Obj.cells cur ty (0,0))→ty≠48→ty≠91→(w5.setCell ⟨r,0,none⟩ v').heap[q]? =w.heap[q]? :=fun q cur ty hq t1 t2=>by
  have e:=same q cur ty hq t1;rw[nr q cur ty (e.trans hq) t2,e]
 refine⟨Go.heap_setCell_same w5 r 0 _ _ v' hr5,?_,zT h.files fun q cur _ hq=>both q cur _ hq (by decide) (by decide),zT h.logs fun q cur _ hq=>both q cur _ hq (by decide) (by decide),fun j b hj=> ?_,h.len,h.nodup⟩
 ·have:=zT (w':=w5.setCell ⟨r,0,none⟩ v') hown fun q cur _ hq=>nr q cur _ hq (by decide)
  unfold yj at this⊢;rw[List.flatMap_append,List.length_append,List.length_singleton];simpa using this
 ·obtain⟨L,h1,h2,h3⟩:=h.blk j b hj;exact⟨L,h1,h2,(both b _ _ h3 (by decide) (by decide)).trans h3⟩
theorem xv.log_put{wa w5:World}{v':Value}{b:Nat}{L:List UInt8}(h:xv r sl n fs lg sv fv lv bs w)(hb:Below w.heap.size w wa)(hbn:w.heap.size≤b)(hbb:wa.heap[b]? =some (.cells (ze L) 5 (0,0)))(hL:L.length=1024)(hown:w5.ownsRow 0 22 1 v' (bs.length+1) (uV bs++[.slice (some ⟨b,0,none⟩) 1024 1024]))(hg:wa.grownBy w5 lv.ownBlock):xv r sl n fs (lg++[L]) sv fv v' (bs++[b]) (w5.setCell ⟨r,3,none⟩ v'):=by
 have same:∀(q:Nat) (cur:Array Value) (ty:TypeId),wa.heap[q]? =some (Obj.cells cur ty (0,0))→ty≠22→w5.heap[q]? =wa.heap[q]? :=fun q cur ty hq hty=>by
  have hl:=za hq;rw[hg.block q hl fun e=> ?_];rcases h.logs.2 with⟨e2,-⟩|⟨g,cap,cur2,e2,-,hg2,-⟩
  ·rw[e2]at e;cases e
  ·rw[e2]at e
   cases e
   rw[hb.block _ (za hg2),hg2]at hq;exact hty (Obj.cells.inj (Option.some.inj hq)).2.1.symm
 have up:∀(q:Nat) (cur:Array Value) (ty:TypeId),w.heap[q]? =some (Obj.cells cur ty (0,0))→wa.heap[q]? =some (Obj.cells cur ty (0,0)):=fun q cur ty hq=>(hb.block q (za hq)).trans hq;have hr5:w5.heap[r]? =some (.cells #[sv,.int .i64 n,fv,lv] 91 (0,0)):=(same r _ _ (up _ _ _ h.obj) (by decide)).trans (up _ _ _ h.obj);have nr:∀(q:Nat) (cur:Array Value) (ty:TypeId),w5.heap[q]? =some (Obj.cells cur ty (0,0))→ty≠91→(w5.setCell ⟨r,3,none⟩ v').heap[q]? =w5.heap[q]? :=fun q cur ty hq hty=>Go.heap_setCell_other w5 ⟨r,3,none⟩ q v' fun e=>by
  have e:q=r:=e;subst e;rw[hr5]at hq;exact hty (Obj.cells.inj (Option.some.inj hq)).2.1.symm
 have both:∀(q:Nat) (cur:Array Value) (ty:TypeId),wa.heap[q]? =some (Obj.cells cur ty (0,0))→ty≠22→ty≠91→(w5.setCell ⟨r,3,none⟩ v').heap[q]? =some (Obj.cells cur ty (0,0)):=fun q cur ty hq t1 t2=>by
  have e:=same q cur ty hq t1;rw[nr q cur ty (e.trans hq) t2,e];exact hq
 refine⟨Go.heap_setCell_same w5 r 3 _ _ v' hr5,zT h.slots fun q cur _ hq=>(both q cur _ (up _ _ _ hq) (by decide) (by decide)).trans hq.symm,zT h.files fun q cur _ hq=>(both q cur _ (up _ _ _ hq) (by decide) (by decide)).trans hq.symm,?_,fun j c hj=> ?_,by rw[List.length_append,List.length_append,h.len];rfl,?_⟩
 ·have:=zT (w':=w5.setCell ⟨r,3,none⟩ v') hown fun q cur _ hq=>nr q cur _ hq (by decide)
  unfold uV at this⊢;rw[List.map_append,List.length_append,List.length_singleton];exact this
 ·rw[List.getElem?_append]at hj⊢;by_cases hjl:j<bs.length
  ·rw[if_pos hjl]at hj;rw[if_pos (by rw[←h.len];exact hjl)];obtain⟨L',h1,h2,h3⟩:=h.blk j c hj;exact⟨L',h1,h2,both c _ _ (up _ _ _ h3) (by decide) (by decide)⟩
  ·rw[if_neg hjl]at hj;rw[if_neg (by rw[←h.len];exact hjl),←h.len];have hj0:j-bs.length=0:=by
    have:=(List.getElem?_eq_some_iff.1 hj).1
    simp at this
    omega
   rw[hj0]at hj⊢
   cases hj
   exact⟨L,rfl,hL,both b _ _ hbb (by decide) (by decide)⟩
 ·rw[List.nodup_append];refine⟨h.nodup,by simp,fun c hc d hd e=> ?_⟩;rw[List.mem_singleton.1 hd]at e;have:=h.lt (Or.inr (Or.inr (Or.inr (Or.inr hc))))
  omega
end
def RvF(r:Nat)(sl:List Gd.Slot)(n:Int)(fs lg:List (List UInt8))(w:World)(F:Nat→Prop):Prop:=
 ∃sv fv lv bs,xv r sl n fs lg sv fv lv bs w∧F r∧(∀q,sv.ownBlock=some q→F q)∧(∀q,fv.ownBlock=some q→F q)∧(∀q,lv.ownBlock=some q→F q)∧∀b∈bs,F b
theorem RvF.held(r:Nat)(sl:List Gd.Slot)(n:Int)(fs lg:List (List UInt8)):vw (RvF r sl n fs lg) where
 keep:=by
  rintro w w' F ⟨sv,fv,lv,bs,h,f1,f2,f3,f4,f5⟩ hs hb;refine⟨sv,fv,lv,bs,h.keep fun q hq=>hb q (h.lt hq) ?_,f1,f2,f3,f4,f5⟩;rcases hq with rfl|hq|hq|hq|hq
  ·exact f1
  ·exact f2 q hq
  ·exact f3 q hq
  ·exact f4 q hq
  ·exact f5 q hq
 mono:=by
  rintro w F G ⟨sv,fv,lv,bs,h,f1,f2,f3,f4,f5⟩ hG;exact⟨sv,fv,lv,bs,h,hG _ (h.lt (Or.inl rfl)) f1,fun q hq=>hG q (h.lt (Or.inr (Or.inl hq))) (f2 q hq),fun q hq=>hG q (h.lt (Or.inr (Or.inr (Or.inl hq)))) (f3 q hq),fun q hq=>hG q (h.lt (Or.inr (Or.inr (Or.inr (Or.inl hq))))) (f4 q hq),fun b hb=>hG b (h.lt (Or.inr (Or.inr (Or.inr (Or.inr hb))))) (f5 b hb)⟩
end
end Go.Proofs.YtccpdkjonepoiaaGreatDoor
