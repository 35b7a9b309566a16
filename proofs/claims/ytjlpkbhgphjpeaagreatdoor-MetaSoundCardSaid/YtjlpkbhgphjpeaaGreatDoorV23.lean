/- The document's names of a directory, plainly. -/
import Derived.Test.YtjlpkbhgphjpeaaGreatDoorV22
set_option linter.unusedVariables false
set_option linter.unusedSimpArgs false
set_option linter.unusedSectionVars false
set_option maxHeartbeats 8000000
set_option maxRecDepth 100000
namespace Go.Proofs.YtjlpkbhgphjpeaaGreatDoor
open Go.RowKit
open Lib(hid)
open Go.Proofs.Tryz
section
open Go.Sort
namespace Pz
theorem ins_perm(x:List UInt8):∀L:List (List UInt8),(ins x L).Perm (x::L)
 |[]=>List.Perm.refl _
 |y::r=>by
  rw[ins];split
  ·exact List.Perm.refl _
  ·exact((ins_perm x r).cons y).trans (List.Perm.swap x y r)
theorem ins_sorted(x:List UInt8):∀L:List (List UInt8),L.Pairwise (fun a b=>leB a b=true)→(ins x L).Pairwise (fun a b=>leB a b=true)
 |[],_=>by rw[ins];exact List.pairwise_singleton _ _
 |y::r,h=>by
  obtain⟨h1,h2⟩:=List.pairwise_cons.1 h;rw[ins];split
  ·rename_i hxy
   refine List.pairwise_cons.2 ⟨fun z hz=> ?_,h⟩;have hle:x≤y:=List.le_of_lt hxy;rcases List.mem_cons.1 hz with rfl|hz
   ·exact decide_eq_true hle
   ·exact decide_eq_true (List.le_trans hle (of_decide_eq_true (h1 z hz)))
  ·rename_i hxy
   refine List.pairwise_cons.2 ⟨fun z hz=> ?_,ins_sorted x r h2⟩;rcases List.mem_cons.1 ((ins_perm x r).mem_iff.1 hz)with rfl|hz
   ·exact decide_eq_true (List.not_lt.1 hxy)
   ·exact h1 z hz
theorem fold_ins:∀(M L:List (List UInt8)),L.Pairwise (fun a b=>leB a b=true)→(M.foldl (fun l x=>ins x l) L).Pairwise (fun a b=>leB a b=true)∧(M.foldl (fun l x=>ins x l) L).Perm (M++L)
 |[],L,h=>⟨h,List.Perm.refl _⟩
 |x::M,L,h=>by
  obtain⟨h1,h2⟩:=fold_ins M (ins x L) (ins_sorted x L h);refine⟨h1,h2.trans ?_⟩;exact(List.Perm.append_left M (ins_perm x L)).trans List.perm_middle
theorem namesOf_eq{E:List En}{i:Nat}{ss:List (List UInt8)}(h:ss.Perm ((E.filter fun e=>e.dir==i).map (·.name))):ss.mergeSort leB=namesOf E i:=by
 obtain⟨h1,h2⟩:=fold_ins ((E.filter fun e=>e.dir==i).map (·.name)) [] List.Pairwise.nil;rw[List.append_nil]at h2;unfold namesOf;rw[mergeSort_of_perm (h.trans h2.symm),List.mergeSort_of_pairwise h1]
theorem look_mem{E:List En}{i:Nat}{x:List UInt8}:0≤look E i x↔∃e∈E,e.dir=i∧e.name=x:=by
 induction E with
 |nil=>rw[look];simp
 |cons e r ih=>
  rw[look];by_cases he:e.dir=i∧e.name=x
  ·rw[if_pos he];exact⟨fun _=>⟨e,List.mem_cons_self ..,he⟩,fun _=>by omega⟩
  ·rw[if_neg he,ih];refine⟨fun⟨a,ha,h⟩=>⟨a,List.mem_cons_of_mem _ ha,h⟩,fun⟨a,ha,h⟩=> ?_⟩;rcases List.mem_cons.1 ha with rfl|ha
   ·exact absurd h he
   ·exact⟨a,ha,h⟩
theorem names_nodup{E:List En}{i:Nat}(h:E.Pairwise fun a b=>¬(a.dir=b.dir∧a.name=b.name)):((E.filter fun e=>e.dir==i).map (·.name)).Nodup:=by
 refine List.Pairwise.map (R:=fun a b:En=>a.name≠b.name) _ (fun a b h=>h) ?_;refine List.Pairwise.imp_of_mem ?_ (h.filter _);intro a b ha hb hne e;have h1:=(List.mem_filter.1 ha).2;have h2:=(List.mem_filter.1 hb).2;simp only[beq_iff_eq]at h1 h2;exact hne ⟨h1.trans h2.symm,e⟩
theorem names_mem{E:List En}{i:Nat}{x:List UInt8}:x∈(E.filter fun e=>e.dir==i).map (·.name)↔0≤look E i x:=by
 rw[look_mem,List.mem_map];constructor
 ·rintro⟨e,he,rfl⟩;obtain⟨h1,h2⟩:=List.mem_filter.1 he;exact⟨e,h1,by simpa using h2,rfl⟩
 ·rintro⟨e,he,h1,h2⟩;exact⟨e,List.mem_filter.2 ⟨he,by simpa using h1⟩,h2⟩
end Pz
end
theorem uO{k:Int}(h: -4611686018427387904≤k)(h2:k≤4611686018427387904):I64 k:=by
 unfold I64;exact WalkArith.wf_i64 (by omega)
theorem Ve{N:List Pz.Nd}{n:Nat}(h:Pz.isDir N n=true):n<N.length:=by
 unfold Pz.isDir at h;split at h
 ·rename_i x hx
  exact(List.getElem?_eq_some_iff.1 hx).1
 ·cases h
namespace Pz
theorem walk_snoc{S:Fil}{x:List UInt8}{o:Nat}:∀{L:List (List UInt8)} {i:Nat},walk S i L= .ok o→walk S i (L++[x])=if isDir S.N o then(if look S.E o x<0 then .error 10 else .ok (look S.E o x).toNat)else .error 12
 |[],i,h=>by
  rw[walk]at h
  cases h
  rw[List.nil_append,walk];rfl
 |y::L,i,h=>by
  rw[walk]at h;rw[List.cons_append,walk];split at h
  ·rename_i hd
   rw[if_pos hd];split at h
   ·cases h
   ·rename_i hl
    rw[if_neg hl];exact walk_snoc h
  ·cases h
theorem look_of_new{S:Fil}{p:List UInt8}{e:Int}{d:Nat}{x:List UInt8}(hf:find S p= .error e)(hp:place S p= .ok (d,x)):look S.E d x<0:=by
 obtain⟨L,hL,hw,hd⟩:=place_walk hp;unfold find at hf;rw[hL]at hf;simp only[]at hf;rw[walk_snoc hw,if_pos hd]at hf;split at hf
 ·assumption
 ·cases hf
theorem freeN_no{O:List Op}{cl:Int}:∀{m k:Nat},freeN O cl m k<k+m→ofd O cl (freeN O cl m k)<0
 |0,k,h=>by rw[freeN]at h;omega
 |m+1,k,h=>by
  rw[freeN]at h⊢;split
  ·rename_i hz
   rw[if_pos hz]at h;exact freeN_no (by omega)
  ·omega
theorem freeN_le{O:List Op}{cl:Int}:∀{m k:Nat},freeN O cl m k≤k+m
 |0,k=>by rw[freeN];omega
 |m+1,k=>by
  rw[freeN];split
  ·have:=freeN_le (O:=O) (cl:=cl) (m:=m) (k:=k+1)
   omega
  ·omega
theorem free_no{O:List Op}{cl:Int}{k:Nat}(h:free O cl=k)(hk:k<8):ofd O cl k<0:=by
 unfold free at h;have:=freeN_no (O:=O) (cl:=cl) (m:=8) (k:=0) (by omega)
 rwa [h]at this
theorem free_le{O:List Op}{cl:Int}:free O cl≤8:=by
 have:=freeN_le (O:=O) (cl:=cl) (m:=8) (k:=0)
 unfold free;omega
theorem Good.mono{K K':Nat}{S:Fil}(h:Good K S)(hK:K≤K'):Good K' S:=
 {
  h with
  n:=Nat.le_trans h.n hK
  e:=Nat.le_trans h.e hK
  o:=Nat.le_trans h.o hK
  links:=fun x hx=>⟨(h.links x hx).1,by have:=(h.links x hx).2;omega⟩}
theorem Good.take{K:Nat}{S:Fil}(h:Good K S)(d:Nat)(x:List UInt8):Good K {S with E:=take S.E d x}:=
 {
  h with
  ok:=ok_take h.ok d x
  e:=Nat.le_trans (take_le _ _ _) h.e
  name:=fun e he=>h.name e (List.mem_filter.1 he).1
  once:=h.once.sublist List.filter_sublist
  dirs:=fun e he=>h.dirs e (List.mem_filter.1 he).1}
theorem look_here{E:List En}{e:En}(h:e∈E):0≤look E e.dir e.name:=by
 induction E with
 |nil=>cases h
 |cons a r ih=>
  rw[look];split
  ·omega
  ·rename_i hn
   rcases List.mem_cons.1 h with rfl|h
   ·exact absurd ⟨rfl,rfl⟩ hn
   ·exact ih h
theorem ofd_there{O:List Op}{o:Op}(h:o∈O):0≤ofd O o.client o.fd:=by
 induction O with
 |nil=>cases h
 |cons a r ih=>
  rw[ofd];split
  ·omega
  ·rename_i hn
   rcases List.mem_cons.1 h with rfl|h
   ·exact absurd ⟨rfl,rfl⟩ hn
   ·exact ih h
theorem Good.addE{K:Nat}{S:Fil}(h:Good K S){d n:Nat}{x:List UInt8}(hd:isDir S.N d=true)(hx:Np.nameB x=true)(hl:look S.E d x<0)(hn:n<S.N.length):Good (K+1) {S with E:=S.E++[⟨d,x,n⟩]}:=
 {
  h.mono (Nat.le_succ K)with
  ok:=⟨h.ok.root,fun e he=>by
   rcases List.mem_append.1 he with he|he
   ·exact h.ok.ent e he
   ·obtain rfl:=List.mem_singleton.1 he
    exact⟨Ve hd,hn⟩,h.ok.opn⟩
  e:=by
   have:=h.e
   simp
   omega
  name:=fun e he=>by
   rcases List.mem_append.1 he with he|he
   ·exact h.name e he
   ·obtain rfl:=List.mem_singleton.1 he
    exact hx
  once:=by
   rw[List.pairwise_append];refine⟨h.once,List.pairwise_singleton _ _,fun a ha b hb=> ?_⟩;obtain rfl:=List.mem_singleton.1 hb
   rintro⟨e1,e2⟩;have:=look_here ha
   rw[e1,e2]at this;simp only at this
   omega
  dirs:=fun e he=>by
   rcases List.mem_append.1 he with he|he
   ·exact h.dirs e he
   ·obtain rfl:=List.mem_singleton.1 he
    exact hd}
theorem Good.set{K:Nat}{S:Fil}(h:Good K S)(n:Nat){y:Nd}(hd:y.dir=isDir S.N n)(hdat:y.data.length≤256)(hl:y.links≤20∧ -(K:Int)≤y.links):Good K {S with N:=S.N.set n y}:=
 {
  h with
  ok:=ok_set h.ok n y
  n:=by simpa using h.n
  data:=fun x hx=>by
   rcases List.mem_or_eq_of_mem_set hx with hx|rfl
   ·exact h.data x hx
   ·exact hdat
  links:=fun x hx=>by
   rcases List.mem_or_eq_of_mem_set hx with hx|rfl
   ·exact h.links x hx
   ·exact hl
  root:=by rw[isDir_set hd];exact h.root
  dirs:=fun e he=>by rw[isDir_set hd];exact h.dirs e he
  fds:=fun o ho=>by rw[isDir_set hd];exact h.fds o ho}
theorem isDir_old{N:List Nd}{y:Nd}{k:Nat}(hk:k<N.length):isDir (N++[y]) k=isDir N k:=by
 unfold isDir;rw[List.getElem?_append_left hk]
theorem isDir_new{N:List Nd}{y:Nd}:isDir (N++[y]) N.length=y.dir:=by
 unfold isDir;rw[List.getElem?_append_right (Nat.le_refl _)];simp
theorem Good.addN{K:Nat}{S:Fil}(h:Good K S){y:Nd}(hdat:y.data.length≤256)(hl:y.links≤20∧0≤y.links):Good (K+1) {S with N:=S.N++[y]}:=
 {
  h.mono (Nat.le_succ K)with
  ok:=⟨by simp,fun e he=>by have:=h.ok.ent e he;simp;omega,fun o ho=>by have:=h.ok.opn o ho;simp;omega⟩
  n:=by have:=h.n;simp;omega
  data:=fun x hx=>by
   rcases List.mem_append.1 hx with hx|hx
   ·exact h.data x hx
   ·obtain rfl:=List.mem_singleton.1 hx
    exact hdat
  links:=fun x hx=>by
   rcases List.mem_append.1 hx with hx|hx
   ·have:=h.links x hx
    exact⟨this.1,by omega⟩
   ·obtain rfl:=List.mem_singleton.1 hx
    exact⟨hl.1,by omega⟩
  root:=by rw[isDir_old h.ok.root];exact h.root
  dirs:=fun e he=>by rw[isDir_old (h.ok.ent e he).1];exact h.dirs e he
  fds:=fun o ho=>by rw[isDir_old (h.ok.opn o ho)];exact h.fds o ho}
theorem Good.addO{K:Nat}{S:Fil}(h:Good K S){c fd:Int}{n:Nat}(hno:ofd S.O c fd<0)(hn:n<S.N.length)(hd:isDir S.N n=false):Good (K+1) {S with O:=S.O++[⟨c,fd,n⟩]}:=
 {
  h.mono (Nat.le_succ K)with
  ok:=⟨h.ok.root,h.ok.ent,fun o ho=>by
   rcases List.mem_append.1 ho with ho|ho
   ·exact h.ok.opn o ho
   ·obtain rfl:=List.mem_singleton.1 ho
    exact hn⟩
  o:=by have:=h.o;simp;omega
  one:=by
   rw[List.pairwise_append];refine⟨h.one,List.pairwise_singleton _ _,fun a ha b hb=> ?_⟩;obtain rfl:=List.mem_singleton.1 hb
   rintro⟨e1,e2⟩;have:=ofd_there ha
   rw[e1,e2]at this;simp only at this
   omega
  fds:=fun o ho=>by
   rcases List.mem_append.1 ho with ho|ho
   ·exact h.fds o ho
   ·obtain rfl:=List.mem_singleton.1 ho
    exact hd}
theorem Good.fltO{K:Nat}{S:Fil}(h:Good K S)(q:Op→Bool):Good K {S with O:=S.O.filter q}:=
 {
  h with
  ok:=⟨h.ok.root,h.ok.ent,fun o ho=>h.ok.opn o (List.mem_filter.1 ho).1⟩
  o:=Nat.le_trans (List.length_filter_le _ _) h.o
  one:=h.one.sublist List.filter_sublist
  fds:=fun o ho=>h.fds o (List.mem_filter.1 ho).1}
theorem Good.over{K:Nat}{S:Fil}(h:Good K S)(z:Int)(q:Nat×List UInt8):Good (K+1) (over S z q):=by
 unfold Pz.over;split
 ·rename_i hz
  simp only
  split
  ·exact(h.take _ _).mono (Nat.le_succ K)
  ·by_cases hl:z.toNat<S.N.length
   ·have h1:=nodeD_links h hl;have h2:=nodeD_data h hl;exact((h.take q.1 q.2).mono (Nat.le_succ K)).set z.toNat (nodeD_dir _ _) h2 ⟨by simp only;omega,by simp only;omega⟩
   ·rw[List.set_eq_of_length_le (by omega)];exact(h.take _ _).mono (Nat.le_succ K)
 ·exact h.mono (Nat.le_succ K)
theorem over_dir{S:Fil}(z:Int)(q:Nat×List UInt8)(k:Nat):isDir (over S z q).N k=isDir S.N k:=by
 unfold over;split
 ·simp only
  split
  ·rfl
  ·exact isDir_set (by simp[nodeD_dir]) k
 ·rfl
def Few(S:Fil):Prop:=∀o∈S.O,(1≤o.client∧o.client≤8)∧0≤o.fd∧o.fd≤7
theorem opens_good{K:Nat}{S:Fil}(h:Good K S)(hf:Few S){cl flags:Int}{p:List UInt8}(hc:1≤cl∧cl≤8):Good (K+3) (opens S cl flags p).1∧Few (opens S cl flags p).1:=by
 have hS:Good (K+3) S∧Few S:=⟨h.mono (by omega),hf⟩;have hfree:¬free S.O cl=8→ofd S.O cl (free S.O cl)<0∧free S.O cl≤7:=fun hn=>by
  have:=free_le (O:=S.O) (cl:=cl)
  exact⟨free_no rfl (by omega),by omega⟩
 have few:∀k:Nat,k≤7→∀n:Nat,∀o∈S.O++[(⟨cl,k,n⟩:Op)],(1≤o.client∧o.client≤8)∧0≤o.fd∧o.fd≤7:=fun k hk n o ho=>by
  rcases List.mem_append.1 ho with ho|ho
  ·exact hf o ho
  ·obtain rfl:=List.mem_singleton.1 ho
   exact⟨hc,by simp only;omega,by simp only;omega⟩
 unfold opens;split
 ·exact hS
 split
 ·rename_i n hn
  split
  ·exact hS
  split
  ·exact hS
  rename_i hd
  split
  ·exact hS
  rename_i h8
  obtain⟨h1,h2⟩:=hfree h8;exact⟨(h.addO h1 (find_lt h.ok hn) (by simpa using hd)).mono (by omega),few _ h2 _⟩
 ·rename_i e he
  split
  ·split
   ·exact hS
   ·rename_i q hq
    split
    ·exact hS
    rename_i h8
    obtain⟨h1,h2⟩:=hfree h8;have hpl:=place_lt h.ok hq;refine⟨?_,few _ h2 _⟩;have g1:=h.addN (y:=⟨false,[],1⟩) (by simp) (by simp);have g2:=g1.addE (d:=q.1) (x:=q.2) (n:=S.N.length) (by simp only;rw[isDir_old hpl.1];exact hpl.2) (place_name hq) (show look S.E q.1 q.2<0 from look_of_new he hq) (by simp);have g3:=g2.addO (c:=cl) (fd:=free S.O cl) (n:=S.N.length) h1 (by simp) (by simp only;rw[isDir_new]);exact g3
  ·exact hS
theorem mkdir_good{K:Nat}{S:Fil}(h:Good K S){p:List UInt8}:Good (K+3) (mkdir S p).1∧(mkdir S p).1.O=S.O:=by
 unfold mkdir;split
 ·exact⟨h.mono (by omega),rfl⟩
 ·rename_i e he
  split
  ·exact⟨h.mono (by omega),rfl⟩
  ·rename_i q hq
   have hpl:=place_lt h.ok hq;have g1:=h.addN (y:=⟨true,[],1⟩) (by simp) (by simp);have g2:=g1.addE (d:=q.1) (x:=q.2) (n:=S.N.length) (by simp only;rw[isDir_old hpl.1];exact hpl.2) (place_name hq) (show look S.E q.1 q.2<0 from look_of_new he hq) (by simp);exact⟨g2.mono (by omega),rfl⟩
theorem rmdir_good{K:Nat}{S:Fil}(h:Good K S){p:List UInt8}:Good (K+3) (rmdirR S p).1∧(rmdirR S p).1.O=S.O:=by
 have hS:Good (K+3) S∧S.O=S.O:=⟨h.mono (by omega),rfl⟩;unfold rmdirR;split
 ·exact hS
 split
 ·exact hS
 split
 ·split
  ·exact hS
  split
  ·exact hS
  ·exact⟨(h.take _ _).mono (by omega),rfl⟩
 ·exact hS
theorem link_good{K:Nat}{S:Fil}(h:Good K S){p p2:List UInt8}:Good (K+3) (link S p p2).1∧(link S p p2).1.O=S.O:=by
 have hS:Good (K+3) S∧S.O=S.O:=⟨h.mono (by omega),rfl⟩;unfold link;split
 ·exact hS
 split
 ·exact hS
 rename_i n hn
 split
 ·exact hS
 split
 ·exact hS
 split
 ·exact hS
 rename_i q hq
 split
 ·exact hS
 rename_i hl
 split
 ·exact hS
 rename_i h20
 have hlt:=find_lt h.ok hn;have h1:=nodeD_links h hlt;have g1:=(h.addE (place_lt h.ok hq).2 (place_name hq) (by omega) hlt).set n (y:={nodeD S.N n with links:=(nodeD S.N n).links+1}) (nodeD_dir _ _) (nodeD_data h hlt) ⟨by simp only;omega,by simp only;omega⟩;exact⟨g1.mono (by omega),rfl⟩
theorem unlink_good{K:Nat}{S:Fil}(h:Good K S){p:List UInt8}:Good (K+3) (unlink S p).1∧(unlink S p).1.O=S.O:=by
 have hS:Good (K+3) S∧S.O=S.O:=⟨h.mono (by omega),rfl⟩;unfold unlink;split
 ·exact hS
 rename_i n hn
 split
 ·exact hS
 split
 ·exact hS
 rename_i q hq
 have hlt:=find_lt h.ok hn;have h1:=nodeD_links h hlt;have g1:=((h.take q.1 q.2).mono (Nat.le_succ K)).set n (y:={nodeD S.N n with links:=(nodeD S.N n).links-1}) (nodeD_dir _ _) (nodeD_data h hlt) ⟨by simp only;omega,by simp only;omega⟩;exact⟨g1.mono (by omega),rfl⟩
theorem rename_good{K:Nat}{S:Fil}(h:Good K S){p p2:List UInt8}:Good (K+3) (rename S p p2).1∧(rename S p p2).1.O=S.O:=by
 have hS:Good (K+3) S∧S.O=S.O:=⟨h.mono (by omega),rfl⟩;unfold rename;split
 ·exact hS
 split
 ·exact hS
 rename_i n hn
 split
 ·exact hS
 split
 ·exact hS
 rename_i q hq
 split
 ·exact hS
 split
 ·exact hS
 split
 ·exact hS
 rename_i o ho
 obtain⟨z,hz⟩:=nm (look S.E q.1 q.2);rw[←hz];have g1:=(h.over z q).take o.1 o.2;have hl:look (take (over S z q).E o.1 o.2) q.1 q.2<0:=by
  by_cases hoq:q.1=o.1∧q.2=o.2
  ·rw[hoq.1,hoq.2,look_take_same];omega
  ·rw[look_take_other hoq];unfold over;split
   ·simp only
    rw[look_take_same];omega
   ·rename_i hneg
    rw[←hz];omega
 have g2:=g1.addE (d:=q.1) (x:=q.2) (n:=n) (by simp only;rw[over_dir];exact(place_lt h.ok hq).2) (place_name hq) hl (by simp only;rw[(over_len z q).1];exact find_lt h.ok hn);exact⟨g2.mono (by omega),(over_len z q).2.2⟩
theorem laid_len{s d:List UInt8}{o:Nat}:(laid s o d).length=max s.length (o+d.length):=by
 unfold laid;rw[List.length_append,List.length_append,sized_len,List.length_drop];omega
theorem file_good{K:Nat}{S:Fil}(h:Good K S)(hf:Few S){cl:Int}{n:Nat}{kind fd off m:Int}{d:List UInt8}(hn:n<S.N.length):Good (K+3) (file S cl n kind fd off m d).1∧Few (file S cl n kind fd off m d).1:=by
 have hS:Good (K+3) S∧Few S:=⟨h.mono (by omega),hf⟩;have h1:=nodeD_links h hn;have h2:=nodeD_data h hn;unfold file;split
 ·exact⟨(h.fltO _).mono (by omega),fun o ho=>hf o (List.mem_filter.1 ho).1⟩
 split
 ·exact hS
 split
 ·split
  ·exact hS
  split
  ·exact hS
  split
  ·exact hS
  ·exact⟨(h.set n (y:={nodeD S.N n with data:=laid (nodeD S.N n).data off.toNat d}) (nodeD_dir _ _) (by simp only;rw[laid_len];omega) h1).mono (by omega),hf⟩
 split
 ·split
  ·exact hS
  split
  ·exact hS
  ·exact⟨(h.set n (y:={nodeD S.N n with data:=sized (nodeD S.N n).data m.toNat}) (nodeD_dir _ _) (by simp only;rw[sized_len];omega) h1).mono (by omega),hf⟩
 ·exact hS
theorem few_same{S T:Fil}(h:Few S)(e:T.O=S.O):Few T:=by
 unfold Few;rw[e];exact h
theorem do_good{K:Nat}{S:Fil}(h:Good K S)(hf:Few S)(cl kind:Int)(p p2:List UInt8)(flags fd off m:Int)(d:List UInt8):Good (K+3) (doA S cl kind p p2 flags fd off m d).1∧Few (doA S cl kind p p2 flags fd off m d).1:=by
 have hS:Good (K+3) S∧Few S:=⟨h.mono (by omega),hf⟩;unfold doA;split
 ·exact hS
 rename_i hc
 split
 ·exact opens_good h hf (by omega)
 split
 ·split
  ·exact hS
  ·rename_i hz
   have:=ofd_lt (c:=cl) (fd:=fd) h.ok.opn
   exact file_good h hf (by omega)
 split
 ·exact⟨(mkdir_good h).1,few_same hf (mkdir_good h).2⟩
 split
 ·exact⟨(rmdir_good h).1,few_same hf (rmdir_good h).2⟩
 split
 ·exact⟨(link_good h).1,few_same hf (link_good h).2⟩
 split
 ·exact⟨(unlink_good h).1,few_same hf (unlink_good h).2⟩
 split
 ·exact⟨(rename_good h).1,few_same hf (rename_good h).2⟩
 split
 ·exact hS
 ·exact hS
theorem drop_good{K:Nat}{S:Fil}(h:Good K S)(hf:Few S)(cl:Int):Good K {S with O:=drop S.O cl}∧Few {S with O:=drop S.O cl}:=
 ⟨h.fltO _,fun o ho=>hf o (List.mem_filter.1 ho).1⟩
theorem new_good:Good 1 qu∧Few qu:=
 ⟨{
  ok:=⟨by decide,fun e he=>by simp[qu]at he,fun o ho=>by simp[qu]at ho⟩
  n:=by decide
  e:=by decide
  o:=by decide
  data:=fun x hx=>by simp[qu]at hx;subst hx;decide
  links:=fun x hx=>by simp[qu]at hx;subst hx;decide
  name:=fun e he=>by simp[qu]at he
  once:=List.Pairwise.nil
  one:=List.Pairwise.nil
  root:=rfl
  dirs:=fun e he=>by simp[qu]at he
  fds:=fun o ho=>by simp[qu]at ho},fun o ho=>by simp[qu]at ho⟩
theorem Few.i64{S:Fil}(h:Few S):∀o∈S.O,I64 o.client∧I64 o.fd:=fun o ho=>by
 have:=h o ho
 exact⟨uO (by omega) (by omega),uO (by omega) (by omega)⟩
end Pz
theorem xP(q:Pz.Rep)(A A':Option Addr)(c c' B:Nat)(w:World)(hl:q.names.length≤1000000)(hS:jb w B A q.names)(hS':jb w B A' q.names):
 Calls prog 38 #[xf q A c,xf q A' c'] w fun e w'=>e= .returned (.bool true)∧Below w.heap.size w w':=by
 obtain⟨e0,e1,e2,e3,e4,e5,e6⟩:=q;unfold xf;obtain⟨w2,hw2⟩:=nm (((w.alloc (.cells #[.int .i64 e0,.int .i64 e1,.string ⟨e2.toArray⟩,.slice A e3.length c,.int .i64 e4,.int .i64 e5,.int .i64 e6] 56)).alloc (.cells #[.int .i64 e0,.int .i64 e1,.string ⟨e2.toArray⟩,.slice A' e3.length c',.int .i64 e4,.int .i64 e5,.int .i64 e6] 56)));have hb2:Below w.heap.size w w2:=by rw[hw2];exact((Below.refl _ _).alloc (Nat.le_refl _) _).alloc (by simp) _
 have h1:w2.heap[w.heap.size]? =some (.cells #[.int .i64 e0,.int .i64 e1,.string ⟨e2.toArray⟩,.slice A e3.length c,.int .i64 e4,.int .i64 e5,.int .i64 e6] 56 (0,0)):=by
  rw[hw2,Below.heap_alloc _ _ _ (by simp)];exact heap_alloc_new _ _
 have h2:w2.heap[w.heap.size+1]? =some (.cells #[.int .i64 e0,.int .i64 e1,.string ⟨e2.toArray⟩,.slice A' e3.length c',.int .i64 e4,.int .i64 e5,.int .i64 e6] 56 (0,0)):=by
  rw[hw2];exact heap_alloc2_new _ _ _
 have hs2:w2.heap.size=w.heap.size+2:=by rw[hw2];simp
 have hq:=Yx A A' e3 e3 c c' B w2 hl hl (hS.keep hb2) (hS'.keep hb2);rw[decide_eq_true rfl]at hq;have HQ:=hid hq;have HW2:=hid hw2;have HB:=hid (fun(W:World) (hb:Below w2.heap.size w2 W)=>And.intro ((hb.block w.heap.size (by omega)).trans h1) (And.intro ((hb.block (w.heap.size+1) (by omega)).trans h2) (hb2.trans (hb.mono (by omega)))));clear hl hS hS' hq hw2 h1 h2 hb2 hs2;go_enter func38,ntmps38;go_wp2_with fail
 rw[←HW2.o];refine HQ.o.mono ?_;rintro e w3 ⟨rfl,hb3⟩;obtain⟨h1,h2,h3⟩:=HB.o _ hb3;have HB3:=hid h3;have a0:=cell_of_row w3 _ 0 _ _ _ h1;have a1:=cell_of_row w3 _ 1 _ _ _ h1;have a2:=cell_of_row w3 _ 2 _ _ _ h1;have a4:=cell_of_row w3 _ 4 _ _ _ h1;have a5:=cell_of_row w3 _ 5 _ _ _ h1;have a6:=cell_of_row w3 _ 6 _ _ _ h1;have b0:=cell_of_row w3 _ 0 _ _ _ h2;have b1:=cell_of_row w3 _ 1 _ _ _ h2;have b2:=cell_of_row w3 _ 2 _ _ _ h2;have b4:=cell_of_row w3 _ 4 _ _ _ h2;have b5:=cell_of_row w3 _ 5 _ _ _ h2;have b6:=cell_of_row w3 _ 6 _ _ _ h2;clear h1 h2 h3 hb3;go_wp2;go_ret
 exact⟨rfl,HB3.o⟩
section
namespace Pz
theorem look_snoc(E:List En)(e:En)(i:Nat)(x:List UInt8):look (E++[e]) i x=if 0≤look E i x then look E i x else if e.dir=i∧e.name=x then(e.node:Int)else-1:=by
 induction E with
 |nil=>
  rw[List.nil_append,if_neg (show ¬(0:Int)≤look [] i x from by rw[look];omega),look];rfl
 |cons a r ih=>
  rw[List.cons_append,look,look];by_cases h:a.dir=i∧a.name=x
  ·rw[if_pos h,if_pos h,if_pos (by omega)]
  ·rw[if_neg h,if_neg h,ih]
theorem look_take(E:List En)(d:Nat)(s:List UInt8)(i:Nat)(x:List UInt8):look (take E d s) i x=if i=d∧x=s then-1 else look E i x:=by
 unfold take;induction E with
 |nil=>
  rw[List.filter_nil,look];split<;>rfl
 |cons a r ih=>
  rw[List.filter_cons];by_cases h:a.dir=d∧a.name=s
  ·rw[if_neg (by simpa using h),ih,look];by_cases h2:i=d∧x=s
   ·rw[if_pos h2,if_pos h2]
   ·rw[if_neg h2,if_neg h2,if_neg (fun e=>h2 ⟨e.1.symm.trans h.1,e.2.symm.trans h.2⟩)]
  ·rw[if_pos (decide_eq_true h),look,look,ih];by_cases h3:a.dir=i∧a.name=x
   ·rw[if_pos h3,if_pos h3,if_neg (fun e=>h ⟨h3.1.trans e.1,h3.2.trans e.2⟩)]
   ·rw[if_neg h3,if_neg h3]
theorem look_no{E:List En}{i:Nat}(h:∀e∈E,e.dir<i)(x:List UInt8):look E i x= -1:=by
 induction E with
 |nil=>rfl
 |cons a r ih=>
  rw[look,if_neg (fun e=>by have:=h a (List.mem_cons_self ..);omega)];exact ih fun e he=>h e (List.mem_cons_of_mem _ he)
end Pz
namespace Gd
theorem kinds{x:Ino}(h:mayI x=true):x.k=0∨x.k=1∨x.k=2:=by
 unfold mayI at h;by_cases h0:x.k=0
 ·exact Or.inl h0
 ·rw[if_neg h0]at h;by_cases h1:x.k=1
  ·exact Or.inr (Or.inl h1)
  ·rw[if_neg h1]at h;by_cases h2:x.k=2
   ·exact Or.inr (Or.inr h2)
   ·rw[if_neg h2]at h
    cases h
structure Rel(M:Vol)(T:Nat→Tab)(S:Pz.Fil)(φ:Nat→Nat):Prop where
 hold:Hold M T
 root:(M.ino 1).k=2∧φ 1=0
 inj:∀i j,1≤i→i≤32→1≤j→j≤32→(M.ino i).k≠0→(M.ino j).k≠0→φ i=φ j→i=j
 lt:∀i,1≤i→i≤32→(M.ino i).k≠0→φ i<S.N.length
 dir:∀i,1≤i→i≤32→(M.ino i).k=2→Pz.isDir S.N (φ i)=true
 file:∀i,1≤i→i≤32→(M.ino i).k=1→S.N[φ i]? =some ⟨false,[],(M.ino i).l⟩
 look:∀d,1≤d→d≤32→(M.ino d).k=2→∀x,Pz.look S.E (φ d) x=if dirE (T d) x=0 then-1 else(φ (dirE (T d) x):Int)
 live:∀d,1≤d→d≤32→(M.ino d).k=2→∀x,dirE (T d) x≠0→(M.ino (dirE (T d) x)).k≠0
section
variable {M N:Vol} {T:Nat→Tab} {S:Pz.Fil} {φ:Nat→Nat}
theorem Rel.notDir(h:Rel M T S φ){i:Nat}(i1:1≤i)(i2:i≤32)(hk:(M.ino i).k=1):Pz.isDir S.N (φ i)=false:=by
 unfold Pz.isDir;rw[h.file i i1 i2 hk]
theorem Rel.kind(h:Rel M T S φ){i:Nat}(i1:1≤i)(i2:i≤32)(hk:(M.ino i).k≠0):Pz.isDir S.N (φ i)=decide ((M.ino i).k=2):=by
 rcases kinds (h.hold.may i i1 i2).2 with h0|h1|h2
 ·exact absurd h0 hk
 ·rw[h.notDir i1 i2 h1,h1];rfl
 ·rw[h.dir i i1 i2 h2,h2];rfl
theorem ent_dirE(h:Hold M T){d:Nat}(d1:1≤d)(d2:d≤32)(hk:(M.ino d).k=2){e:Ent}(he:e∈T d)(hne:e≠noEnt):dirE (T d) e.s=e.i∧e.i≠0:=by
 obtain⟨j,hj⟩:=List.mem_iff_getElem?.1 he;have hD:=h.dir d d1 d2 hk;have hjl:j<16:=by
  have:=(List.getElem?_eq_some_iff.1 hj).1
  rw[hD.ok.len]at this;exact this
 rw[entAt_get hD.ok.len hjl]at hj;have hj:=Option.some.inj hj;rcases hD.ok.may e he with h0|⟨h0,h1,_⟩
 ·exact absurd h0 hne
 ·refine⟨?_,by omega⟩;rw[dirE_at (h.uniq d d1 d2 hk) hjl (Np.name_ne h0) (by rw[hj]),hj]
theorem Rel.tree(h:Rel M T S φ):Tree M T:=⟨h.root.1,h.hold.dir,fun d d1 d2 hk e he hne=>by
 obtain⟨e1,e2⟩:=ent_dirE h.hold d1 d2 hk he hne;have:=h.live d d1 d2 hk e.s (by rw[e1];exact e2)
 rwa [e1]at this⟩
theorem Chg.kindAll{d:Nat}{X:Tab}(h:Chg M T N d X)(q:Nat):(N.ino q).k=(M.ino q).k:=by
 by_cases e:q=d
 ·rw[e];exact h.kind
 ·rw[h.other q e]
theorem Chg.linkAll{d:Nat}{X:Tab}(h:Chg M T N d X)(q:Nat):(N.ino q).l=(M.ino q).l:=by
 by_cases e:q=d
 ·rw[e];exact h.link
 ·rw[h.other q e]
theorem Chg.opensAll{d:Nat}{X:Tab}(h:Chg M T N d X)(q:Nat):(N.ino q).O=(M.ino q).O:=by
 by_cases e:q=d
 ·rw[e];exact h.opens
 ·rw[h.other q e]
theorem Rel.put(h:Rel M T S φ){d j i:Nat}{s:List UInt8}(d1:1≤d)(d2:d≤32)(hk:(M.ino d).k=2)(hj:j<16)(he:entAt (T d) j=noEnt)(hs:s≠[])(hf:findT (T d) s (hN s)=none)(i1:1≤i)(hi:(M.ino i).k≠0)(hc:Chg M T N d (setT (T d) j ⟨s,i⟩)):
 Rel N (upd T d (setT (T d) j ⟨s,i⟩)) {S with E:=S.E++[⟨φ d,s,φ i⟩]} φ:=by
 have hK:=hc.kindAll;have hL:=hc.linkAll;have hdE:=fun x=>dirE_put (h.hold.uniq d d1 d2 hk) (h.hold.dir d d1 d2 hk).ok (i:=i) hj he hs (find_none hf hs) x;have h0:dirE (T d) s=0:=(dirE_zero (h.hold.dir d d1 d2 hk).ok hs).2 hf;refine⟨hc.hold,⟨by rw[hK];exact h.root.1,h.root.2⟩,fun a b a1 a2 b1 b2 ha hb=> ?_,fun a a1 a2 ha=> ?_,fun a a1 a2 ha=> ?_,fun a a1 a2 ha=> ?_,fun q q1 q2 hq x=> ?_,fun q q1 q2 hq x hx=> ?_⟩
 ·rw[hK]at ha hb;exact h.inj a b a1 a2 b1 b2 ha hb
 ·rw[hK]at ha;exact h.lt a a1 a2 ha
 ·rw[hK]at ha;exact h.dir a a1 a2 ha
 ·rw[hK]at ha;rw[hL];exact h.file a a1 a2 ha
 ·rw[hK]at hq;rw[Pz.look_snoc,h.look q q1 q2 hq];by_cases e:q=d
  ·subst e;rw[upd_same,hdE];by_cases hx:x=s
   ·subst hx;rw[h0,if_pos rfl,if_neg (by omega),if_pos ⟨rfl,rfl⟩,if_pos rfl,if_neg (by omega)]
   ·rw[if_neg hx];by_cases hz:dirE (T q) x=0
    ·rw[if_pos hz,if_neg (by omega),if_neg (fun e=>hx e.2.symm)]
    ·rw[if_neg hz,if_pos (by omega)]
  ·rw[upd_other e];by_cases hz:dirE (T q) x=0
   ·rw[if_pos hz,if_neg (by omega),if_neg];intro e2;exact e (h.inj q d q1 q2 d1 d2 (by omega) (by omega) e2.1.symm)
   ·rw[if_neg hz,if_pos (by omega)]
 ·rw[hK]at hq⊢;by_cases e:q=d
  ·subst e;rw[upd_same,hdE]at hx⊢;by_cases hxs:x=s
   ·rw[if_pos hxs];exact hi
   ·rw[if_neg hxs]at hx⊢;exact h.live q q1 q2 hq x hx
  ·rw[upd_other e]at hx⊢;exact h.live q q1 q2 hq x hx
theorem Rel.take(h:Rel M T S φ){d:Nat}{j:Fin 16}{s:List UInt8}(d1:1≤d)(d2:d≤32)(hk:(M.ino d).k=2)(hf:findT (T d) s (hN s)=some j)(hc:Chg M T N d (setT (T d) j.val noEnt)):
 Rel N (upd T d (setT (T d) j.val noEnt)) {S with E:=Pz.take S.E (φ d) s} φ:=by
 have hK:=hc.kindAll;have hL:=hc.linkAll;obtain⟨he,hs⟩:=find_some hf;have hdE:=fun x=>dirE_take (h.hold.uniq d d1 d2 hk) (h.hold.dir d d1 d2 hk).ok j.isLt he hs x;refine⟨hc.hold,⟨by rw[hK];exact h.root.1,h.root.2⟩,fun a b a1 a2 b1 b2 ha hb=> ?_,fun a a1 a2 ha=> ?_,fun a a1 a2 ha=> ?_,fun a a1 a2 ha=> ?_,fun q q1 q2 hq x=> ?_,fun q q1 q2 hq x hx=> ?_⟩
 ·rw[hK]at ha hb;exact h.inj a b a1 a2 b1 b2 ha hb
 ·rw[hK]at ha;exact h.lt a a1 a2 ha
 ·rw[hK]at ha;exact h.dir a a1 a2 ha
 ·rw[hK]at ha;rw[hL];exact h.file a a1 a2 ha
 ·rw[hK]at hq;rw[Pz.look_take,h.look q q1 q2 hq];by_cases e:q=d
  ·subst e;rw[upd_same,hdE];by_cases hx:x=s
   ·rw[if_pos ⟨rfl,hx⟩,if_pos hx,if_pos rfl]
   ·rw[if_neg (fun e=>hx e.2),if_neg hx]
  ·rw[upd_other e,if_neg];intro e2;exact e (h.inj q d q1 q2 d1 d2 (by omega) (by omega) e2.1)
 ·rw[hK]at hq⊢;by_cases e:q=d
  ·subst e;rw[upd_same,hdE]at hx⊢;by_cases hxs:x=s
   ·rw[if_pos hxs]at hx;exact absurd rfl hx
   ·rw[if_neg hxs]at hx⊢;exact h.live q q1 q2 hq x hx
  ·rw[upd_other e]at hx⊢;exact h.live q q1 q2 hq x hx
theorem setIno_at(M:Vol)(d:Nat)(y:Ino):(M.setIno d y).ino d=y:=if_pos rfl
theorem setIno_other(M:Vol){i q:Nat}(y:Ino)(h:q≠i):(M.setIno i y).ino q=M.ino q:=if_neg h
theorem Hold.zero{i:Nat}(h:Hold M T)(i1:1≤i)(i2:i≤32)(hk:(M.ino i).k=1):∀(k:Nat) (n:Int),(M.ino i).B[k]? =some n→n=0:=fun k n hkn=>by
 rw[(h.file i i1 i2 hk).1]at hkn;have:n∈[(0:Int),0,0,0]:=List.mem_of_getElem? hkn
 simpa using this
theorem Rel.setF(h:Rel M T S φ){i:Nat}{y:Ino}(i1:1≤i)(i2:i≤32)(hk:(M.ino i).k=1)(hy:y.Shape)(hm:mayI y=true)(hyk:y.k=1)(hyB:y.B=[0,0,0,0])(hys:y.s=0):
 Rel (M.setIno i y) T {S with N:=S.N.set (φ i) ⟨false,[],y.l⟩} φ:=by
 have hK:∀q,((M.setIno i y).ino q).k=(M.ino q).k:=fun q=>by
  by_cases e:q=i
  ·rw[e,setIno_at,hyk,hk]
  ·rw[setIno_other M y e]
 have hlt:=h.lt i i1 i2 (by omega);have hnd:=h.notDir i1 i2 hk;refine⟨h.hold.setIno hy hm (h.hold.zero i1 i2 hk) hyB hys (fun e=>by omega),⟨by rw[hK];exact h.root.1,h.root.2⟩,fun a b a1 a2 b1 b2 ha hb=> ?_,fun a a1 a2 ha=> ?_,fun a a1 a2 ha=> ?_,fun a a1 a2 ha=> ?_,fun q q1 q2 hq x=> ?_,fun q q1 q2 hq x hx=> ?_⟩
 ·rw[hK]at ha hb;exact h.inj a b a1 a2 b1 b2 ha hb
 ·rw[hK]at ha;show φ a<(S.N.set (φ i) _).length
  rw[List.length_set];exact h.lt a a1 a2 ha
 ·rw[hK]at ha;have hne:φ i≠φ a:=fun e=>by
   have:=h.inj i a i1 i2 a1 a2 (by omega) (by omega) e
   subst this;omega
  have:=h.dir a a1 a2 ha
  unfold Pz.isDir at this⊢;show(match (S.N.set (φ i) _)[φ a]? with|some x=>x.dir|none=>false)=true
  rw[List.getElem?_set_ne hne];exact this
 ·rw[hK]at ha;show(S.N.set (φ i) _)[φ a]? =_
  by_cases e:a=i
  ·subst e;rw[List.getElem?_set_self hlt,setIno_at]
  ·rw[List.getElem?_set_ne (fun e2=>e (h.inj i a i1 i2 a1 a2 (by omega) (by omega) e2).symm),setIno_other M y e];exact h.file a a1 a2 ha
 ·rw[hK]at hq;exact h.look q q1 q2 hq x
 ·rw[hK]at hq⊢;exact h.live q q1 q2 hq x hx
theorem Rel.setF_same(h:Rel M T S φ){i:Nat}{y:Ino}(i1:1≤i)(i2:i≤32)(hk:(M.ino i).k=1)(hy:y.Shape)(hm:mayI y=true)(hyk:y.k=1)(hyB:y.B=[0,0,0,0])(hys:y.s=0)(hyl:y.l=(M.ino i).l):Rel (M.setIno i y) T S φ:=by
 have h1:=h.setF i1 i2 hk hy hm hyk hyB hys;have h2:=h.file i i1 i2 hk;obtain⟨h3,h4⟩:=List.getElem?_eq_some_iff.1 h2;rw[hyl,←h4,List.set_getElem_self]at h1;exact h1
theorem Rel.drop(h:Rel M T S φ){i:Nat}(i1:1≤i)(i2:i≤32)(hi:i≠1)(hB:∀(k:Nat) (n:Int),(M.ino i).B[k]? =some n→n=0)(hno:∀d,1≤d→d≤32→(M.ino d).k=2→∀x,dirE (T d) x≠i):
 Rel (M.setIno i noIno) T S φ:=by
 have hK:∀q,((M.setIno i noIno).ino q).k≠0→q≠i∧(M.setIno i noIno).ino q=M.ino q:=fun q hq=>by
  by_cases e:q=i
  ·rw[e,setIno_at]at hq;exact absurd rfl hq
  ·exact⟨e,setIno_other M _ e⟩
 refine⟨h.hold.setIno ⟨rfl,rfl⟩ (by decide) hB rfl rfl (fun e=>absurd e (by decide)),⟨by rw[setIno_other M _ (fun e=>hi e.symm)];exact h.root.1,h.root.2⟩,fun a b a1 a2 b1 b2 ha hb=> ?_,fun a a1 a2 ha=> ?_,fun a a1 a2 ha=> ?_,fun a a1 a2 ha=> ?_,fun q q1 q2 hq x=> ?_,fun q q1 q2 hq x hx=> ?_⟩
 ·obtain⟨-,e1⟩:=hK a ha;obtain⟨-,e2⟩:=hK b hb;rw[e1]at ha;rw[e2]at hb;exact h.inj a b a1 a2 b1 b2 ha hb
 ·obtain⟨-,e1⟩:=hK a ha;rw[e1]at ha;exact h.lt a a1 a2 ha
 ·obtain⟨-,e1⟩:=hK a (by omega);rw[e1]at ha;exact h.dir a a1 a2 ha
 ·obtain⟨-,e1⟩:=hK a (by omega);rw[e1]at ha⊢;exact h.file a a1 a2 ha
 ·obtain⟨-,e1⟩:=hK q (by omega);rw[e1]at hq;exact h.look q q1 q2 hq x
 ·obtain⟨-,e1⟩:=hK q (by omega);rw[e1]at hq;rw[setIno_other M _ (hno q q1 q2 hq x)];exact h.live q q1 q2 hq x hx
theorem Hold.bare(h:Hold M T){i:Nat}(i1:1≤i)(i2:i≤32)(hk:(M.ino i).k=2)(hn:namedT (T i) 16=0):∀(k:Nat) (n:Int),(M.ino i).B[k]? =some n→n=0:=fun k n hkn=>by
 by_cases h0:n=0
 ·exact h0
 ·have hu:=h.empt i i1 i2 hk k n hkn h0;unfold usedT at hu;rw[List.any_eq_true]at hu;obtain⟨e,he,hne⟩:=hu;have hne:e≠noEnt:=by simpa using hne
  have hmem:e∈T i:=List.mem_of_mem_drop (List.mem_of_mem_take he);unfold namedT at hn;rw[List.take_of_length_le (by rw[(h.dir i i1 i2 hk).ok.len];omega),List.length_eq_zero_iff,List.filter_eq_nil_iff]at hn;have:=hn e hmem
  rcases(h.dir i i1 i2 hk).ok.may e hmem with e1|⟨e1,_⟩
  ·exact absurd e1 hne
  ·exact absurd (by simpa using Np.name_ne e1) this
theorem Rel.new(h:Rel M T S φ)(hS:Pz.Ok S){f:Nat}{y:Ino}(f1:1≤f)(f2:f≤32)(hk:(M.ino f).k=0)(hy:y.Shape)(hm:mayI y=true)(hyk:y.k=1∨y.k=2)(hyB:y.B=[0,0,0,0])(hys:y.s=0)(hyl:y.l=1):
 Rel (M.setIno f y) (upd T f noTab) {S with N:=S.N++[⟨decide (y.k=2),[],1⟩]} (fun q=>if q=f then S.N.length else φ q):=by
 have hfr:f≠1:=fun e=>by
  rw[e,h.root.1]at hk;exact absurd hk (by decide)
 have hB0:∀(k:Nat) (n:Int),(M.ino f).B[k]? =some n→n=0:=fun k n hkn=>by
  have hm0:=(h.hold.may f f1 f2).2;unfold mayI at hm0;rw[if_pos hk]at hm0;simp only[Bool.and_eq_true,List.all_eq_true,beq_iff_eq]at hm0;exact hm0.1.2 n (List.mem_of_getElem? hkn)
 have hHu:Hold M (upd T f noTab):=by
  have hT:∀q,(M.ino q).k=2→upd T f noTab q=T q:=fun q hq=>upd_other (fun e=>by
   rw[e,hk]at hq;exact absurd hq (by decide))
  refine⟨h.hold.may,fun d d1 d2 hd=> ?_,fun d d1 d2 hd=> ?_,fun d d1 d2 hd=> ?_,fun d d1 d2 hd=> ?_,h.hold.file,h.hold.sound⟩
  ·rw[hT d hd];exact h.hold.dir d d1 d2 hd
  ·rw[hT d hd];exact h.hold.uniq d d1 d2 hd
  ·rw[hT d hd];exact h.hold.size d d1 d2 hd
  ·rw[hT d hd];exact h.hold.empt d d1 d2 hd
 have hne:∀q,1≤q→q≤32→(M.ino q).k=2→∀x,dirE (T q) x≠0→dirE (T q) x≠f:=fun q q1 q2 hq x hx e=>by
  have:=h.live q q1 q2 hq x hx
  rw[e]at this;exact this hk
 have hlen:((S.N++[⟨decide (y.k=2),[],1⟩]:List Pz.Nd)).length=S.N.length+1:=by rw[List.length_append];rfl
 have hzero:∀x,dirE noTab x=0:=fun x=>by
  by_cases hx:x=[]
  ·rw[hx];exact dirE_nil _
  ·exact dirE_no fun j _=>by
    rw[noTab_at];exact fun e=>hx e.symm
 refine⟨hHu.setIno hy hm hB0 hyB hys (fun _=>upd_same T f noTab),⟨by rw[setIno_other M _ (fun e=>hfr e.symm)];exact h.root.1,by rw[if_neg (fun e=>hfr e.symm)];exact h.root.2⟩,fun a b a1 a2 b1 b2 ha hb=> ?_,fun a a1 a2 ha=> ?_,fun a a1 a2 ha=> ?_,fun a a1 a2 ha=> ?_,fun q q1 q2 hq x=> ?_,fun q q1 q2 hq x hx=> ?_⟩
 ·intro e;try dsimp only at e
  by_cases ea:a=f<;>by_cases eb:b=f
  ·rw[ea,eb]
  ·rw[if_pos ea,if_neg eb]at e;rw[setIno_other M _ eb]at hb;have:=h.lt b b1 b2 hb
   omega
  ·rw[if_neg ea,if_pos eb]at e;rw[setIno_other M _ ea]at ha;have:=h.lt a a1 a2 ha
   omega
  ·rw[if_neg ea,if_neg eb]at e;rw[setIno_other M _ ea]at ha;rw[setIno_other M _ eb]at hb;exact h.inj a b a1 a2 b1 b2 ha hb e
 ·show(if a=f then S.N.length else φ a)<_
  rw[hlen];by_cases e:a=f
  ·rw[if_pos e];omega
  ·rw[if_neg e];rw[setIno_other M _ e]at ha;have:=h.lt a a1 a2 ha
   omega
 ·show Pz.isDir (S.N++[⟨decide (y.k=2),[],1⟩]) (if a=f then S.N.length else φ a)=true
  by_cases e:a=f
  ·rw[if_pos e,Pz.isDir_new];rw[e,setIno_at]at ha;simpa using ha
  ·rw[if_neg e];rw[setIno_other M _ e]at ha;rw[Pz.isDir_old (h.lt a a1 a2 (by omega))];exact h.dir a a1 a2 ha
 ·show(S.N++[⟨decide (y.k=2),[],1⟩])[if a=f then S.N.length else φ a]? =_
  by_cases e:a=f
  ·rw[if_pos e,List.getElem?_append_right (Nat.le_refl _),Nat.sub_self];rw[e,setIno_at]at ha⊢;rw[hyl,ha];rfl
  ·rw[if_neg e];rw[setIno_other M _ e]at ha⊢;rw[List.getElem?_append_left (h.lt a a1 a2 (by omega))];exact h.file a a1 a2 ha
 ·show Pz.look S.E (if q=f then S.N.length else φ q) x=if dirE (upd T f noTab q) x=0 then-1 else((if dirE (upd T f noTab q) x=f then S.N.length else φ (dirE (upd T f noTab q) x):Nat):Int)
  by_cases e:q=f
  ·subst e;rw[if_pos rfl,upd_same,hzero x,if_pos rfl];exact Pz.look_no (fun e he=>(hS.ent e he).1) x
  ·rw[if_neg e,upd_other e];rw[setIno_other M _ e]at hq;rw[h.look q q1 q2 hq x];by_cases h0:dirE (T q) x=0
   ·rw[if_pos h0,if_pos h0]
   ·rw[if_neg h0,if_neg h0,if_neg (hne q q1 q2 hq x h0)]
 ·by_cases e:q=f
  ·subst e;rw[upd_same]at hx;exact absurd (hzero x) hx
  ·rw[upd_other e]at hx⊢;rw[setIno_other M _ e]at hq;rw[setIno_other M _ (hne q q1 q2 hq x hx)];exact h.live q q1 q2 hq x hx
end
end Gd
end
section
namespace Gd
def conD(M:Vol)(T:Nat→Tab)(t i:Nat):Nat:=if(M.ino i).k=2 then linkT (T i) 16 t else 0
theorem linkD_step(M:Vol)(T:Nat→Tab)(t i:Nat):linkD M T t (i+1)=linkD M T t i+conD M T t (i+1):=rfl
theorem linkD_ext{M N:Vol}{T U:Nat→Tab}{t:Nat}:∀n,(∀i,1≤i→i≤n→conD N U t i=conD M T t i)→linkD N U t n=linkD M T t n
 |0,_=>rfl
 |n+1,h=>by
  rw[linkD_step,linkD_step,linkD_ext n fun i i1 i2=>h i i1 (by omega),h (n+1) (by omega) (Nat.le_refl _)]
theorem linkD_one{M N:Vol}{T U:Nat→Tab}{t d:Nat}:∀n,1≤d→d≤n→(∀i,1≤i→i≤n→i≠d→conD N U t i=conD M T t i)→linkD N U t n+conD M T t d=linkD M T t n+conD N U t d
 |0,h1,h2,_=>by omega
 |n+1,h1,h2,h=>by
  rw[linkD_step,linkD_step];by_cases e:d=n+1
  ·subst e;rw[linkD_ext n fun i i1 i2=>h i i1 (by omega) (by omega)];omega
  ·have:=linkD_one n h1 (by omega) fun i i1 i2 hi=>h i i1 (by omega) hi
   rw[h (n+1) (by omega) (Nat.le_refl _) (fun e2=>e e2.symm)];omega
def lk(M:Vol)(T:Nat→Tab)(t:Nat):Nat:=linkD M T t 32
def one(p:Prop)[Decidable p]:Nat:=if p then 1 else 0
theorem one_yes{p:Prop}[Decidable p](h:p):one p=1:=if_pos h
theorem one_no{p:Prop}[Decidable p](h:¬p):one p=0:=if_neg h
section
variable {M N:Vol} {T:Nat→Tab} {D:Nat→Nat→Nat}
theorem lk_put(hH:Hold M T){d j i:Nat}{s:List UInt8}(d1:1≤d)(d2:d≤32)(hk:(M.ino d).k=2)(hj:j<16)(he:entAt (T d) j=noEnt)(hs:s≠[])(hc:Chg M T N d (setT (T d) j ⟨s,i⟩))(t:Nat):
 lk N (upd T d (setT (T d) j ⟨s,i⟩)) t=lk M T t+one (i=t):=by
 have h1:=linkT_set (hH.dir d d1 d2 hk).ok.len hj ⟨s,i⟩ t;have h2:=linkD_one (M:=M) (N:=N) (T:=T) (U:=upd T d (setT (T d) j ⟨s,i⟩)) (t:=t) (d:=d) 32 d1 d2 fun q q1 q2 hq=>by
  unfold conD;rw[hc.kindAll,upd_other hq]
 have h3:conD M T t d=linkT (T d) 16 t:=if_pos hk;have h4:conD N (upd T d (setT (T d) j ⟨s,i⟩)) t d=linkT (setT (T d) j ⟨s,i⟩) 16 t:=by
  unfold conD;rw[hc.kindAll,if_pos hk,upd_same]
 rw[he,if_neg (fun e=>e.1 rfl)]at h1;unfold lk one;by_cases hi:i=t
 ·rw[if_pos ⟨hs,hi⟩]at h1;rw[if_pos hi];omega
 ·rw[if_neg (fun e=>hi e.2)]at h1;rw[if_neg hi];omega
theorem lk_take(hH:Hold M T){d:Nat}{j:Fin 16}{s:List UInt8}(d1:1≤d)(d2:d≤32)(hk:(M.ino d).k=2)(hf:findT (T d) s (hN s)=some j)(hc:Chg M T N d (setT (T d) j.val noEnt))(t:Nat):
 lk N (upd T d (setT (T d) j.val noEnt)) t+one (dirE (T d) s=t)=lk M T t:=by
 obtain⟨e1,e2⟩:=find_some hf;have h0:dirE (T d) s=(entAt (T d) j.val).i:=dirE_at (hH.uniq d d1 d2 hk) j.isLt e2 e1;have h1:=linkT_set (hH.dir d d1 d2 hk).ok.len j.isLt noEnt t;have h2:=linkD_one (M:=M) (N:=N) (T:=T) (U:=upd T d (setT (T d) j.val noEnt)) (t:=t) (d:=d) 32 d1 d2 fun q q1 q2 hq=>by
  unfold conD;rw[hc.kindAll,upd_other hq]
 have h3:conD M T t d=linkT (T d) 16 t:=if_pos hk;have h4:conD N (upd T d (setT (T d) j.val noEnt)) t d=linkT (setT (T d) j.val noEnt) 16 t:=by
  unfold conD;rw[hc.kindAll,if_pos hk,upd_same]
 rw[if_neg (show ¬(noEnt.s≠[]∧noEnt.i=t) from fun e=>e.1 rfl)]at h1;unfold lk one;rw[h0];by_cases hi:(entAt (T d) j.val).i=t
 ·rw[if_pos ⟨by rw[e1];exact e2,hi⟩]at h1;rw[if_pos hi];omega
 ·rw[if_neg (fun e=>hi e.2)]at h1;rw[if_neg hi];omega
theorem lk_kinds(h:∀q,1≤q→q≤32→((N.ino q).k=2↔(M.ino q).k=2))(t:Nat):lk N T t=lk M T t:=by
 refine linkD_ext 32 fun q q1 q2=> ?_;unfold conD;by_cases hk:(M.ino q).k=2
 ·rw[if_pos hk,if_pos ((h q q1 q2).2 hk)]
 ·rw[if_neg hk,if_neg fun e=>hk ((h q q1 q2).1 e)]
theorem lk_new{f:Nat}{y:Ino}(hk:(M.ino f).k=0)(t:Nat):lk (M.setIno f y) (upd T f noTab) t=lk M T t:=by
 refine linkD_ext 32 fun q q1 q2=> ?_;unfold conD;by_cases e:q=f
 ·subst e;rw[setIno_at,upd_same,linkT_none,hk,if_neg (show ¬(0:Int)=2 by decide)];split<;>rfl
 ·rw[setIno_other M y e,upd_other e]
theorem linkT_named(X:Tab)(k t:Nat):linkT X k t≤namedT X k:=by
 unfold linkT namedT;rw[←List.countP_eq_length_filter,←List.countP_eq_length_filter];refine List.countP_mono_left fun e _ h=> ?_;rw[Bool.and_eq_true]at h;exact h.1
theorem lk_drop{i:Nat}(h:(M.ino i).k=2→namedT (T i) 16=0)(t:Nat):lk (M.setIno i noIno) T t=lk M T t:=by
 refine linkD_ext 32 fun q q1 q2=> ?_;unfold conD;by_cases e:q=i
 ·subst e;rw[setIno_at,if_neg (by decide)];split
  ·rename_i hk
   have:=linkT_named (T q) 16 t
   have:=h hk
   omega
  ·rfl
 ·rw[setIno_other M _ e]
theorem conD_le(M:Vol)(T:Nat→Tab)(t:Nat):∀n d,1≤d→d≤n→conD M T t d≤linkD M T t n
 |0,d,h1,h2=>by omega
 |n+1,d,h1,h2=>by
  rw[linkD_step];by_cases e:d=n+1
  ·subst e;omega
  ·have:=conD_le M T t n d h1 (by omega)
   omega
theorem lk_pos(hH:Hold M T){d t:Nat}{x:List UInt8}(d1:1≤d)(d2:d≤32)(hk:(M.ino d).k=2)(h:dirE (T d) x=t)(ht:t≠0):1≤lk M T t:=by
 have h1:=conD_le M T t 32 d d1 d2;have h3:conD M T t d=linkT (T d) 16 t:=if_pos hk;have:1≤linkT (T d) 16 t:=by
  unfold dirE at h
  cases hf:findT (T d) x (hN x)with
  |none=>
   rw[hf]at h;exact absurd h.symm ht
  |some j=>
   rw[hf]at h;obtain⟨e1,e2⟩:=find_some hf;have hm:entAt (T d) j.val∈T d:=List.mem_of_getElem? (entAt_get (hH.dir d d1 d2 hk).ok.len j.isLt);unfold linkT;rw[List.take_of_length_le (by rw[(hH.dir d d1 d2 hk).ok.len];omega)];refine List.length_pos_of_mem (a:=entAt (T d) j.val) (List.mem_filter.2 ⟨hm,?_⟩);simp only[Bool.and_eq_true,decide_eq_true_eq];exact⟨by rw[e1];exact e2,h⟩
 unfold lk;omega
def cntD(D:Nat→Nat→Nat)(k i:Nat):Nat:=((List.range 8).filter fun fd=>decide (D k fd=i)).length
def updD(D:Nat→Nat→Nat)(k fd i:Nat):Nat→Nat→Nat:=fun a b=>if a=k∧b=fd then i else D a b
theorem cntD_le(D:Nat→Nat→Nat)(k i:Nat):cntD D k i≤8:=by
 unfold cntD;have:=List.length_filter_le (fun fd=>decide (D k fd=i)) (List.range 8)
 rw[List.length_range]at this;exact this
theorem cnt_range{p q:Nat→Bool}{a:Nat}(h:∀b,b≠a→p b=q b):∀n,a<n→((List.range n).filter p).length+(if q a then 1 else 0)=((List.range n).filter q).length+(if p a then 1 else 0)
 |0,ha=>by omega
 |n+1,ha=>by
  rw[List.range_succ,List.filter_append,List.filter_append,List.length_append,List.length_append];by_cases e:a=n
  ·subst e;have:(List.range a).filter p=(List.range a).filter q:=List.filter_congr fun b hb=>h b (by have:=List.mem_range.1 hb;omega)
   rw[this]
   cases hp:p a<;>cases hq:q a<;>simp[hp,hq]
  ·have:=cnt_range h n (by omega)
   rw[List.filter_cons,List.filter_cons,h n (fun e2=>e e2.symm)];simp only[List.filter_nil];omega
theorem cntD_upd(D:Nat→Nat→Nat){k fd i:Nat}(hfd:fd<8)(a:Nat):cntD (updD D k fd i) k a+one (D k fd=a)=cntD D k a+one (i=a):=by
 have:=cnt_range (p:=fun b=>decide (updD D k fd i k b=a)) (q:=fun b=>decide (D k b=a)) (a:=fd) (fun b hb=>by
  unfold updD;rw[if_neg (fun e=>hb e.2)]) 8 hfd
 unfold cntD one;have e:updD D k fd i k fd=i:=if_pos ⟨rfl,rfl⟩;simp only[e,decide_eq_true_eq]at this;exact this
theorem cntD_other(D:Nat→Nat→Nat){k k' fd i a:Nat}(h:k'≠k):cntD (updD D k fd i) k' a=cntD D k' a:=by
 unfold cntD;congr 1
 refine List.filter_congr fun b _=> ?_;unfold updD;rw[if_neg (fun e=>h e.1)]
theorem cntD_zero{D:Nat→Nat→Nat}{k i:Nat}(h:∀fd,fd<8→D k fd≠i):cntD D k i=0:=by
 unfold cntD;rw[List.length_eq_zero_iff,List.filter_eq_nil_iff];intro b hb;simpa using h b (List.mem_range.1 hb)
theorem cntD_pos{D:Nat→Nat→Nat}{k i fd:Nat}(hfd:fd<8)(h:D k fd=i):1≤cntD D k i:=by
 unfold cntD;exact List.length_pos_of_mem (a:=fd) (List.mem_filter.2 ⟨List.mem_range.2 hfd,by simpa using h⟩)
theorem filter_all{α:Type}{p:α→Bool}{l:List α}(h:(l.filter p).length=l.length):∀a∈l,p a=true:=by
 induction l with
 |nil=>intro a ha;cases ha
 |cons b r ih=>
  rw[List.filter_cons]at h;split at h
  ·rename_i hb
   intro a ha;rcases List.mem_cons.1 ha with rfl|ha
   ·exact hb
   ·exact ih (by simpa using h) a ha
  ·have:=List.length_filter_le p r
   rw[List.length_cons]at h;omega
theorem cntD_lt{D:Nat→Nat→Nat}{k i fd:Nat}(hfd:fd<8)(h:D k fd≠i):cntD D k i<8:=by
 have h1:=cntD_le D k i;rcases Nat.lt_or_ge (cntD D k i) 8 with h2|h2
 ·exact h2
 ·have h3:cntD D k i=(List.range 8).length:=by rw[List.length_range];omega
  have:=filter_all h3 fd (List.mem_range.2 hfd)
  exact absurd (of_decide_eq_true this) h
def wantL(M:Vol)(i:Nat):Int:=if(M.ino i).k=0 then 0 else if(M.ino i).k=2 then(if i=1 then 0 else 1)else(M.ino i).l
structure Cnt(M:Vol)(T:Nat→Tab)(D:Nat→Nat→Nat)(δ:Nat→Int):Prop where
 links:∀i,1≤i→i≤32→(lk M T i:Int)=wantL M i+δ i
 alive:∀i,1≤i→i≤32→(M.ino i).k=1→(M.ino i).l=0→(M.ino i).O.sum≠0
 opn:∀i,1≤i→i≤32→(M.ino i).k=1→∀k,k<8→(M.ino i).O[k]? =some (cntD D k i:Int)
 fds:∀k fd,k<8→fd<8→D k fd≠0→1≤D k fd∧D k fd≤32∧(M.ino (D k fd)).k=1
variable {δ:Nat→Int}
theorem Cnt.cast{δ':Nat→Int}(h:Cnt M T D δ)(e:∀i,δ i=δ' i):Cnt M T D δ':=⟨fun i i1 i2=>by rw[←e];exact h.links i i1 i2,h.alive,h.opn,h.fds⟩
theorem wantL_same{i:Nat}(hk:(N.ino i).k=(M.ino i).k)(hl:(N.ino i).l=(M.ino i).l):wantL N i=wantL M i:=by
 unfold wantL;rw[hk,hl]
theorem Cnt.of_chg{d:Nat}{X:Tab}{U:Nat→Tab}{δ':Nat→Int}(h:Cnt M T D δ)(hc:Chg M T N d X)(hl:∀i,1≤i→i≤32→(lk N U i:Int)=lk M T i+(δ' i-δ i)):Cnt N U D δ':=by
 refine⟨fun i i1 i2=> ?_,fun i i1 i2 hk=> ?_,fun i i1 i2 hk=> ?_,fun k fd hk hfd h0=> ?_⟩
 ·rw[hl i i1 i2,h.links i i1 i2,wantL_same (hc.kindAll i) (hc.linkAll i)];omega
 ·rw[hc.kindAll]at hk;rw[hc.linkAll,hc.opensAll];exact h.alive i i1 i2 hk
 ·rw[hc.kindAll]at hk;rw[hc.opensAll];exact h.opn i i1 i2 hk
 ·rw[hc.kindAll];exact h.fds k fd hk hfd h0
theorem Cnt.put(h:Cnt M T D δ)(hH:Hold M T){d j i:Nat}{s:List UInt8}(d1:1≤d)(d2:d≤32)(hk:(M.ino d).k=2)(hj:j<16)(he:entAt (T d) j=noEnt)(hs:s≠[])(hc:Chg M T N d (setT (T d) j ⟨s,i⟩)):
 Cnt N (upd T d (setT (T d) j ⟨s,i⟩)) D (fun q=>δ q+(one (i=q):Nat)):=
 h.of_chg hc fun q _ _=>by
  rw[lk_put hH d1 d2 hk hj he hs hc q];omega
theorem Cnt.take(h:Cnt M T D δ)(hH:Hold M T){d:Nat}{j:Fin 16}{s:List UInt8}(d1:1≤d)(d2:d≤32)(hk:(M.ino d).k=2)(hf:findT (T d) s (hN s)=some j)(hc:Chg M T N d (setT (T d) j.val noEnt)):
 Cnt N (upd T d (setT (T d) j.val noEnt)) D (fun q=>δ q-(one (dirE (T d) s=q):Nat)):=
 h.of_chg hc fun q _ _=>by
  have:=lk_take hH d1 d2 hk hf hc q
  omega
theorem Cnt.setF{D':Nat→Nat→Nat}(h:Cnt M T D δ){i:Nat}{y:Ino}(i1:1≤i)(i2:i≤32)(hk:(M.ino i).k=1)(hyk:y.k=1)(hal:y.l=0→y.O.sum≠0)(ho:∀k,k<8→y.O[k]? =some (cntD D' k i:Int))(hD:∀a,a≠i→a≠0→∀k,k<8→cntD D' k a=cntD D k a)(hf:∀k fd,k<8→fd<8→D' k fd≠0→D' k fd=i∨D' k fd=D k fd):
 Cnt (M.setIno i y) T D' (fun q=>δ q-if q=i then y.l-(M.ino i).l else 0):=by
 have hK:∀q,((M.setIno i y).ino q).k=(M.ino q).k:=fun q=>by
  by_cases e:q=i
  ·rw[e,setIno_at,hyk,hk]
  ·rw[setIno_other M y e]
 refine⟨fun a a1 a2=> ?_,fun a a1 a2 ha=> ?_,fun a a1 a2 ha=> ?_,fun k fd hkk hfd h0=> ?_⟩
 ·rw[lk_kinds (M:=M) (N:=M.setIno i y) (fun q _ _=>by rw[hK]) a,h.links a a1 a2];by_cases e:a=i
  ·subst e;unfold wantL;rw[setIno_at,hyk,hk,if_neg (by decide),if_neg (by decide),if_neg (by decide),if_neg (by decide)];simp only[if_pos];omega
  ·rw[wantL_same (M:=M) (N:=M.setIno i y) (i:=a) (hK a) (by rw[setIno_other M y e])];simp only[if_neg e];omega
 ·rw[hK]at ha;by_cases e:a=i
  ·subst e;rw[setIno_at];exact hal
  ·rw[setIno_other M y e];exact h.alive a a1 a2 ha
 ·rw[hK]at ha;intro k hkk;by_cases e:a=i
  ·subst e;rw[setIno_at];exact ho k hkk
  ·rw[setIno_other M y e,hD a e (by omega) k hkk];exact h.opn a a1 a2 ha k hkk
 ·rw[hK];rcases hf k fd hkk hfd h0 with e|e
  ·rw[e];exact⟨i1,i2,hk⟩
  ·rw[e]at h0⊢;exact h.fds k fd hkk hfd h0
theorem Cnt.new{D':Nat→Nat→Nat}(h:Cnt M T D δ){f:Nat}{y:Ino}(f1:1≤f)(f2:f≤32)(hf1:f≠1)(hk:(M.ino f).k=0)(hyk:y.k=1∨y.k=2)(hyl:y.l=1)(ho:y.k=1→∀k,k<8→y.O[k]? =some (cntD D' k f:Int))(hD:∀a,a≠f→a≠0→∀k,k<8→cntD D' k a=cntD D k a)(hf:∀k fd,k<8→fd<8→D' k fd≠0→(D' k fd=f∧y.k=1)∨D' k fd=D k fd):
 Cnt (M.setIno f y) (upd T f noTab) D' (fun q=>δ q-if q=f then 1 else 0):=by
 refine⟨fun a a1 a2=> ?_,fun a a1 a2 ha=> ?_,fun a a1 a2 ha=> ?_,fun k fd hkk hfd h0=> ?_⟩
 ·rw[lk_new hk a,h.links a a1 a2];by_cases e:a=f
  ·subst e;unfold wantL;rw[setIno_at,hk,if_pos rfl];simp only[if_pos];rcases hyk with e2|e2
   ·rw[e2,if_neg (by decide),if_neg (by decide),hyl];omega
   ·rw[e2,if_neg (by decide),if_pos rfl,if_neg hf1];omega
  ·rw[wantL_same (M:=M) (N:=M.setIno f y) (i:=a) (by rw[setIno_other M y e]) (by rw[setIno_other M y e])];simp only[if_neg e];omega
 ·by_cases e:a=f
  ·subst e;rw[setIno_at,hyl];intro e2;exact absurd e2 (by decide)
  ·rw[setIno_other M y e]at ha⊢;exact h.alive a a1 a2 ha
 ·intro k hkk;by_cases e:a=f
  ·subst e;rw[setIno_at]at ha⊢;exact ho ha k hkk
  ·rw[setIno_other M y e]at ha⊢;rw[hD a e (by omega) k hkk];exact h.opn a a1 a2 ha k hkk
 ·rcases hf k fd hkk hfd h0 with⟨e,e2⟩|e
  ·rw[e,setIno_at];exact⟨f1,f2,e2⟩
  ·rw[e]at h0⊢;obtain⟨q1,q2,q3⟩:=h.fds k fd hkk hfd h0;rw[setIno_other M y (fun e3=>by rw[e3,hk]at q3;exact absurd q3 (by decide))];exact⟨q1,q2,q3⟩
theorem Cnt.drop{D':Nat→Nat→Nat}(h:Cnt M T D δ){i:Nat}(hn:(M.ino i).k=2→namedT (T i) 16=0)(hD:∀a,a≠i→a≠0→∀k,k<8→cntD D' k a=cntD D k a)(hf:∀k fd,k<8→fd<8→D' k fd≠0→D' k fd≠i∧D' k fd=D k fd):
 Cnt (M.setIno i noIno) T D' (fun q=>δ q+if q=i then wantL M i else 0):=by
 refine⟨fun a a1 a2=> ?_,fun a a1 a2 ha=> ?_,fun a a1 a2 ha=> ?_,fun k fd hkk hfd h0=> ?_⟩
 ·rw[lk_drop hn a,h.links a a1 a2];by_cases e:a=i
  ·subst e;have:wantL (M.setIno a noIno) a=0:=by
    unfold wantL;rw[setIno_at,if_pos (by decide)]
   rw[this];simp only[if_pos];omega
  ·rw[wantL_same (M:=M) (N:=M.setIno i noIno) (i:=a) (by rw[setIno_other M _ e]) (by rw[setIno_other M _ e])];simp only[if_neg e];omega
 ·by_cases e:a=i
  ·subst e;rw[setIno_at]at ha;exact absurd ha (by decide)
  ·rw[setIno_other M _ e]at ha⊢;exact h.alive a a1 a2 ha
 ·intro k hkk;by_cases e:a=i
  ·subst e;rw[setIno_at]at ha;exact absurd ha (by decide)
  ·rw[setIno_other M _ e]at ha⊢;rw[hD a e (by omega) k hkk];exact h.opn a a1 a2 ha k hkk
 ·obtain⟨e1,e2⟩:=hf k fd hkk hfd h0;rw[setIno_other M _ e1];rw[e2]at h0⊢;exact h.fds k fd hkk hfd h0
end
theorem Snd.of{M:Vol}{T:Nat→Tab}{S:Pz.Fil}{φ:Nat→Nat}{D:Nat→Nat→Nat}(h:Rel M T S φ)(hc:Cnt M T D fun _=>0):Snd M T:=by
 have hl:∀i,1≤i→i≤32→(linkD M T i 32:Int)=wantL M i:=fun i i1 i2=>by
  have:=hc.links i i1 i2
  rw[Int.add_zero]at this;exact this
 refine⟨h.tree,h.hold.sound,h.hold.size,fun i i1 i2 hk=> ?_,fun i i1 i2 hk=> ?_,fun i i1 i2 hk=>⟨?_,hc.alive i i1 i2 hk⟩⟩
 ·have:=hl i i1 i2
  unfold wantL at this;rw[if_pos hk]at this;omega
 ·have:=hl i i1 i2
  unfold wantL at this;rw[if_neg (by omega),if_pos hk]at this;split at this
  ·rename_i e
   rw[if_pos e];omega
  ·rename_i e
   rw[if_neg e];omega
 ·have:=hl i i1 i2
  unfold wantL at this;rw[if_neg (by omega),if_neg (by omega)]at this;exact this.symm
end Gd
end
section
namespace Pz
theorem ofd_snoc(O:List Op)(o:Op)(c fd:Int):ofd (O++[o]) c fd=if 0≤ofd O c fd then ofd O c fd else if o.client=c∧o.fd=fd then(o.node:Int)else-1:=by
 induction O with
 |nil=>
  rw[List.nil_append,if_neg (show ¬(0:Int)≤ofd [] c fd from by rw[ofd];omega),ofd];rfl
 |cons a r ih=>
  rw[List.cons_append,ofd,ofd];by_cases h:a.client=c∧a.fd=fd
  ·rw[if_pos h,if_pos h,if_pos (by omega)]
  ·rw[if_neg h,if_neg h,ih]
theorem ofd_shut(O:List Op)(a b c fd:Int):ofd (shut O a b) c fd=if c=a∧fd=b then-1 else ofd O c fd:=by
 unfold shut;induction O with
 |nil=>
  rw[List.filter_nil,ofd];split<;>rfl
 |cons o r ih=>
  rw[List.filter_cons];by_cases h:o.client=a∧o.fd=b
  ·rw[if_neg (by simpa using h),ih,ofd];by_cases h2:c=a∧fd=b
   ·rw[if_pos h2,if_pos h2]
   ·rw[if_neg h2,if_neg h2,if_neg (fun e=>h2 ⟨e.1.symm.trans h.1,e.2.symm.trans h.2⟩)]
  ·rw[if_pos (decide_eq_true h),ofd,ofd,ih];by_cases h3:o.client=c∧o.fd=fd
   ·rw[if_pos h3,if_pos h3,if_neg (fun e=>h ⟨h3.1.trans e.1,h3.2.trans e.2⟩)]
   ·rw[if_neg h3,if_neg h3]
theorem ofd_drop(O:List Op)(a c fd:Int):ofd (drop O a) c fd=if c=a then-1 else ofd O c fd:=by
 unfold drop;induction O with
 |nil=>
  rw[List.filter_nil,ofd];split<;>rfl
 |cons o r ih=>
  rw[List.filter_cons];by_cases h:o.client=a
  ·rw[if_neg (by simpa using h),ih,ofd];by_cases h2:c=a
   ·rw[if_pos h2,if_pos h2]
   ·rw[if_neg h2,if_neg h2,if_neg (fun e=>h2 (e.1.symm.trans h))]
  ·rw[if_pos (decide_eq_true h),ofd,ofd,ih];by_cases h3:o.client=c∧o.fd=fd
   ·rw[if_pos h3,if_pos h3,if_neg (fun e=>h (h3.1.trans e))]
   ·rw[if_neg h3,if_neg h3]
end Pz
namespace Gd
def walkP(M:Vol)(T:Nat→Tab)(p:List UInt8):Nat×Nat:=match Np.pathL p with|none=>(0,15)|some L=>walkT M T L 1
def placeQ(M:Vol)(T:Nat→Tab)(p:List UInt8):Nat×List UInt8×Nat:=match Np.pathL p with
 |none=>(0,[],15)
 |some L=>match L.getLast? with
  |none=>(0,[],15)
  |some x=>placeP M T L.dropLast x
def Ofd(D:Nat→Nat→Nat)(S:Pz.Fil)(φ:Nat→Nat):Prop:=∀k:Nat,k<8→∀fd:Int,Pz.ofd S.O ((k:Int)+1) fd=if 0≤fd∧fd<8∧D k fd.toNat≠0 then(φ (D k fd.toNat):Int)else-1
structure Sim(M:Vol)(T:Nat→Tab)(D:Nat→Nat→Nat)(S:Pz.Fil)(φ:Nat→Nat):Prop where
 rel:Rel M T S φ
 cnt:Cnt M T D fun _=>0
 ofd:Ofd D S φ
section
variable {M N:Vol} {T:Nat→Tab} {S:Pz.Fil} {φ:Nat→Nat} {D:Nat→Nat→Nat}
theorem Sim.snd(h:Sim M T D S φ):Snd M T:=Snd.of h.rel h.cnt
theorem walkT_snoc(x:List UInt8):∀(L:List (List UInt8)) (d:Nat),walkT M T (L++[x]) d=if(walkT M T L d).2=0 then walkT M T [x] (walkT M T L d).1 else(0,(walkT M T L d).2)
 |[],d=>by
  rw[List.nil_append];rfl
 |s::r,d=>by
  rw[List.cons_append];have e1:walkT M T (s::(r++[x])) d=if(M.ino d).k=2 then(match findT (T d) s (hN s)with|none=>(0,10)|some j=>walkT M T (r++[x]) (entAt (T d) j.val).i)else(0,12):=rfl
  have e2:walkT M T (s::r) d=if(M.ino d).k=2 then(match findT (T d) s (hN s)with|none=>(0,10)|some j=>walkT M T r (entAt (T d) j.val).i)else(0,12):=rfl
  rw[e1,e2];by_cases hk:(M.ino d).k=2
  ·rw[if_pos hk,if_pos hk]
   cases hf:findT (T d) s (hN s)with
   |none=>rfl
   |some j=>exact walkT_snoc x r _
  ·rw[if_neg hk,if_neg hk];rfl
theorem dirE_none{X:Tab}{s:List UInt8}(h:findT X s (hN s)=none):dirE X s=0:=by
 unfold dirE;rw[h]
theorem dirE_some{X:Tab}{s:List UInt8}{j:Fin 16}(h:findT X s (hN s)=some j):dirE X s=(entAt X j.val).i:=by
 unfold dirE;rw[h]
theorem Rel.walk(h:Rel M T S φ):∀(L:List (List UInt8)) (d:Nat),1≤d→d≤32→(M.ino d).k≠0→Pz.walk S (φ d) L=if(walkT M T L d).2=0 then .ok (φ (walkT M T L d).1)else .error ((walkT M T L d).2:Int)
 |[],d,_,_,_=>rfl
 |s::r,d,d1,d2,hd=>by
  rw[Pz.walk];unfold walkT;by_cases hk:(M.ino d).k=2
  ·rw[if_pos hk,h.dir d d1 d2 hk,if_pos rfl,h.look d d1 d2 hk]
   cases hf:findT (T d) s (hN s)with
   |none=>
    rw[dirE_none hf];rfl
   |some j=>
    have hin:=find_ent h.tree d1 d2 hk hf;rw[dirE_some hf,if_neg (show ¬(entAt (T d) j.val).i=0 by omega),if_neg (by omega),Int.toNat_natCast];exact h.walk r _ hin.1 hin.2.1 hin.2.2.1
  ·rw[if_neg hk];have:Pz.isDir S.N (φ d)=false:=by
    rw[h.kind d1 d2 hd];exact decide_eq_false hk
   rw[this];rfl
theorem walkT_live(h:Rel M T S φ):∀(L:List (List UInt8)) (d:Nat),1≤d→d≤32→(M.ino d).k≠0→(walkT M T L d).2=0→(M.ino (walkT M T L d).1).k≠0
 |[],d,_,_,hd,_=>hd
 |s::r,d,d1,d2,hd,h0=>by
  unfold walkT at h0⊢;by_cases hk:(M.ino d).k=2
  ·rw[if_pos hk]at h0⊢
   cases hf:findT (T d) s (hN s)with
   |none=>
    rw[hf]at h0
    cases h0
   |some j=>
    rw[hf]at h0;have hin:=find_ent h.tree d1 d2 hk hf;exact walkT_live h r _ hin.1 hin.2.1 hin.2.2.1 h0
  ·rw[if_neg hk]at h0
   cases h0
theorem pathL_names'{p:List UInt8}{L:List (List UInt8)}(h:Np.pathL p=some L):∀x∈L,Np.nameB x=true:=fun x hx=>by
 have h1:=(Np.pathL_some h).1;simp only[Bool.and_eq_true,decide_eq_true_eq,List.all_eq_true]at h1;exact h1.2 x hx
theorem Rel.find(h:Rel M T S φ)(p:List UInt8):Pz.find S p=if(walkP M T p).2=0 then .ok (φ (walkP M T p).1)else .error ((walkP M T p).2:Int):=by
 unfold Pz.find walkP
 cases hp:Np.pathL p with
 |none=>rfl
 |some L=>
  have:=h.walk L 1 (by omega) (by omega) (by rw[h.root.1];decide)
  rw[h.root.2]at this;exact this
theorem Rel.place(h:Rel M T S φ)(p:List UInt8):Pz.place S p=if(placeQ M T p).2.2=0 then .ok (φ (placeQ M T p).1,(placeQ M T p).2.1)else .error ((placeQ M T p).2.2:Int):=by
 cases hp:Np.pathL p with
 |none=>
  have e1:Pz.place S p= .error 15:=by unfold Pz.place;rw[hp]
  have e2:placeQ M T p=(0,[],15):=by unfold placeQ;rw[hp]
  rw[e1,e2];rfl
 |some L=>
  cases hl:L.getLast? with
  |none=>
   have e1:Pz.place S p= .error 15:=by unfold Pz.place;rw[hp];dsimp only;rw[hl]
   have e2:placeQ M T p=(0,[],15):=by unfold placeQ;rw[hp];dsimp only;rw[hl]
   rw[e1,e2];rfl
  |some x=>
   have e1:Pz.place S p=Pz.placeOn S x (Pz.walk S 0 L.dropLast):=by unfold Pz.place;rw[hp];dsimp only;rw[hl]
   have e2:placeQ M T p=placeP M T L.dropLast x:=by unfold placeQ;rw[hp];dsimp only;rw[hl]
   have hw:=h.walk L.dropLast 1 (by omega) (by omega) (by rw[h.root.1];decide);rw[h.root.2]at hw;by_cases h0:(walkT M T L.dropLast 1).2=0
   ·have hin:=walkT_in h.tree L.dropLast 1 (by omega) (by omega) h0;rw[if_pos h0]at hw;by_cases hk:(M.ino (walkT M T L.dropLast 1).1).k=2
    ·have ep:placeP M T L.dropLast x=((walkT M T L.dropLast 1).1,x,0):=by
      unfold placeP;rw[if_neg (fun e=>e h0),if_pos hk]
     rw[e1,e2,ep,hw];unfold Pz.placeOn;dsimp only;rw[h.dir _ hin.1 hin.2 hk];rfl
    ·have ep:placeP M T L.dropLast x=(0,[],12):=by
      unfold placeP;rw[if_neg (fun e=>e h0),if_neg hk]
     have:Pz.isDir S.N (φ (walkT M T L.dropLast 1).1)=false:=by
      by_cases hz:(M.ino (walkT M T L.dropLast 1).1).k=0
      ·exact absurd hz (walkT_live h L.dropLast 1 (by omega) (by omega) (by rw[h.root.1];decide) h0)
      ·rw[h.kind hin.1 hin.2 hz];exact decide_eq_false hk
     rw[e1,e2,ep,hw];unfold Pz.placeOn;dsimp only;rw[this];rfl
   ·rw[if_neg h0]at hw;have ep:placeP M T L.dropLast x=(0,[],(walkT M T L.dropLast 1).2):=by
     unfold placeP;rw[if_pos h0]
    rw[e1,e2,ep,hw,if_neg h0];rfl
theorem Rel.at(h:Rel M T S φ){p:List UInt8}(h0:(walkP M T p).2=0):1≤(walkP M T p).1∧(walkP M T p).1≤32∧(M.ino (walkP M T p).1).k≠0:=by
 unfold walkP at h0⊢
 cases hp:Np.pathL p with
 |none=>
  rw[hp]at h0
  cases h0
 |some L=>
  rw[hp]at h0;dsimp only at h0⊢;have hin:=walkT_in h.tree L 1 (by omega) (by omega) h0;exact⟨hin.1,hin.2,walkT_live h L 1 (by omega) (by omega) (by rw[h.root.1];decide) h0⟩
structure IsPlace(M:Vol)(T:Nat→Tab)(p:List UInt8)(d:Nat)(x:List UInt8):Prop where
 lo:1≤d
 hi:d≤32
 kind:(M.ino d).k=2
 name:Np.nameB x=true
 walk:walkP M T p=match findT (T d) x (hN x)with|none=>(0,10)|some j=>((entAt (T d) j.val).i,0)
theorem Rel.isPlace(h:Rel M T S φ){p:List UInt8}(h0:(placeQ M T p).2.2=0):IsPlace M T p (placeQ M T p).1 (placeQ M T p).2.1:=by
 cases hp:Np.pathL p with
 |none=>
  unfold placeQ at h0;rw[hp]at h0
  cases h0
 |some L=>
  cases hl:L.getLast? with
  |none=>
   unfold placeQ at h0;rw[hp]at h0;dsimp only at h0;rw[hl]at h0
   cases h0
  |some x=>
   have e1:placeQ M T p=placeP M T L.dropLast x:=by
    unfold placeQ;rw[hp];dsimp only;rw[hl]
   rw[e1]at h0⊢;obtain⟨Y,hY⟩:=List.getLast?_eq_some_iff.1 hl;have hd:L.dropLast=Y:=by rw[hY,List.dropLast_concat]
   rw[hd]at h0⊢;unfold placeP at h0⊢;by_cases hz:(walkT M T Y 1).2=0
   ·rw[if_neg (fun e=>e hz)]at h0⊢;by_cases hk:(M.ino (walkT M T Y 1).1).k=2
    ·rw[if_pos hk];have hin:=walkT_in h.tree Y 1 (by omega) (by omega) hz;refine⟨hin.1,hin.2,hk,(pathL_names' hp) x (by rw[hY];simp),?_⟩;unfold walkP;rw[hp];dsimp only;rw[hY,walkT_snoc,if_pos hz];show(if(M.ino (walkT M T Y 1).1).k=2 then _ else _)=_
     rw[if_pos hk]
     cases findT (T (walkT M T Y 1).1) x (hN x)<;>rfl
    ·rw[if_neg hk]at h0
     cases h0
   ·rw[if_pos hz]at h0;exact absurd h0 hz
theorem Rel.placed(h:Rel M T S φ){p:List UInt8}(h0:(walkP M T p).2=0)(hp:p≠[47]):(placeQ M T p).2.2=0∧∃j,findT (T (placeQ M T p).1) (placeQ M T p).2.1 (hN (placeQ M T p).2.1)=some j∧(entAt (T (placeQ M T p).1) j.val).i=(walkP M T p).1:=by
 have hf:=h.find p;rw[if_pos h0]at hf;obtain⟨d,x,h1,h2,h3⟩:=Pz.place_of_find hf hp;have hpl:=h.place p;rw[h1]at hpl;by_cases hz:(placeQ M T p).2.2=0
 ·refine⟨hz,?_⟩;have hI:=h.isPlace hz;have hw:=hI.walk
  cases hj:findT (T (placeQ M T p).1) (placeQ M T p).2.1 (hN (placeQ M T p).2.1)with
  |none=>
   rw[hj]at hw;rw[hw]at h0
   cases h0
  |some j=>
   rw[hj]at hw;exact⟨j,rfl,by rw[hw]⟩
 ·rw[if_neg hz]at hpl
  cases hpl
end
end Gd
end
end Go.Proofs.YtjlpkbhgphjpeaaGreatDoor
