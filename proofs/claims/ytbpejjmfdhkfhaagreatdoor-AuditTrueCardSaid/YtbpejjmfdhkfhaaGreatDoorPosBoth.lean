/- Walks: the document's SameReply, at two replies that tell the same. -/
import Derived.Test.YtbpejjmfdhkfhaaGreatDoorPosRealW
set_option linter.unusedVariables false
set_option linter.unusedSimpArgs false
namespace Go.Proofs.YtbpejjmfdhkfhaaGreatDoor
open Go.RowKit

set_option maxHeartbeats 4000000 in
set_option maxRecDepth 8192 in
theorem samereply_any (q : Pz.Rep) (A A' : Option Addr) (c c' B : Nat) (w : World) (hl : q.names.length ≤ 1000000) (hS : Strs w B A q.names) (hS' : Strs w B A' q.names) :
    Calls Tryz.prog 13 #[repV q A c, repV q A' c'] w fun e w' => e = .returned (.bool true) ∧ Below w.heap.size w w' := by
  obtain ⟨e0, e1, e2, e3, e4, e5, e6⟩ := q
  unfold repV
  obtain ⟨w2, hw2⟩ : ∃ w2, w2 = ((w.alloc (.cells #[.int .i64 e0, .int .i64 e1, .string ⟨e2.toArray⟩, .slice A e3.length c, .int .i64 e4, .int .i64 e5, .int .i64 e6] 36)).alloc (.cells #[.int .i64 e0, .int .i64 e1, .string ⟨e2.toArray⟩, .slice A' e3.length c', .int .i64 e4, .int .i64 e5, .int .i64 e6] 36)) := ⟨_, rfl⟩
  have hb2 : Below w.heap.size w w2 := by rw [hw2]; exact ((Below.refl _ _).alloc (Nat.le_refl _) _).alloc (by simp) _
  have h1 : w2.heap[w.heap.size]? = some (.cells #[.int .i64 e0, .int .i64 e1, .string ⟨e2.toArray⟩, .slice A e3.length c, .int .i64 e4, .int .i64 e5, .int .i64 e6] 36 (0, 0)) := by
    rw [hw2, Below.heap_alloc _ _ _ (by simp)]
    exact heap_alloc_new _ _
  have h2 : w2.heap[w.heap.size + 1]? = some (.cells #[.int .i64 e0, .int .i64 e1, .string ⟨e2.toArray⟩, .slice A' e3.length c', .int .i64 e4, .int .i64 e5, .int .i64 e6] 36 (0, 0)) := by
    rw [hw2]
    exact heap_alloc2_new _ _ _
  have hs2 : w2.heap.size = w.heap.size + 2 := by rw [hw2]; simp
  have hq := same_any A A' e3 e3 c c' B w2 hl hl (hS.keep hb2) (hS'.keep hb2)
  rw [decide_eq_true rfl] at hq
  have HQ := Lib.hid hq
  have HW2 := Lib.hid hw2
  have HB := Lib.hid (fun (W : World) (hb : Below w2.heap.size w2 W) => And.intro ((hb.block w.heap.size (by omega)).trans h1) (And.intro ((hb.block (w.heap.size + 1) (by omega)).trans h2) (hb2.trans (hb.mono (by omega)))))
  clear hl hS hS' hq hw2 h1 h2 hb2 hs2
  go_enter Tryz.func13, Tryz.ntmps13
  go_wp2_with fail
  rw [← HW2.out]
  refine HQ.out.mono ?_
  rintro e w3 ⟨rfl, hb3⟩
  obtain ⟨h1, h2, h3⟩ := HB.out _ hb3
  have HB3 := Lib.hid h3
  have a0 := cell_of_row w3 _ 0 _ _ _ h1
  have a1 := cell_of_row w3 _ 1 _ _ _ h1
  have a2 := cell_of_row w3 _ 2 _ _ _ h1
  have a4 := cell_of_row w3 _ 4 _ _ _ h1
  have a5 := cell_of_row w3 _ 5 _ _ _ h1
  have a6 := cell_of_row w3 _ 6 _ _ _ h1
  have b0 := cell_of_row w3 _ 0 _ _ _ h2
  have b1 := cell_of_row w3 _ 1 _ _ _ h2
  have b2 := cell_of_row w3 _ 2 _ _ _ h2
  have b4 := cell_of_row w3 _ 4 _ _ _ h2
  have b5 := cell_of_row w3 _ 5 _ _ _ h2
  have b6 := cell_of_row w3 _ 6 _ _ _ h2
  clear h1 h2 h3 hb3
  go_wp2
  go_ret
  exact ⟨rfl, HB3.out⟩

end Go.Proofs.YtbpejjmfdhkfhaaGreatDoor

/- Walks: the law's cut. -/
namespace Go.Proofs.YtbpejjmfdhkfhaaGreatDoor
open Go.RowKit

theorem Tryz.infoC : (Tryz.prog.info? 24).map (·.size) = some 8 := by kernel_rfl
def cutB (s : ByteArray) (n : Nat) : ByteArray := if n < s.size then s.extract 0 n else s
theorem cutB_size (s : ByteArray) (n : Nat) : (cutB s n).size ≤ n := by
  unfold cutB
  split
  · rw [ByteArray.size_extract]; omega
  · omega

set_option maxHeartbeats 4000000 in
set_option maxRecDepth 8192 in
theorem cut_any (kind flags fd off n : Int) (p p2 data : ByteArray) (w : World) :
    Calls Tryz.prog 8 #[callV kind p p2 flags fd off n data] w fun e w' => e = .returned (callV kind (cutB p 60) (cutB p2 60) flags fd off n (cutB data 100)) ∧ Below w.heap.size w w' := by
  unfold callV cutB
  by_cases h1 : 60 < p.size <;> by_cases h2 : 60 < p2.size <;> by_cases h3 : 100 < data.size
  all_goals
    simp only [h1, h2, h3, if_true, if_false]
    go_enter Tryz.func8, Tryz.ntmps8
    go_wp2
    refine bodyPost_ret (results_cell_row rfl _ _ (w.heap.size + 1) _ _ _ _ rfl (heap_alloc2_new _ _ _) Tryz.underlying24 rfl Tryz.infoC) rfl ?_
    exact ⟨rfl, ((Below.refl _ _).alloc (Nat.le_refl _) _).alloc (by simp) _⟩

end Go.Proofs.YtbpejjmfdhkfhaaGreatDoor

/- What a call leaves good, plainly. -/
namespace Go.Proofs.YtbpejjmfdhkfhaaGreatDoor
namespace Pz

theorem Good.mono {K K' : Nat} {S : Fil} (h : Good K S) (hK : K ≤ K') : Good K' S :=
  { h with
    n := Nat.le_trans h.n hK
    e := Nat.le_trans h.e hK
    o := Nat.le_trans h.o hK
    links := fun x hx => ⟨(h.links x hx).1, by have := (h.links x hx).2; omega⟩ }
theorem Good.take {K : Nat} {S : Fil} (h : Good K S) (d : Nat) (x : List UInt8) : Good K { S with E := take S.E d x } :=
  { h with
    ok := ok_take h.ok d x
    e := Nat.le_trans (take_le _ _ _) h.e
    name := fun e he => h.name e (List.mem_filter.1 he).1
    once := h.once.sublist List.filter_sublist
    dirs := fun e he => h.dirs e (List.mem_filter.1 he).1 }
theorem look_here {E : List En} {e : En} (h : e ∈ E) : 0 ≤ look E e.dir e.name := by
  induction E with
  | nil => cases h
  | cons a r ih =>
    rw [look]
    split
    · omega
    · rename_i hn
      rcases List.mem_cons.1 h with rfl | h
      · exact absurd ⟨rfl, rfl⟩ hn
      · exact ih h
theorem ofd_there {O : List Op} {o : Op} (h : o ∈ O) : 0 ≤ ofd O o.client o.fd := by
  induction O with
  | nil => cases h
  | cons a r ih =>
    rw [ofd]
    split
    · omega
    · rename_i hn
      rcases List.mem_cons.1 h with rfl | h
      · exact absurd ⟨rfl, rfl⟩ hn
      · exact ih h
theorem Good.addE {K : Nat} {S : Fil} (h : Good K S) {d n : Nat} {x : List UInt8} (hd : isDir S.N d = true) (hx : Np.nameB x = true) (hl : look S.E d x < 0) (hn : n < S.N.length) : Good (K + 1) { S with E := S.E ++ [⟨d, x, n⟩] } :=
  { h.mono (Nat.le_succ K) with
    ok := ⟨h.ok.root, fun e he => by
      rcases List.mem_append.1 he with he | he
      · exact h.ok.ent e he
      · obtain rfl := List.mem_singleton.1 he
        exact ⟨isDir_lt hd, hn⟩, h.ok.opn⟩
    e := by
      have := h.e
      simp
      omega
    name := fun e he => by
      rcases List.mem_append.1 he with he | he
      · exact h.name e he
      · obtain rfl := List.mem_singleton.1 he
        exact hx
    once := by
      rw [List.pairwise_append]
      refine ⟨h.once, List.pairwise_singleton _ _, fun a ha b hb => ?_⟩
      obtain rfl := List.mem_singleton.1 hb
      rintro ⟨e1, e2⟩
      have := look_here ha
      rw [e1, e2] at this
      simp only at this
      omega
    dirs := fun e he => by
      rcases List.mem_append.1 he with he | he
      · exact h.dirs e he
      · obtain rfl := List.mem_singleton.1 he
        exact hd }
theorem Good.set {K : Nat} {S : Fil} (h : Good K S) (n : Nat) {y : Nd} (hd : y.dir = isDir S.N n) (hdat : y.data.length ≤ 256) (hl : y.links ≤ 20 ∧ -(K : Int) ≤ y.links) : Good K { S with N := S.N.set n y } :=
  { h with
    ok := ok_set h.ok n y
    n := by simpa using h.n
    data := fun x hx => by
      rcases List.mem_or_eq_of_mem_set hx with hx | rfl
      · exact h.data x hx
      · exact hdat
    links := fun x hx => by
      rcases List.mem_or_eq_of_mem_set hx with hx | rfl
      · exact h.links x hx
      · exact hl
    root := by rw [isDir_set hd]; exact h.root
    dirs := fun e he => by rw [isDir_set hd]; exact h.dirs e he
    fds := fun o ho => by rw [isDir_set hd]; exact h.fds o ho }
theorem isDir_old {N : List Nd} {y : Nd} {k : Nat} (hk : k < N.length) : isDir (N ++ [y]) k = isDir N k := by
  unfold isDir
  rw [List.getElem?_append_left hk]
theorem isDir_new {N : List Nd} {y : Nd} : isDir (N ++ [y]) N.length = y.dir := by
  unfold isDir
  rw [List.getElem?_append_right (Nat.le_refl _)]
  simp
theorem Good.addN {K : Nat} {S : Fil} (h : Good K S) {y : Nd} (hdat : y.data.length ≤ 256) (hl : y.links ≤ 20 ∧ 0 ≤ y.links) : Good (K + 1) { S with N := S.N ++ [y] } :=
  { h.mono (Nat.le_succ K) with
    ok := ⟨by simp, fun e he => by have := h.ok.ent e he; simp; omega, fun o ho => by have := h.ok.opn o ho; simp; omega⟩
    n := by have := h.n; simp; omega
    data := fun x hx => by
      rcases List.mem_append.1 hx with hx | hx
      · exact h.data x hx
      · obtain rfl := List.mem_singleton.1 hx
        exact hdat
    links := fun x hx => by
      rcases List.mem_append.1 hx with hx | hx
      · have := h.links x hx
        exact ⟨this.1, by omega⟩
      · obtain rfl := List.mem_singleton.1 hx
        exact ⟨hl.1, by omega⟩
    root := by rw [isDir_old h.ok.root]; exact h.root
    dirs := fun e he => by rw [isDir_old (h.ok.ent e he).1]; exact h.dirs e he
    fds := fun o ho => by rw [isDir_old (h.ok.opn o ho)]; exact h.fds o ho }
theorem Good.addO {K : Nat} {S : Fil} (h : Good K S) {c fd : Int} {n : Nat} (hno : ofd S.O c fd < 0) (hn : n < S.N.length) (hd : isDir S.N n = false) : Good (K + 1) { S with O := S.O ++ [⟨c, fd, n⟩] } :=
  { h.mono (Nat.le_succ K) with
    ok := ⟨h.ok.root, h.ok.ent, fun o ho => by
      rcases List.mem_append.1 ho with ho | ho
      · exact h.ok.opn o ho
      · obtain rfl := List.mem_singleton.1 ho
        exact hn⟩
    o := by have := h.o; simp; omega
    one := by
      rw [List.pairwise_append]
      refine ⟨h.one, List.pairwise_singleton _ _, fun a ha b hb => ?_⟩
      obtain rfl := List.mem_singleton.1 hb
      rintro ⟨e1, e2⟩
      have := ofd_there ha
      rw [e1, e2] at this
      simp only at this
      omega
    fds := fun o ho => by
      rcases List.mem_append.1 ho with ho | ho
      · exact h.fds o ho
      · obtain rfl := List.mem_singleton.1 ho
        exact hd }
theorem Good.fltO {K : Nat} {S : Fil} (h : Good K S) (q : Op → Bool) : Good K { S with O := S.O.filter q } :=
  { h with
    ok := ⟨h.ok.root, h.ok.ent, fun o ho => h.ok.opn o (List.mem_filter.1 ho).1⟩
    o := Nat.le_trans (List.length_filter_le _ _) h.o
    one := h.one.sublist List.filter_sublist
    fds := fun o ho => h.fds o (List.mem_filter.1 ho).1 }
theorem Good.over {K : Nat} {S : Fil} (h : Good K S) (z : Int) (q : Nat × List UInt8) : Good (K + 1) (over S z q) := by
  unfold Pz.over
  split
  · rename_i hz
    simp only
    split
    · exact (h.take _ _).mono (Nat.le_succ K)
    · by_cases hl : z.toNat < S.N.length
      · have h1 := nodeD_links h hl
        have h2 := nodeD_data h hl
        exact ((h.take q.1 q.2).mono (Nat.le_succ K)).set z.toNat (nodeD_dir _ _) h2 ⟨by simp only; omega, by simp only; omega⟩
      · rw [List.set_eq_of_length_le (by omega)]
        exact (h.take _ _).mono (Nat.le_succ K)
  · exact h.mono (Nat.le_succ K)
theorem over_dir {S : Fil} (z : Int) (q : Nat × List UInt8) (k : Nat) : isDir (over S z q).N k = isDir S.N k := by
  unfold over
  split
  · simp only
    split
    · rfl
    · exact isDir_set (by simp [nodeD_dir]) k
  · rfl
/-- a client's numbers, and the descriptors' -/
def Few (S : Fil) : Prop := ∀ o ∈ S.O, (1 ≤ o.client ∧ o.client ≤ 8) ∧ 0 ≤ o.fd ∧ o.fd ≤ 7

theorem opens_good {K : Nat} {S : Fil} (h : Good K S) (hf : Few S) {cl flags : Int} {p : List UInt8} (hc : 1 ≤ cl ∧ cl ≤ 8) : Good (K + 3) (opens S cl flags p).1 ∧ Few (opens S cl flags p).1 := by
  have hS : Good (K + 3) S ∧ Few S := ⟨h.mono (by omega), hf⟩
  have hfree : ¬ free S.O cl = 8 → ofd S.O cl (free S.O cl) < 0 ∧ free S.O cl ≤ 7 := fun hn => by
    have := free_le (O := S.O) (cl := cl)
    exact ⟨free_no rfl (by omega), by omega⟩
  have few : ∀ k : Nat, k ≤ 7 → ∀ n : Nat, ∀ o ∈ S.O ++ [(⟨cl, k, n⟩ : Op)], (1 ≤ o.client ∧ o.client ≤ 8) ∧ 0 ≤ o.fd ∧ o.fd ≤ 7 := fun k hk n o ho => by
    rcases List.mem_append.1 ho with ho | ho
    · exact hf o ho
    · obtain rfl := List.mem_singleton.1 ho
      exact ⟨hc, by simp only; omega, by simp only; omega⟩
  unfold opens
  split
  · exact hS
  split
  · rename_i n hn
    split
    · exact hS
    split
    · exact hS
    rename_i hd
    split
    · exact hS
    rename_i h8
    obtain ⟨h1, h2⟩ := hfree h8
    exact ⟨(h.addO h1 (find_lt h.ok hn) (by simpa using hd)).mono (by omega), few _ h2 _⟩
  · rename_i e he
    split
    · split
      · exact hS
      · rename_i q hq
        split
        · exact hS
        rename_i h8
        obtain ⟨h1, h2⟩ := hfree h8
        have hpl := place_lt h.ok hq
        refine ⟨?_, few _ h2 _⟩
        have g1 := h.addN (y := ⟨false, [], 1⟩) (by simp) (by simp)
        have g2 := g1.addE (d := q.1) (x := q.2) (n := S.N.length) (by simp only; rw [isDir_old hpl.1]; exact hpl.2) (place_name hq) (show look S.E q.1 q.2 < 0 from look_of_new he hq) (by simp)
        have g3 := g2.addO (c := cl) (fd := free S.O cl) (n := S.N.length) h1 (by simp) (by simp only; rw [isDir_new])
        exact g3
    · exact hS
theorem mkdir_good {K : Nat} {S : Fil} (h : Good K S) {p : List UInt8} : Good (K + 3) (mkdir S p).1 ∧ (mkdir S p).1.O = S.O := by
  unfold mkdir
  split
  · exact ⟨h.mono (by omega), rfl⟩
  · rename_i e he
    split
    · exact ⟨h.mono (by omega), rfl⟩
    · rename_i q hq
      have hpl := place_lt h.ok hq
      have g1 := h.addN (y := ⟨true, [], 1⟩) (by simp) (by simp)
      have g2 := g1.addE (d := q.1) (x := q.2) (n := S.N.length) (by simp only; rw [isDir_old hpl.1]; exact hpl.2) (place_name hq) (show look S.E q.1 q.2 < 0 from look_of_new he hq) (by simp)
      exact ⟨g2.mono (by omega), rfl⟩
theorem rmdir_good {K : Nat} {S : Fil} (h : Good K S) {p : List UInt8} : Good (K + 3) (rmdirR S p).1 ∧ (rmdirR S p).1.O = S.O := by
  have hS : Good (K + 3) S ∧ S.O = S.O := ⟨h.mono (by omega), rfl⟩
  unfold rmdirR
  split
  · exact hS
  split
  · exact hS
  split
  · split
    · exact hS
    split
    · exact hS
    · exact ⟨(h.take _ _).mono (by omega), rfl⟩
  · exact hS
theorem link_good {K : Nat} {S : Fil} (h : Good K S) {p p2 : List UInt8} : Good (K + 3) (link S p p2).1 ∧ (link S p p2).1.O = S.O := by
  have hS : Good (K + 3) S ∧ S.O = S.O := ⟨h.mono (by omega), rfl⟩
  unfold link
  split
  · exact hS
  split
  · exact hS
  rename_i n hn
  split
  · exact hS
  split
  · exact hS
  split
  · exact hS
  rename_i q hq
  split
  · exact hS
  rename_i hl
  split
  · exact hS
  rename_i h20
  have hlt := find_lt h.ok hn
  have h1 := nodeD_links h hlt
  have g1 := (h.addE (place_lt h.ok hq).2 (place_name hq) (by omega) hlt).set n (y := { nodeD S.N n with links := (nodeD S.N n).links + 1 }) (nodeD_dir _ _) (nodeD_data h hlt) ⟨by simp only; omega, by simp only; omega⟩
  exact ⟨g1.mono (by omega), rfl⟩
theorem unlink_good {K : Nat} {S : Fil} (h : Good K S) {p : List UInt8} : Good (K + 3) (unlink S p).1 ∧ (unlink S p).1.O = S.O := by
  have hS : Good (K + 3) S ∧ S.O = S.O := ⟨h.mono (by omega), rfl⟩
  unfold unlink
  split
  · exact hS
  rename_i n hn
  split
  · exact hS
  split
  · exact hS
  rename_i q hq
  have hlt := find_lt h.ok hn
  have h1 := nodeD_links h hlt
  have g1 := ((h.take q.1 q.2).mono (Nat.le_succ K)).set n (y := { nodeD S.N n with links := (nodeD S.N n).links - 1 }) (nodeD_dir _ _) (nodeD_data h hlt) ⟨by simp only; omega, by simp only; omega⟩
  exact ⟨g1.mono (by omega), rfl⟩
theorem rename_good {K : Nat} {S : Fil} (h : Good K S) {p p2 : List UInt8} : Good (K + 3) (rename S p p2).1 ∧ (rename S p p2).1.O = S.O := by
  have hS : Good (K + 3) S ∧ S.O = S.O := ⟨h.mono (by omega), rfl⟩
  unfold rename
  split
  · exact hS
  split
  · exact hS
  rename_i n hn
  split
  · exact hS
  split
  · exact hS
  rename_i q hq
  split
  · exact hS
  split
  · exact hS
  split
  · exact hS
  rename_i o ho
  obtain ⟨z, hz⟩ : ∃ z, z = look S.E q.1 q.2 := ⟨_, rfl⟩
  rw [← hz]
  have g1 := (h.over z q).take o.1 o.2
  have hl : look (take (over S z q).E o.1 o.2) q.1 q.2 < 0 := by
    by_cases hoq : q.1 = o.1 ∧ q.2 = o.2
    · rw [hoq.1, hoq.2, look_take_same]; omega
    · rw [look_take_other hoq]
      unfold over
      split
      · simp only
        rw [look_take_same]; omega
      · rename_i hneg
        rw [← hz]; omega
  have g2 := g1.addE (d := q.1) (x := q.2) (n := n) (by simp only; rw [over_dir]; exact (place_lt h.ok hq).2) (place_name hq) hl (by simp only; rw [(over_len z q).1]; exact find_lt h.ok hn)
  exact ⟨g2.mono (by omega), (over_len z q).2.2⟩
theorem laid_len {s d : List UInt8} {o : Nat} : (laid s o d).length = max s.length (o + d.length) := by
  unfold laid
  rw [List.length_append, List.length_append, sized_len, List.length_drop]
  omega
theorem file_good {K : Nat} {S : Fil} (h : Good K S) (hf : Few S) {cl : Int} {n : Nat} {kind fd off m : Int} {d : List UInt8} (hn : n < S.N.length) : Good (K + 3) (file S cl n kind fd off m d).1 ∧ Few (file S cl n kind fd off m d).1 := by
  have hS : Good (K + 3) S ∧ Few S := ⟨h.mono (by omega), hf⟩
  have h1 := nodeD_links h hn
  have h2 := nodeD_data h hn
  unfold file
  split
  · exact ⟨(h.fltO _).mono (by omega), fun o ho => hf o (List.mem_filter.1 ho).1⟩
  split
  · exact hS
  split
  · split
    · exact hS
    split
    · exact hS
    split
    · exact hS
    · exact ⟨(h.set n (y := { nodeD S.N n with data := laid (nodeD S.N n).data off.toNat d }) (nodeD_dir _ _) (by simp only; rw [laid_len]; omega) h1).mono (by omega), hf⟩
  split
  · split
    · exact hS
    split
    · exact hS
    · exact ⟨(h.set n (y := { nodeD S.N n with data := sized (nodeD S.N n).data m.toNat }) (nodeD_dir _ _) (by simp only; rw [sized_len]; omega) h1).mono (by omega), hf⟩
  · exact hS
theorem few_same {S T : Fil} (h : Few S) (e : T.O = S.O) : Few T := by
  unfold Few
  rw [e]
  exact h
theorem do_good {K : Nat} {S : Fil} (h : Good K S) (hf : Few S) (cl kind : Int) (p p2 : List UInt8) (flags fd off m : Int) (d : List UInt8) : Good (K + 3) (doA S cl kind p p2 flags fd off m d).1 ∧ Few (doA S cl kind p p2 flags fd off m d).1 := by
  have hS : Good (K + 3) S ∧ Few S := ⟨h.mono (by omega), hf⟩
  unfold doA
  split
  · exact hS
  rename_i hc
  split
  · exact opens_good h hf (by omega)
  split
  · split
    · exact hS
    · rename_i hz
      have := ofd_lt (c := cl) (fd := fd) h.ok.opn
      exact file_good h hf (by omega)
  split
  · exact ⟨(mkdir_good h).1, few_same hf (mkdir_good h).2⟩
  split
  · exact ⟨(rmdir_good h).1, few_same hf (rmdir_good h).2⟩
  split
  · exact ⟨(link_good h).1, few_same hf (link_good h).2⟩
  split
  · exact ⟨(unlink_good h).1, few_same hf (unlink_good h).2⟩
  split
  · exact ⟨(rename_good h).1, few_same hf (rename_good h).2⟩
  split
  · exact hS
  · exact hS
theorem drop_good {K : Nat} {S : Fil} (h : Good K S) (hf : Few S) (cl : Int) : Good K { S with O := drop S.O cl } ∧ Few { S with O := drop S.O cl } :=
  ⟨h.fltO _, fun o ho => hf o (List.mem_filter.1 ho).1⟩
theorem new_good : Good 1 newFS ∧ Few newFS :=
  ⟨{ ok := ⟨by decide, fun e he => by simp [newFS] at he, fun o ho => by simp [newFS] at ho⟩
     n := by decide
     e := by decide
     o := by decide
     data := fun x hx => by simp [newFS] at hx; subst hx; decide
     links := fun x hx => by simp [newFS] at hx; subst hx; decide
     name := fun e he => by simp [newFS] at he
     once := List.Pairwise.nil
     one := List.Pairwise.nil
     root := rfl
     dirs := fun e he => by simp [newFS] at he
     fds := fun o ho => by simp [newFS] at ho }, fun o ho => by simp [newFS] at ho⟩
theorem Few.i64 {S : Fil} (h : Few S) : ∀ o ∈ S.O, I64 o.client ∧ I64 o.fd := fun o ho => by
  have := h o ho
  exact ⟨i64_small (by omega) (by omega), i64_small (by omega) (by omega)⟩

end Pz
end Go.Proofs.YtbpejjmfdhkfhaaGreatDoor

/- The program's file system and the document's, side by side in memory. -/
namespace Go.Proofs.YtbpejjmfdhkfhaaGreatDoor
open Go.RowKit

/-- the program's at pr, in blocks of F; the document's at rr, in blocks of G; nothing that stood at the beginning has turned -/
structure Both [Inhabited XBox] (w0 : World) (pr rr : Nat) (S T : Pz.Fil) (F G : Nat → Prop) (w : World) : Prop where
  real : RealF pr S w F
  ref : RefF rr T w G
  apart : ∀ k, F k → ¬ G k
  fl : ∀ k, F k → k < w.heap.size ∧ (k = maxB ∨ w0.heap.size ≤ k)
  gl : ∀ k, G k → k < w.heap.size ∧ w0.heap.size ≤ k
  below : Below w0.heap.size w0 w
  x : MxX w0

theorem RealF.mxx [Inhabited XBox] {r : Nat} {S : Pz.Fil} {w : World} {F : Nat → Prop} (h : RealF r S w F) : MxX w := by
  obtain ⟨bo, β, μ, h⟩ := h
  exact h.mx
theorem Both.keep [Inhabited XBox] {w0 w w' : World} {pr rr : Nat} {S T : Pz.Fil} {F G : Nat → Prop} (h : Both w0 pr rr S T F G w) (hb : Below w.heap.size w w') : Both w0 pr rr S T F G w' :=
  { real := (RealF.held _ _).below h.real hb
    ref := (RefF.held _ _).below h.ref hb
    apart := h.apart
    fl := fun k hk => ⟨Nat.lt_of_lt_of_le (h.fl k hk).1 hb.size, (h.fl k hk).2⟩
    gl := fun k hk => ⟨Nat.lt_of_lt_of_le (h.gl k hk).1 hb.size, (h.gl k hk).2⟩
    below := h.below.trans (hb.mono h.below.size)
    x := h.x }
theorem Both.doReal [Inhabited XBox] {w0 w w' : World} {pr rr : Nat} {S S' T : Pz.Fil} {F G : Nat → Prop} (h : Both w0 pr rr S T F G w) (hi : RealF pr S' w' (Gr F w)) (ho : Only F w w') :
    Both w0 pr rr S' T (fun k => Gr F w k ∧ k < w'.heap.size) G w' :=
  { real := (RealF.held _ _).mono hi fun k hk e => ⟨e, hk⟩
    ref := (RefF.held _ _).apart h.ref ho fun k _ hG hF => h.apart k hF hG
    apart := fun k hk hG => hk.1.elim (fun e => h.apart k e hG) fun e => absurd (h.gl k hG).1 (by omega)
    fl := fun k hk => ⟨hk.2, hk.1.elim (fun e => (h.fl k e).2) fun e => Or.inr (Nat.le_trans h.below.size e)⟩
    gl := fun k hk => ⟨Nat.lt_of_lt_of_le (h.gl k hk).1 ho.size, (h.gl k hk).2⟩
    below := ⟨ho.os.trans h.below.os, ho.tape.trans h.below.tape, ho.output.trans h.below.output, Nat.le_trans h.below.size ho.size, fun k hk => by
      by_cases hm : k = maxB
      · rw [hm]
        exact hi.mxx.2.trans h.x.2.symm
      · exact (ho.block k (Nat.lt_of_lt_of_le hk h.below.size) fun e => (h.fl k e).2.elim hm fun e => by omega).trans (h.below.block k hk)⟩
    x := h.x }
theorem Both.doRef [Inhabited XBox] {w0 w w' : World} {pr rr : Nat} {S T T' : Pz.Fil} {F G : Nat → Prop} (h : Both w0 pr rr S T F G w) (hi : RefF rr T' w' (Gr G w)) (ho : Only G w w') :
    Both w0 pr rr S T' F (fun k => Gr G w k ∧ k < w'.heap.size) w' :=
  { real := (RealF.held _ _).apart h.real ho fun k _ hF hG => h.apart k hF hG
    ref := (RefF.held _ _).mono hi fun k hk e => ⟨e, hk⟩
    apart := fun k hF hk => hk.1.elim (fun e => h.apart k hF e) fun e => absurd (h.fl k hF).1 (by omega)
    fl := fun k hk => ⟨Nat.lt_of_lt_of_le (h.fl k hk).1 ho.size, (h.fl k hk).2⟩
    gl := fun k hk => ⟨hk.2, hk.1.elim (fun e => (h.gl k e).2) fun e => Nat.le_trans h.below.size e⟩
    below := h.below.trans (ho.below h.below.size fun k hk e => absurd (h.gl k e).2 (by omega))
    x := h.x }
/-- what a call of the program's does to blocks that are neither old nor its own -/
theorem Both.farReal [Inhabited XBox] {w0 w w' : World} {pr rr : Nat} {S T : Pz.Fil} {F G : Nat → Prop} (h : Both w0 pr rr S T F G w) (ho : Only F w w') {k : Nat} (hk : k < w.heap.size) (hn : ¬ F k) : w'.heap[k]? = w.heap[k]? := ho.block k hk hn
theorem both_new [Inhabited XBox] {w0 w1 w2 : World} (hx : MxX w0) (hR : RealF (w0.heap.size + 3) newFS w1 (fun k => k = maxB ∨ w0.heap.size ≤ k)) (hb : Below w0.heap.size w0 w1) (hS : RefF w1.heap.size newFS w2 (fun k => w1.heap.size ≤ k)) (hb2 : Below w1.heap.size w1 w2) :
    Both w0 (w0.heap.size + 3) w1.heap.size newFS newFS (fun k => (k = maxB ∨ w0.heap.size ≤ k) ∧ k < w1.heap.size) (fun k => w1.heap.size ≤ k ∧ k < w2.heap.size) w2 :=
  { real := (RealF.held _ _).below ((RealF.held _ _).mono hR fun k hk e => ⟨e, hk⟩) hb2
    ref := (RefF.held _ _).mono hS fun k hk e => ⟨e, hk⟩
    apart := fun k hF hG => by omega
    fl := fun k hk => ⟨Nat.lt_of_lt_of_le hk.2 hb2.size, hk.1⟩
    gl := fun k hk => ⟨hk.2, Nat.le_trans hb.size hk.1⟩
    below := hb.trans (hb2.mono hb.size)
    x := hx }

/-- one thing that a client asks -/
structure Ask where
  cl : Int
  kind : Int
  p : ByteArray
  p2 : ByteArray
  flags : Int
  fd : Int
  off : Int
  n : Int
  data : ByteArray
  drop : Bool
/-- such things lie in a row -/
def Asks (w : World) (A : Option Addr) (L : List Ask) : Prop :=
  L = [] ∨ ∃ b o, A = some ⟨b, o, none⟩ ∧ b < w.heap.size ∧ ∀ (j : Nat) (a : Ask), L[j]? = some a →
    (w.cell? ⟨b, o + j * 10, none⟩ = some (.int .i64 a.cl) ∧ w.cell? ⟨b, o + j * 10 + 1, none⟩ = some (.int .i64 a.kind) ∧ w.cell? ⟨b, o + j * 10 + 2, none⟩ = some (.string a.p) ∧ w.cell? ⟨b, o + j * 10 + 3, none⟩ = some (.string a.p2) ∧ w.cell? ⟨b, o + j * 10 + 4, none⟩ = some (.int .i64 a.flags) ∧
     w.cell? ⟨b, o + j * 10 + 5, none⟩ = some (.int .i64 a.fd) ∧ w.cell? ⟨b, o + j * 10 + 6, none⟩ = some (.int .i64 a.off) ∧ w.cell? ⟨b, o + j * 10 + 7, none⟩ = some (.int .i64 a.n) ∧ w.cell? ⟨b, o + j * 10 + 8, none⟩ = some (.string a.data) ∧ w.cell? ⟨b, o + j * 10 + 9, none⟩ = some (.bool a.drop))
theorem Asks.keep {w w' : World} {A : Option Addr} {L : List Ask} (h : Asks w A L) (hb : Below w.heap.size w w') : Asks w' A L := by
  rcases h with h | ⟨b, o, h1, h2, h3⟩
  · exact Or.inl h
  · have e : ∀ i, w'.cell? ⟨b, i, none⟩ = w.cell? ⟨b, i, none⟩ := fun i => hb.cell (p := ⟨b, i, none⟩) h2
    exact Or.inr ⟨b, o, h1, Nat.lt_of_lt_of_le h2 hb.size, fun j a ha => by simp only [e]; exact h3 j a ha⟩

/-- what a client's ask does to the plain file system -/
def askA (S : Pz.Fil) (a : Ask) : Pz.Fil :=
  if a.drop then { S with O := Pz.drop S.O a.cl }
  else (Pz.doA S a.cl a.kind (cutB a.p 60).data.toList (cutB a.p2 60).data.toList a.flags a.fd a.off a.n (cutB a.data 100).data.toList).1
theorem ask_good {K : Nat} {S : Pz.Fil} (h : Pz.Good K S) (hf : Pz.Few S) (a : Ask) : Pz.Good (K + 3) (askA S a) ∧ Pz.Few (askA S a) := by
  unfold askA
  split
  · exact ⟨(Pz.drop_good h hf a.cl).1.mono (by omega), (Pz.drop_good h hf a.cl).2⟩
  · exact Pz.do_good h hf _ _ _ _ _ _ _ _ _

end Go.Proofs.YtbpejjmfdhkfhaaGreatDoor
