/- Walks: a memory, and a volume over it, in a law: what they have, beside own variables. -/
import Derived.Test.YtccpdkjonepoiaaGreatDoorW21
import Derived.Test.YtccpdkjonepoiaaGreatDoorW16
import Derived.Test.YtccpdkjonepoiaaGreatDoorW19
set_option linter.unusedVariables false
set_option linter.unusedSimpArgs false
set_option linter.unusedSectionVars false
namespace Go.Proofs.YtccpdkjonepoiaaGreatDoor
open Go.RowKit Go.Shelf

/-- a memory in a call's own blocks, beside variables of one's own -/
def Mst [MemNo] (S : List UInt8) (K : Nat) (w a : World) (Ls : List (Nat × Obj)) : Prop :=
  ∃ sb lb ab n, MemAt a MemNo.no sb lb ab n S K ∧ (w.heap.size ≤ MemNo.no ∧ w.heap.size ≤ sb ∧ w.heap.size ≤ lb ∧ w.heap.size ≤ ab) ∧ Below w.heap.size w a ∧ ∀ p ∈ Ls, w.heap.size ≤ p.1 ∧ p.1 ≠ MemNo.no ∧ ¬ Mem3 sb lb ab p.1 ∧ a.heap[p.1]? = some p.2
theorem mem3_lt {w : World} {m sb lb ab n K k : Nat} {S : List UInt8} (h : MemAt w m sb lb ab n S K) (hk : Mem3 sb lb ab k) : k < w.heap.size := h.lts k (Or.inr hk)
section
variable {K : Nat} {S : List UInt8} {w a b : World} {Ls : List (Nat × Obj)}
theorem Mst.belowW [MemNo] (h : Mst S K w a Ls) : Below w.heap.size w a := by
  obtain ⟨sb, lb, ab, n, h1, h2, h3, h4⟩ := h
  exact h3
theorem Mst.size [MemNo] (h : Mst S K w a Ls) : w.heap.size ≤ a.heap.size := h.belowW.size
theorem Mst.get [MemNo] (h : Mst S K w a Ls) {k : Nat} {o : Obj} (hk : (k, o) ∈ Ls) : a.heap[k]? = some o := by
  obtain ⟨sb, lb, ab, n, h1, h2, h3, h4⟩ := h
  exact (h4 _ hk).2.2.2
theorem Mst.below [MemNo] (h : Mst S K w a Ls) (hb : Below a.heap.size a b) : Mst S K w b Ls := by
  have hs := h.size
  obtain ⟨sb, lb, ab, n, h1, h2, h3, h4⟩ := h
  refine ⟨sb, lb, ab, n, h1.keep fun k hk => hb.block k (h1.lts k hk), h2, h3.trans (hb.mono hs), fun p hp => ⟨(h4 p hp).1, (h4 p hp).2.1, (h4 p hp).2.2.1, ?_⟩⟩
  exact (hb.block p.1 (lt_get (h4 p hp).2.2.2)).trans (h4 p hp).2.2.2
theorem Mst.new [MemNo] (h : Mst S K w a Ls) (hb : Below a.heap.size a b) {k : Nat} {o : Obj} (hk : a.heap.size ≤ k) (ho : b.heap[k]? = some o) : Mst S K w b ((k, o) :: Ls) := by
  have hs := h.size
  obtain ⟨sb, lb, ab, n, h1, h2, h3, h4⟩ := h.below hb
  obtain ⟨sb', lb', ab', n', h1', -⟩ := h
  have hm : MemNo.no < a.heap.size := lt_get h1'.obj
  refine ⟨sb, lb, ab, n, h1, h2, h3, fun p hp => ?_⟩
  rcases List.mem_cons.1 hp with rfl | hp
  · refine ⟨Nat.le_trans hs hk, fun e => ?_, fun e => ?_, ho⟩
    · dsimp only at e
      omega
    · have e1 := h1'.obj
      have e2 := h1.obj
      rw [hb.block _ hm, e1] at e2
      have e3 := (Obj.cells.inj (Option.some.inj e2)).1
      have l := fun q hq => mem3_lt h1' (k := q) hq
      have s1 : sb' = sb := by injection e3 with e3; injection e3 with e3 e4; injection e3 with e3; injection e3 with e3; injection e3
      have s2 : lb' = lb := by injection e3 with e3; injection e3 with e3 e4; injection e4 with e4 e5; injection e4 with e4; injection e4 with e4; injection e4
      have s3 : ab' = ab := by injection e3 with e3; injection e3 with e3 e4; injection e4 with e4 e5; injection e5 with e5 e6; injection e5 with e5; injection e5
      subst s1; subst s2; subst s3
      exact absurd (l _ e) (Nat.not_lt.2 hk)
  · exact h4 p hp
theorem Mst.less [MemNo] {Ls' : List (Nat × Obj)} (h : Mst S K w a Ls) (hL : ∀ p ∈ Ls', p ∈ Ls) : Mst S K w a Ls' := by
  obtain ⟨sb, lb, ab, n, h1, h2, h3, h4⟩ := h
  exact ⟨sb, lb, ab, n, h1, h2, h3, fun p hp => h4 p (hL p hp)⟩
theorem Mst.alloc [MemNo] (h : Mst S K w a Ls) (C : Array Value) (ty : TypeId) : Mst S K w (a.alloc (.cells C ty)) ((a.heap.size, .cells C ty (0, 0)) :: Ls) :=
  h.new ((Below.refl _ _).alloc (Nat.le_refl _) _) (Nat.le_refl _) (heap_alloc_new _ _)
/-- a call on the memory -/
theorem Mst.open [MemNo] (h : Mst S K w a Ls) : ∃ sb lb ab n, MemAt a MemNo.no sb lb ab n S K ∧ (∀ k, k < w.heap.size → ¬ Mem3 sb lb ab k) ∧ (∀ p ∈ Ls, ¬ Mem3 sb lb ab p.1) ∧ ∀ (S2 : List UInt8) (K2 : Nat) (b : World), MemAt b MemNo.no sb lb ab n S2 K2 → Only (Mem3 sb lb ab) a b → Mst S2 K2 w b Ls := by
  obtain ⟨sb, lb, ab, n, h1, h2, h3, h4⟩ := h
  have low : ∀ k, k < w.heap.size → ¬ Mem3 sb lb ab k := by
    rintro k hk (e | e | e) <;> omega
  refine ⟨sb, lb, ab, n, h1, low, fun p hp => (h4 p hp).2.2.1, fun S2 K2 b hM hO => ⟨sb, lb, ab, n, hM, h2, h3.trans (hO.below h3.size low), fun p hp => ?_⟩⟩
  obtain ⟨q1, q2, q3, q4⟩ := h4 p hp
  exact ⟨q1, q2, q3, (hO.block p.1 (lt_get q4) q3).trans q4⟩
theorem Mst.memF [MemNo] (h : Mst S K w a Ls) : MemF MemNo.no S K a fun k => w.heap.size ≤ k := by
  obtain ⟨sb, lb, ab, n, h1, h2, h3, h4⟩ := h
  exact ⟨sb, lb, ab, n, h1, h2⟩
theorem Mst.more [MemNo] {L : Nat} (h : Mst S K w a Ls) (hK : K ≤ L) : Mst S L w a Ls := by
  obtain ⟨sb, lb, ab, n, h1, h2, h3, h4⟩ := h
  exact ⟨sb, lb, ab, n, h1.more hK, h2, h3, h4⟩
/-- a variable of one's own is stored into -/
theorem Mst.turn [MemNo] (h : Mst S K w a Ls) {k : Nat} {o o2 : Obj} (hk : (k, o) ∈ Ls) (hO : Only (fun q => q = k) a b) (ho : b.heap[k]? = some o2) (Ls' : List (Nat × Obj)) (hL : ∀ p ∈ Ls', p = (k, o2) ∨ (p ∈ Ls ∧ p.1 ≠ k)) : Mst S K w b Ls' := by
  obtain ⟨sb, lb, ab, n, h1, h2, h3, h4⟩ := h
  obtain ⟨e1, e2, e3, e4⟩ := h4 _ hk
  dsimp only at e1 e2 e3 e4
  refine ⟨sb, lb, ab, n, h1.keep fun q hq => hO.block q (h1.lts q hq) ?_, h2, h3.trans (hO.below h3.size fun q hq e => by omega), fun p hp => ?_⟩
  · rintro rfl
    rcases hq with e | e
    · exact e2 e
    · exact e3 e
  rcases hL p hp with rfl | ⟨hp, hne⟩
  · exact ⟨e1, e2, e3, ho⟩
  · obtain ⟨q1, q2, q3, q4⟩ := h4 p hp
    exact ⟨q1, q2, q3, (hO.block _ (lt_get q4) hne).trans q4⟩
theorem Mst.set [MemNo] (h : Mst S K w a Ls) {k j : Nat} {C : Array Value} {ty : TypeId} {v : Value} (hk : (k, Obj.cells C ty (0, 0)) ∈ Ls) (Ls' : List (Nat × Obj)) (hL : ∀ p ∈ Ls', p = (k, Obj.cells (C.setIfInBounds j v) ty (0, 0)) ∨ (p ∈ Ls ∧ p.1 ≠ k)) :
    Mst S K w (a.setCell ⟨k, j, none⟩ v) Ls' :=
  h.turn hk (only_setCell a _ _ rfl) (heap_setCell_same a k j C ty v (h.get hk)) Ls' hL
end
theorem Tl.mst [MemNo] {x t c K : Nat} {S : List UInt8} {M : Gd.Vol} {w a : World} {Ls : List (Nat × Obj)} (h : Tl x t S M c K Nof w a Ls) : Mst S K w a Ls := by
  have hB := h.belowW
  obtain ⟨F', h1, h2⟩ := h
  obtain ⟨P, hm, -⟩ := h1.inv
  obtain ⟨m, g, pv, ⟨sb, lb, ab, n, hM, f1, f2, f3, f4⟩, -, -, -, -, -, -, hn⟩ := hm.txn
  subst hn
  have low : ∀ k, F' k → w.heap.size ≤ k := fun k hk => Nat.not_lt.1 fun e => h1.old k e hk
  refine ⟨sb, lb, ab, n, hM, ⟨low _ f1.1, low _ f2.1, low _ f3.1, low _ f4.1⟩, hB, fun p hp => ?_⟩
  obtain ⟨q1, q2, q3⟩ := h2 p hp
  refine ⟨q1, fun e => q2 (e ▸ f1.1), ?_, q3⟩
  rintro (e | e | e)
  · exact q2 (e ▸ f2.1)
  · exact q2 (e ▸ f3.1)
  · exact q2 (e ▸ f4.1)

/-- a volume's own objects -/
def oVolu (t x f : Nat) : Obj := .cells #[.pointer (some ⟨t, 0, none⟩), .pointer (some ⟨x, 0, none⟩), .pointer (some ⟨f, 0, none⟩)] 79 (0, 0)
def oFilu (t x : Nat) : Obj := .cells #[.pointer (some ⟨t, 0, none⟩), .pointer (some ⟨x, 0, none⟩)] 182 (0, 0)
def oLogu [MemNo] : Obj := .cells #[.pointer (some ⟨MemNo.no, 0, none⟩), .int .i64 2688, .int .i64 4096] 145 (0, 0)
/-- a volume at o over the bytes S, with the changes P -/
def Vp [MemNo] (o x t f : Nat) (S : List UInt8) (P : List Gd.Pa) (c K : Nat) (w a : World) (Ls : List (Nat × Obj)) : Prop :=
  ∃ F', Step (MetaF x t S P c K) Nof w F' a ∧ ∀ p ∈ (o, oVolu t x f) :: (f, oFilu t x) :: Ls, w.heap.size ≤ p.1 ∧ ¬ F' p.1 ∧ a.heap[p.1]? = some p.2
section
variable {o x t f c K : Nat} {S : List UInt8} {P : List Gd.Pa} {M : Gd.Vol} {w a b : World} {Ls : List (Nat × Obj)}
theorem Vp.tl [MemNo] (h : Vp o x t f S P c K w a Ls) (hG : Gd.Good (Gd.view S P) M) : Tl x t S M c K Nof w a ((o, oVolu t x f) :: (f, oFilu t x) :: Ls) := by
  obtain ⟨F', h1, h2⟩ := h
  exact ⟨F', h1.mono fun hi => ⟨P, hi, hG⟩, h2⟩
theorem Vp.of [MemNo] (h : Tl x t S M c K Nof w a ((o, oVolu t x f) :: (f, oFilu t x) :: Ls)) : ∃ P, Vp o x t f S P c K w a Ls ∧ Gd.Good (Gd.view S P) M := by
  obtain ⟨F', h1, h2⟩ := h
  obtain ⟨P, hi, hG⟩ := h1.inv
  exact ⟨P, ⟨F', h1.mono fun _ => hi, h2⟩, hG⟩
theorem Vp.metaF [MemNo] (h : Vp o x t f S P c K w a Ls) : ∃ F', MetaF x t S P c K a F' ∧ (∀ k, k < w.heap.size → ¬ F' k) ∧ (∀ p ∈ (o, oVolu t x f) :: (f, oFilu t x) :: Ls, ¬ F' p.1) ∧ ∀ (S2 : List UInt8) (P2 : List Gd.Pa) (d K2 : Nat) (b : World) (F2 : Nat → Prop), Step (MetaF x t S2 P2 d K2) F' a F2 b → Vp o x t f S2 P2 d K2 w b Ls := by
  obtain ⟨F', h1, h2⟩ := h
  refine ⟨F', h1.inv, fun k hk e => h1.old k hk e, fun p hp => (h2 p hp).2.1, fun S2 P2 d K2 b F2 k2 => ⟨F2, h1.trans k2, fun p hp => ?_⟩⟩
  obtain ⟨q1, q2, q3⟩ := h2 p hp
  obtain ⟨o1, o2⟩ := k2.own (lt_get q3) q2
  exact ⟨q1, o2, o1.trans q3⟩
theorem Vp.belowW [MemNo] (h : Vp o x t f S P c K w a Ls) : Below w.heap.size w a := by
  obtain ⟨F', h1, _⟩ := h
  exact h1.only.below (Nat.le_refl _) fun _ _ e => e
theorem Vp.size [MemNo] (h : Vp o x t f S P c K w a Ls) : w.heap.size ≤ a.heap.size := h.belowW.size
theorem Vp.get [MemNo] (h : Vp o x t f S P c K w a Ls) {k : Nat} {o' : Obj} (hk : (k, o') ∈ Ls) : a.heap[k]? = some o' := by
  obtain ⟨F', _, h2⟩ := h
  exact (h2 _ (List.mem_cons_of_mem _ (List.mem_cons_of_mem _ hk))).2.2
theorem Vp.vol [MemNo] (h : Vp o x t f S P c K w a Ls) : VolAt a o t x f := by
  obtain ⟨F', _, h2⟩ := h
  exact (h2 _ (List.mem_cons_self ..)).2.2
theorem Vp.below [MemNo] (h : Vp o x t f S P c K w a Ls) (hb : Below a.heap.size a b) : Vp o x t f S P c K w b Ls := by
  obtain ⟨F', h1, h2⟩ := h
  refine ⟨F', ⟨h1.inv.below hb, h1.old, h1.only.trans (below_only hb F') fun j hj e => h1.old j hj e⟩, fun p hp => ?_⟩
  obtain ⟨q1, q2, q3⟩ := h2 p hp
  exact ⟨q1, q2, (hb.block _ (lt_get q3)).trans q3⟩
theorem Vp.new [MemNo] (h : Vp o x t f S P c K w a Ls) (hb : Below a.heap.size a b) {k : Nat} {o' : Obj} (hk : a.heap.size ≤ k) (ho : b.heap[k]? = some o') : Vp o x t f S P c K w b ((k, o') :: Ls) := by
  obtain ⟨F', h1, h2⟩ := h
  refine ⟨F', ⟨h1.inv.below hb, h1.old, h1.only.trans (below_only hb F') fun j hj e => h1.old j hj e⟩, fun p hp => ?_⟩
  have hn : w.heap.size ≤ k ∧ ¬ F' k ∧ b.heap[k]? = some o' := ⟨Nat.le_trans h1.only.size hk, fun e => by
    have := h1.inv.tight _ e
    omega, ho⟩
  have hold : ∀ p ∈ (o, oVolu t x f) :: (f, oFilu t x) :: Ls, w.heap.size ≤ p.1 ∧ ¬ F' p.1 ∧ b.heap[p.1]? = some p.2 := fun p hp => by
    obtain ⟨q1, q2, q3⟩ := h2 p hp
    exact ⟨q1, q2, (hb.block _ (lt_get q3)).trans q3⟩
  rcases List.mem_cons.1 hp with rfl | hp
  · exact hold _ (List.mem_cons_self ..)
  rcases List.mem_cons.1 hp with rfl | hp
  · exact hold _ (List.mem_cons_of_mem _ (List.mem_cons_self ..))
  rcases List.mem_cons.1 hp with rfl | hp
  · exact hn
  · exact hold _ (List.mem_cons_of_mem _ (List.mem_cons_of_mem _ hp))
theorem Vp.less [MemNo] {Ls' : List (Nat × Obj)} (h : Vp o x t f S P c K w a Ls) (hL : ∀ p ∈ Ls', p ∈ Ls) : Vp o x t f S P c K w a Ls' := by
  obtain ⟨F', h1, h2⟩ := h
  refine ⟨F', h1, fun p hp => h2 p ?_⟩
  rcases List.mem_cons.1 hp with rfl | hp
  · exact List.mem_cons_self ..
  rcases List.mem_cons.1 hp with rfl | hp
  · exact List.mem_cons_of_mem _ (List.mem_cons_self ..)
  · exact List.mem_cons_of_mem _ (List.mem_cons_of_mem _ (hL p hp))
theorem Vp.alloc [MemNo] (h : Vp o x t f S P c K w a Ls) (C : Array Value) (ty : TypeId) : Vp o x t f S P c K w (a.alloc (.cells C ty)) ((a.heap.size, .cells C ty (0, 0)) :: Ls) :=
  h.new ((Below.refl _ _).alloc (Nat.le_refl _) _) (Nat.le_refl _) (heap_alloc_new _ _)
/-- a call that changes -/
theorem Vp.next [MemNo] {S2 : List UInt8} {P2 : List Gd.Pa} {d K2 : Nat} {F1 F2 : Nat → Prop} (h1 : Step (MetaF x t S P c K) Nof w F1 a) (h2 : ∀ p ∈ (o, oVolu t x f) :: (f, oFilu t x) :: Ls, w.heap.size ≤ p.1 ∧ ¬ F1 p.1 ∧ a.heap[p.1]? = some p.2) (k2 : Step (MetaF x t S2 P2 d K2) F1 a F2 b) : Vp o x t f S2 P2 d K2 w b Ls := by
  refine ⟨F2, h1.trans k2, fun p hp => ?_⟩
  obtain ⟨q1, q2, q3⟩ := h2 p hp
  obtain ⟨o1, o2⟩ := k2.own (lt_get q3) q2
  exact ⟨q1, o2, o1.trans q3⟩
theorem Vp.mst [MemNo] (h : Vp o x t f S P c K w a Ls) : Mst S K w a Ls := by
  have hB := h.belowW
  obtain ⟨F', h1, h2⟩ := h
  have hm := h1.inv
  obtain ⟨m, g, pv, ⟨sb, lb, ab, n, hM, f1, f2, f3, f4⟩, -, -, -, -, -, -, hn⟩ := hm.txn
  subst hn
  have low : ∀ k, F' k → w.heap.size ≤ k := fun k hk => Nat.not_lt.1 fun e => h1.old k e hk
  refine ⟨sb, lb, ab, n, hM, ⟨low _ f1.1, low _ f2.1, low _ f3.1, low _ f4.1⟩, hB, fun p hp => ?_⟩
  obtain ⟨q1, q2, q3⟩ := h2 p (List.mem_cons_of_mem _ (List.mem_cons_of_mem _ hp))
  refine ⟨q1, fun e => q2 (e ▸ f1.1), ?_, q3⟩
  rintro (e | e | e)
  · exact q2 (e ▸ f2.1)
  · exact q2 (e ▸ f3.1)
  · exact q2 (e ▸ f4.1)
end
end Go.Proofs.YtccpdkjonepoiaaGreatDoor

/- Walks: a volume's memory, log and objects. -/
namespace Go.Proofs.YtccpdkjonepoiaaGreatDoor
open Go.RowKit Go.Shelf

attribute [local go_sem] Oper.semAt_some

set_option maxHeartbeats 4000000 in
set_option maxRecDepth 100000 in
theorem vis_nil (w : World) : Calls Tryz.prog 42 #[.pointer none] w fun e w' => e = .returned (.bool false) ∧ Below w.heap.size w w' := by
  go_enter Tryz.func42, Tryz.ntmps42
  go_wp2
  go_ret
  exact ⟨rfl, Below.refl _ _⟩

set_option maxHeartbeats 4000000 in
set_option maxRecDepth 100000 in
theorem vis_any {m sb lb ab n K : Nat} {S : List UInt8} (w : World) (h : MemAt w m sb lb ab n S K) : Calls Tryz.prog 42 #[.pointer (some ⟨m, 0, none⟩)] w fun e w' => e = .returned (.bool (decide (S.length = 23168))) ∧ Below w.heap.size w w' := by
  have hn : ((S.length : Nat) : Int) = 23168 ↔ S.length = 23168 := by omega
  obtain ⟨N, hN⟩ : ∃ N, N = S.length := ⟨_, rfl⟩
  have HSz := size_any w h
  rw [← hN] at HSz hn ⊢
  have HSz := Lib.hid HSz
  have Hn := Lib.hid hn
  clear h hN hn
  go_enter Tryz.func42, Tryz.ntmps42
  go_wp2_with fail
  refine HSz.out.mono ?_
  rintro e w1 ⟨rfl, rfl⟩
  go_wp2_with fail
  refine (size_any5 _).mono ?_
  rintro e w2 ⟨rfl, hb2⟩
  have HB2 := Lib.hid hb2
  go_wp2
  go_ret
  refine ⟨?_, HB2.out⟩
  congr 2
  by_cases e : N = 23168
  · subst e; rfl
  · have e2 : ¬ ((N : Int) = 23168) := fun h => e (Hn.out.1 h)
    simp [e, e2]

theorem PaLight.nil (c : Nat) : PaLight [] c := ⟨Nat.zero_le _, fun _ hp => by cases hp⟩
/-- a volume's objects over a memory -/
theorem vp_start [MemNo] {g t x f o K : Nat} {S : List UInt8} {w a b : World} {Ls : List (Nat × Obj)} (h : Mst S K w a ((g, oLogu) :: Ls)) (hne : ∀ p ∈ Ls, p.1 ≠ g) (hS : S.length = 23168) (he : Gd.part S 2688 8 = Gd.le 0 8) (hb : Below a.heap.size a b)
    (ht1 : a.heap.size ≤ t) (hx1 : a.heap.size ≤ x) (hf1 : a.heap.size ≤ f) (ho1 : a.heap.size ≤ o) (htx : t ≠ x) (hft : f ≠ t) (hfx : f ≠ x) (hot : o ≠ t) (hox : o ≠ x)
    (ht : b.heap[t]? = some (.cells #[.pointer (some ⟨MemNo.no, 0, none⟩), .pointer (some ⟨g, 0, none⟩), .slice none 0 0] 133 (0, 0))) (hx : b.heap[x]? = some (.cells #[.pointer (some ⟨t, 0, none⟩)] 163 (0, 0))) (hf : b.heap[f]? = some (oFilu t x)) (ho : b.heap[o]? = some (oVolu t x f)) :
    Vp o x t f S [] 0 K w b Ls := by
  have hs := h.size
  have hgl := lt_get (h.get (List.mem_cons_self ..))
  obtain ⟨sb, lb, ab, n, h1, ⟨m1, m2, m3, m4⟩, h3, h4⟩ := h
  have hm := lt_get h1.obj
  have hl := fun k hk => mem3_lt h1 (k := k) hk
  obtain ⟨g1, g2, g3, g4⟩ := h4 _ (List.mem_cons_self ..)
  dsimp only at g1 g2 g3 g4
  have hM : MemAt b MemNo.no sb lb ab n S K := h1.keep fun k hk => hb.block k (h1.lts k hk)
  have hg : LogAt b g MemNo.no 2688 4096 := (hb.block g hgl).trans g4
  have q1 := hl sb (Or.inl rfl)
  have q2 := hl lb (Or.inr (Or.inl rfl))
  have q3 := hl ab (Or.inr (Or.inr rfl))
  obtain ⟨F', hF'⟩ : ∃ F' : Nat → Prop, F' = fun k => k = MemNo.no ∨ Mem3 sb lb ab k ∨ k = g ∨ k = t ∨ k = x := ⟨_, rfl⟩
  have low : ∀ k, F' k → w.heap.size ≤ k ∧ k < b.heap.size := by
    have hbs := hb.size
    have t2 := lt_get ht
    have x2 := lt_get hx
    rintro k hk
    rw [hF'] at hk
    rcases hk with rfl | (rfl | rfl | rfl) | rfl | rfl | rfl <;> constructor <;> omega
  have inF : ∀ k, (k = MemNo.no ∨ Mem3 sb lb ab k ∨ k = g ∨ k = t ∨ k = x) → F' k := fun k hk => by rw [hF']; exact hk
  have hT : TxnF t S [] K b (Fx x F') :=
    ⟨MemNo.no, g, .slice none 0 0, ⟨sb, lb, ab, n, hM, ⟨inF _ (Or.inl rfl), by omega⟩, ⟨inF _ (Or.inr (Or.inl (Or.inl rfl))), by omega⟩, ⟨inF _ (Or.inr (Or.inl (Or.inr (Or.inl rfl)))), by omega⟩, ⟨inF _ (Or.inr (Or.inl (Or.inr (Or.inr rfl)))), by omega⟩⟩, ⟨ht, World.ownsRow_nil _ _ _ _⟩, hg, ⟨inF _ (Or.inr (Or.inr (Or.inr (Or.inl rfl)))), htx⟩, ⟨inF _ (Or.inr (Or.inr (Or.inl rfl))), by omega⟩, (fun q hq => by cases hq), ⟨(fun p hp => by cases hp), (fun p hp => by cases hp), Nat.zero_le _⟩, rfl⟩
  refine ⟨F', ⟨⟨hT, hx, inF _ (Or.inr (Or.inr (Or.inr (Or.inr rfl)))), hS, he, PaLight.nil 0, fun k hk => (low k hk).2⟩, fun k hk hF => absurd (low k hF).1 (Nat.not_le.2 hk), below_only (h3.trans (hb.mono hs)) _⟩, fun p hp => ?_⟩
  have new : ∀ k, a.heap.size ≤ k → k ≠ t → k ≠ x → ¬ F' k := fun k hk k1 k2 hF => by
    rw [hF'] at hF
    rcases hF with rfl | (rfl | rfl | rfl) | rfl | rfl | rfl <;> omega
  rcases List.mem_cons.1 hp with rfl | hp
  · exact ⟨Nat.le_trans hs ho1, new _ ho1 hot hox, ho⟩
  rcases List.mem_cons.1 hp with rfl | hp
  · exact ⟨Nat.le_trans hs hf1, new _ hf1 hft hfx, hf⟩
  obtain ⟨p1, p2, p3, p4⟩ := h4 p (List.mem_cons_of_mem _ hp)
  refine ⟨p1, fun hF => ?_, (hb.block _ (lt_get p4)).trans p4⟩
  have := lt_get p4
  rw [hF'] at hF
  rcases hF with e | e | e | e | e
  · exact p2 e
  · exact p3 e
  · exact hne p hp e
  · omega
  · omega

set_option maxHeartbeats 8000000 in
set_option maxRecDepth 100000 in
theorem vlog_any [MemNo] {S : List UInt8} {K : Nat} {w a : World} {Ls : List (Nat × Obj)} (h : Mst S K w a Ls) (hS : S.length = 23168) :
    Calls Tryz.prog 43 #[.pointer (some ⟨MemNo.no, 0, none⟩)] a fun e b => ∃ g, e = .returned (.pointer (some ⟨g, 0, none⟩)) ∧ Mst S K w b ((g, oLogu) :: Ls) ∧ ∀ p ∈ Ls, p.1 ≠ g := by
  have HF := Lib.hid (find_any5 5 0 a)
  rw [show Gd.ptAt 5 0 = some ⟨5, 0, 2688, 4096⟩ from rfl] at HF
  have H := Lib.hid h
  have HS := Lib.hid hS
  clear h hS
  go_enter Tryz.func43, Tryz.ntmps43
  go_wp2_with fail
  refine HF.out.mono ?_
  rintro e w1 ⟨rfl, hb1⟩
  have H1 := Lib.hid (H.out.below hb1)
  clear HF hb1
  unfold ptO ptV
  go_wp2_with fail
  have H2 := Lib.hid (H1.out.alloc #[.int .i64 5, .int .i64 0, .int .i64 2688, .int .i64 4096] 139)
  obtain ⟨sb, lb, ab, n, hM, -⟩ := H2.out.open
  refine (lnew_any _ hM HS.out).mono ?_
  rintro e w3 ⟨rfl, hw3⟩
  have H3 := Lib.hid (H2.out.alloc #[.pointer (some ⟨MemNo.no, 0, none⟩), .int .i64 2688, .int .i64 4096] 145)
  rw [← hw3] at H3
  clear hM hw3
  have He : Hid ((w1.alloc (.cells #[.int .i64 5, .int .i64 0, .int .i64 2688, .int .i64 4096] 139)).heap.size = w1.heap.size + 1) := Lib.hid (by simp)
  go_wp2
  go_ret
  refine ⟨_, rfl, H3.out.less fun p hp => ?_, fun p hp e => ?_⟩
  · rcases List.mem_cons.1 hp with rfl | hp
    · rw [← He.out]
      exact List.mem_cons_self ..
    · exact List.mem_cons_of_mem _ (List.mem_cons_of_mem _ hp)
  · have := lt_get (H2.out.get (k := p.1) (o := p.2) (List.mem_cons_of_mem _ hp))
    have := He.out
    omega

set_option maxHeartbeats 8000000 in
set_option maxRecDepth 100000 in
theorem vopen_any [MemNo] {g K : Nat} {S : List UInt8} {w a : World} {Ls : List (Nat × Obj)} (h : Mst S K w a ((g, oLogu) :: Ls)) (hne : ∀ p ∈ Ls, p.1 ≠ g) (hS : S.length = 23168) (he : Gd.part S 2688 8 = Gd.le 0 8) :
    Calls Tryz.prog 45 #[.pointer (some ⟨MemNo.no, 0, none⟩), .pointer (some ⟨g, 0, none⟩)] a fun e b => ∃ o x t f, e = .returned (.pointer (some ⟨o, 0, none⟩)) ∧ Vp o x t f S [] 0 K w b Ls := by
  have H := Lib.hid h
  have HN := Lib.hid hne
  have HS := Lib.hid (And.intro hS he)
  obtain ⟨m, hm⟩ : ∃ m, m = MemNo.no := ⟨_, rfl⟩
  have Hm := Lib.hid hm
  rw [← hm]
  clear h hne hS he hm
  go_enter Tryz.func45, Tryz.ntmps45
  go_wp2_with fail
  refine (tnew_any m g a).mono ?_
  rintro e w1 ⟨rfl, hw1⟩
  have hb1 : Below a.heap.size a w1 := by rw [hw1]; exact (Below.refl _ _).alloc (Nat.le_refl _) _
  have hT1 : w1.heap[a.heap.size]? = some (.cells #[.pointer (some ⟨m, 0, none⟩), .pointer (some ⟨g, 0, none⟩), .slice none 0 0] 133 (0, 0)) := by rw [hw1]; exact heap_alloc_new _ _
  obtain ⟨t, ht⟩ : ∃ t, t = a.heap.size := ⟨_, rfl⟩
  rw [← ht] at hT1 ⊢
  have HF1 : Hid (TxnF t S [] K w1 fun _ => True) := Lib.hid (by
    obtain ⟨sb, lb, ab, n, hM, -⟩ := (H.out.below hb1)
    exact ⟨MemNo.no, g, .slice none 0 0, ⟨sb, lb, ab, n, hM, trivial, trivial, trivial, trivial⟩, ⟨by rw [← Hm.out]; exact hT1, World.ownsRow_nil _ _ _ _⟩, (H.out.below hb1).get (List.mem_cons_self ..), trivial, trivial, (fun q hq => trivial), ⟨(fun p hp => by cases hp), (fun p hp => by cases hp), Nat.zero_le _⟩, rfl⟩)
  have HT1 := Lib.hid hT1
  have HB1 := Lib.hid hb1
  have Ht := Lib.hid ht
  clear hw1 hb1 hT1 ht
  go_wp2_with fail
  refine (xnew_any w1 HF1.out HS.out.1).mono ?_
  rintro e w2 ⟨x, rfl, hx, hx2, hb2⟩
  have HX := Lib.hid (And.intro hx hx2)
  have HB2 := Lib.hid hb2
  clear hx hx2 hb2 HF1
  go_wp2_with fail
  refine (fnew_any5 t x w2).mono ?_
  rintro e w3 ⟨rfl, hw3⟩
  have hb3 : Below w2.heap.size w2 w3 := by rw [hw3]; exact (Below.refl _ _).alloc (Nat.le_refl _) _
  have hF3 : w3.heap[w2.heap.size]? = some (oFilu t x) := by rw [hw3]; exact heap_alloc_new _ _
  obtain ⟨f, hf⟩ : ∃ f, f = w2.heap.size := ⟨_, rfl⟩
  rw [← hf] at hF3 ⊢
  have HF3 := Lib.hid (And.intro hF3 hf)
  have HB3 := Lib.hid hb3
  clear hw3 hb3 hF3 hf
  go_wp2
  go_ret
  have hb4 := (Below.refl w3.heap.size w3).alloc (Nat.le_refl _) (.cells #[.pointer (some ⟨t, 0, none⟩), .pointer (some ⟨x, 0, none⟩), .pointer (some ⟨f, 0, none⟩)] 79)
  have s1 := HB1.out.size
  have s2 := HB2.out.size
  have s3 := HB3.out.size
  have l1 := lt_get HT1.out
  have l2 := lt_get HX.out.2
  have l3 := lt_get HF3.out.1
  have l4 := Ht.out
  have l5 := HX.out.1
  have l6 := HF3.out.2
  have b13 : Below w1.heap.size w1 w3 := HB2.out.trans (HB3.out.mono s2)
  have b14 := b13.trans (hb4.mono (Nat.le_trans s2 s3))
  refine ⟨_, x, t, f, rfl, vp_start H.out HN.out HS.out.1 HS.out.2 (HB1.out.trans (b14.mono s1)) (t := t) (x := x) (f := f) (by omega) (by omega) (by omega) (by omega) (by omega) (by omega) (by omega) (by omega) (by omega) ?_ ?_ ?_ (heap_alloc_new _ _)⟩
  · rw [b14.block t l1, HT1.out, Hm.out]
  · rw [hb4.block x (by omega), HB3.out.block x l2]
    exact HX.out.2
  · rw [hb4.block f l3]
    exact HF3.out.1

end Go.Proofs.YtccpdkjonepoiaaGreatDoor

/- Walks: a volume is mounted, and formatted. -/
namespace Go.Proofs.YtccpdkjonepoiaaGreatDoor
open Go.RowKit Go.Shelf

attribute [local go_sem] Oper.semAt_some

theorem Mst.vis [MemNo] {S : List UInt8} {K : Nat} {w a : World} {Ls : List (Nat × Obj)} (h : Mst S K w a Ls) : Calls Tryz.prog 42 #[.pointer (some ⟨MemNo.no, 0, none⟩)] a fun e b => e = .returned (.bool (decide (S.length = 23168))) ∧ Mst S K w b Ls := by
  obtain ⟨sb, lb, ab, n, hM, -⟩ := h.open
  exact (vis_any a hM).mono fun e b ⟨he, hb⟩ => ⟨he, h.below hb⟩
theorem Mst.redo [MemNo] {g : Nat} {S : List UInt8} {K : Nat} {w a : World} {Ls : List (Nat × Obj)} (h : Mst S K w a ((g, oLogu) :: Ls)) (hS : S.length = 23168) (hK : K < 100000000000) :
    Calls Tryz.prog 44 #[.pointer (some ⟨g, 0, none⟩)] a fun e b => (∃ c : Nat, e = .returned (.int .i64 c)) ∧ ∃ S2 : List UInt8, S2.length = 23168 ∧ Gd.part S2 2688 8 = Gd.le 0 8 ∧ (Gd.part S 2688 8 = Gd.le 0 8 → S2 = S) ∧ Mst S2 (K + 654100000) w b ((g, oLogu) :: Ls) := by
  obtain ⟨sb, lb, ab, n, hM, hlow, hLs, hC⟩ := h.open
  refine (redo_gen a hM (h.get (List.mem_cons_self ..)) hS hK).mono ?_
  rintro e b ⟨⟨c, he, -⟩, ⟨S2, hl, hsame, hM2⟩, hO⟩
  have hf : 2688 + (List.replicate 8 (0 : UInt8)).length ≤ S2.length := by rw [List.length_replicate]; omega
  refine ⟨⟨c, he⟩, _, (Gd.splice_length hf).trans hl, ?_, fun h0 => ?_, hC _ _ _ (by rw [show K + 654100000 = K + 654080000 + 20000 by omega]; exact hM2) hO⟩
  · have := Gd.part_splice_same hf
    rw [List.length_replicate] at this
    rw [this]
    rfl
  · rw [hsame h0]
    exact Gd.splice_nil8 h0
theorem Mst.clear [MemNo] {g : Nat} {S : List UInt8} {K : Nat} {w a : World} {Ls : List (Nat × Obj)} (h : Mst S K w a ((g, oLogu) :: Ls)) (hS : S.length = 23168) (hK : K < 100000000000) :
    Calls Tryz.prog 47 #[.pointer (some ⟨g, 0, none⟩)] a fun e b => e = .returned (.tuple #[]) ∧ ∃ S2 : List UInt8, S2.length = 23168 ∧ Gd.part S2 2688 8 = Gd.le 0 8 ∧ Mst S2 (K + 20000) w b ((g, oLogu) :: Ls) := by
  obtain ⟨sb, lb, ab, n, hM, hlow, hLs, hC⟩ := h.open
  refine (clear_at a hM (h.get (List.mem_cons_self ..)) hS (by omega)).mono ?_
  rintro e b ⟨he, hM2, hO⟩
  have hf : 2688 + (List.replicate 8 (0 : UInt8)).length ≤ S.length := by rw [List.length_replicate]; omega
  refine ⟨he, _, (Gd.splice_length hf).trans hS, ?_, hC _ _ _ hM2 hO⟩
  have := Gd.part_splice_same hf
  rw [List.length_replicate] at this
  rw [this]
  rfl
theorem Vp.sound [MemNo] {o x t f K : Nat} {S : List UInt8} {w a : World} {Ls : List (Nat × Obj)} (h : Vp o x t f S [] 0 K w a Ls) :
    Calls Tryz.prog 46 #[.pointer (some ⟨o, 0, none⟩)] a fun e b => Vp o x t f S [] 0 K w b Ls ∧ ((Gd.SoundV S ∧ e = .returned (.bool true)) ∨ (¬ Gd.SoundV S ∧ e = .returned (.bool false))) := by
  obtain ⟨F', hm, -⟩ := h.metaF
  refine (sound_gen a hm h.vol).mono ?_
  rintro e b ⟨hb, hor⟩
  exact ⟨h.below hb, hor⟩

/-- what Mount comes to -/
def Mounted [MemNo] (S : List UInt8) (K : Nat) (w : World) (Ls : List (Nat × Obj)) (e : Ending) (b : World) : Prop :=
  ∃ S2 : List UInt8, S2.length = 23168 ∧ Gd.part S2 2688 8 = Gd.le 0 8 ∧ (Gd.part S 2688 8 = Gd.le 0 8 → S2 = S) ∧
    ((Gd.SoundV S2 ∧ ∃ o x t f, e = .returned (.tuple #[.pointer (some ⟨o, 0, none⟩), .int .i64 0]) ∧ Vp o x t f S2 [] 0 (K + 654100000) w b Ls) ∨ (¬ Gd.SoundV S2 ∧ e = .returned (.tuple #[.pointer none, .int .i64 36]) ∧ Mst S2 (K + 654100000) w b Ls))
set_option maxHeartbeats 8000000 in
set_option maxRecDepth 100000 in
theorem vmount_gen [MemNo] {K : Nat} {S : List UInt8} {w a : World} {Ls : List (Nat × Obj)} (h : Mst S K w a Ls) (hS : S.length = 23168) (hK : K < 100000000000) :
    Calls Tryz.prog 10 #[.pointer (some ⟨MemNo.no, 0, none⟩)] a (Mounted S K w Ls) := by
  have HIs := h.vis
  rw [hS, show decide (23168 = 23168) = true from rfl] at HIs
  have HIs := Lib.hid HIs
  have HS := Lib.hid (And.intro hS hK)
  clear h hS hK
  go_enter Tryz.func10, Tryz.ntmps10
  go_wp2_with fail
  refine HIs.out.mono ?_
  rintro e w1 ⟨rfl, h1⟩
  have HLg := Lib.hid (vlog_any h1 HS.out.1)
  clear h1 HIs
  go_wp2_with fail
  refine HLg.out.mono ?_
  rintro e w2 ⟨g, rfl, h2, hne⟩
  have HN := Lib.hid hne
  have HRd := Lib.hid (h2.redo HS.out.1 HS.out.2)
  clear h2 hne HLg
  go_wp2_with fail
  refine HRd.out.mono ?_
  rintro e w3 ⟨⟨c, rfl⟩, S2, hl2, he2, hs2, h3⟩
  have HS2 := Lib.hid (And.intro hl2 (And.intro he2 hs2))
  have HOp := Lib.hid (vopen_any h3 HN.out hl2 he2)
  clear h3 hl2 he2 hs2 HRd
  go_wp2_with fail
  refine HOp.out.mono ?_
  rintro e w4 ⟨o, x, t, f, rfl, h4⟩
  have HSo := Lib.hid h4.sound
  clear h4 HOp
  go_wp2_with fail
  refine HSo.out.mono ?_
  rintro e w5 ⟨h5, ⟨hs, rfl⟩ | ⟨hs, rfl⟩⟩
  · have H5 := Lib.hid (And.intro hs h5)
    clear hs h5 HSo
    go_wp2
    go_ret2
    exact ⟨S2, HS2.out.1, HS2.out.2.1, HS2.out.2.2, Or.inl ⟨H5.out.1, o, x, t, f, rfl, H5.out.2⟩⟩
  · have H5 := Lib.hid (And.intro hs h5.mst)
    clear hs h5 HSo
    go_wp2
    go_ret2
    exact ⟨S2, HS2.out.1, HS2.out.2.1, HS2.out.2.2, Or.inr ⟨H5.out.1, rfl, H5.out.2⟩⟩

/-- a memory of another size -/
def Sized (w : World) (v : Value) : Prop := v = .pointer none ∨ ∃ m sb lb ab n S K, v = .pointer (some ⟨m, 0, none⟩) ∧ MemAt w m sb lb ab n S K ∧ S.length ≠ 23168
theorem sized_is (v : Value) (w : World) (h : Sized w v) : Calls Tryz.prog 42 #[v] w fun e w' => e = .returned (.bool false) ∧ Below w.heap.size w w' := by
  rcases h with rfl | ⟨m, sb, lb, ab, n, S, K, rfl, hM, hS⟩
  · exact vis_nil w
  · have := vis_any w hM
    rw [show decide (S.length = 23168) = false from decide_eq_false hS] at this
    exact this
set_option maxHeartbeats 8000000 in
set_option maxRecDepth 100000 in
theorem vmount_bad (v : Value) (w : World) (h : Sized w v) : Calls Tryz.prog 10 #[v] w fun e w' => e = .returned (.tuple #[.pointer none, .int .i64 1]) ∧ Below w.heap.size w w' := by
  have HIs := Lib.hid (sized_is v w h)
  clear h
  go_enter Tryz.func10, Tryz.ntmps10
  go_wp2_with fail
  refine HIs.out.mono ?_
  rintro e w1 ⟨rfl, hb⟩
  have HB := Lib.hid hb
  go_wp2
  go_ret2
  exact ⟨rfl, HB.out⟩
set_option maxHeartbeats 8000000 in
set_option maxRecDepth 100000 in
theorem vformat_bad (v : Value) (w : World) (h : Sized w v) : Calls Tryz.prog 11 #[v] w fun e w' => e = .returned (.int .i64 1) ∧ Below w.heap.size w w' := by
  have HIs := Lib.hid (sized_is v w h)
  clear h
  go_enter Tryz.func11, Tryz.ntmps11
  go_wp2_with fail
  refine HIs.out.mono ?_
  rintro e w1 ⟨rfl, hb⟩
  have HB := Lib.hid hb
  go_wp2
  go_ret
  exact ⟨rfl, HB.out⟩

/-- a volume that was formatted, on its memory -/
def Formed [MemNo] (K : Nat) (w : World) (Ls : List (Nat × Obj)) (b : World) : Prop :=
  ∃ S Z : List UInt8, Z.length = 23168 ∧ Gd.Good S (Gd.freshV Z) ∧ Gd.part S 2688 8 = Gd.le 0 8 ∧ Mst S K w b Ls
theorem Vp.format [MemNo] {o x t f K : Nat} {S : List UInt8} {w a : World} {Ls : List (Nat × Obj)} (h : Vp o x t f S [] 0 K w a Ls) :
    Calls Tryz.prog 48 #[.pointer (some ⟨x, 0, none⟩)] a fun e b => e = .returned (.int .i64 0) ∧ Vp o x t f S Gd.fmtP 50 K w b Ls := by
  obtain ⟨F', hm, -, -, hC⟩ := h.metaF
  refine (format_any a hm (by omega)).mono ?_
  rintro e b ⟨he, F2, hs⟩
  exact ⟨he, hC _ _ _ _ _ _ hs⟩
theorem Vp.txn [MemNo] {o x t f c K : Nat} {S : List UInt8} {P : List Gd.Pa} {w a : World} {Ls : List (Nat × Obj)} (h : Vp o x t f S P c K w a Ls) (hc : c ≤ 57) (hK : K < 600000000000) :
    Calls Tryz.prog 49 #[.pointer (some ⟨t, 0, none⟩)] a fun e b => e = .returned (.int .i64 0) ∧ ∃ S' : List UInt8, S'.length = 23168 ∧ Gd.part S' 2688 8 = Gd.le 0 8 ∧ (∀ i, i < 2688 ∨ 6784 ≤ i → S'[i]? = (Gd.view S P)[i]?) ∧ Vp o x t f S' [] 0 (K + 2000000) w b Ls := by
  obtain ⟨F', h, -, -, hC⟩ := h.metaF
  refine (commit_any a h.txn ⟨Nat.le_trans h.light.many hc, h.light.len⟩ h.len h.log hK).mono ?_
  rintro e b ⟨rfl, ⟨S', hl, he, hs, hT⟩, hO⟩
  exact ⟨rfl, S', hl, he, hs, hC _ _ _ _ _ F' ⟨⟨hT, (hO.block x (lt_get h.obj) fun e => e.2 rfl).trans h.obj, h.inF, hl, he, PaLight.nil 0, fun k hk => Nat.lt_of_lt_of_le (h.tight k hk) hO.size⟩, fun _ _ e => e, hO.mono fun _ _ e => e.1⟩⟩
set_option maxHeartbeats 8000000 in
set_option maxRecDepth 100000 in
theorem vformat_any [MemNo] {K : Nat} {S : List UInt8} {w a : World} {Ls : List (Nat × Obj)} (h : Mst S K w a Ls) (hS : S.length = 23168) (hK : K < 100000000000) :
    Calls Tryz.prog 11 #[.pointer (some ⟨MemNo.no, 0, none⟩)] a fun e b => e = .returned (.int .i64 0) ∧ Formed (K + 3000000) w Ls b := by
  have HIs := h.vis
  rw [hS, show decide (23168 = 23168) = true from rfl] at HIs
  have HIs := Lib.hid HIs
  have HS := Lib.hid (And.intro hS hK)
  clear h hS hK
  go_enter Tryz.func11, Tryz.ntmps11
  go_wp2_with fail
  refine HIs.out.mono ?_
  rintro e w1 ⟨rfl, h1⟩
  have HLg := Lib.hid (vlog_any h1 HS.out.1)
  clear h1 HIs
  go_wp2_with fail
  refine HLg.out.mono ?_
  rintro e w2 ⟨g, rfl, h2, hne⟩
  have HN := Lib.hid hne
  have HRd := Lib.hid (h2.clear HS.out.1 HS.out.2)
  clear h2 hne HLg
  go_wp2_with fail
  refine HRd.out.mono ?_
  rintro e w3 ⟨rfl, S2, hl2, he2, h3⟩
  have HS2 := Lib.hid (And.intro hl2 he2)
  have HOp := Lib.hid (vopen_any h3 HN.out hl2 he2)
  clear h3 hl2 he2 HRd
  go_wp2_with fail
  refine HOp.out.mono ?_
  rintro e w4 ⟨o, x, t, f, rfl, h4⟩
  have HFm := Lib.hid h4.format
  obtain ⟨c0, c1, c2⟩ := cell2 h4.vol
  clear h4 HOp
  go_wp2_with fail
  refine HFm.out.mono ?_
  rintro e w5 ⟨rfl, h5⟩
  have HCm := Lib.hid (h5.txn (by omega) (by have := HS.out.2; omega))
  obtain ⟨d0, d1, d2⟩ := cell2 h5.vol
  clear h5 HFm c0 c1 c2
  go_wp2_with fail
  refine HCm.out.mono ?_
  rintro e w6 ⟨rfl, S', hl, he, hs, h6⟩
  have H6 := Lib.hid (And.intro hl (And.intro he (And.intro hs h6.mst)))
  clear hl he hs h6 HCm d0 d1 d2
  go_wp2
  go_ret
  refine ⟨rfl, S', S2, HS2.out.1, (Gd.fresh_good HS2.out.1).same (by rw [(Gd.fresh_good HS2.out.1).len]; exact H6.out.1) H6.out.2.2.1, H6.out.2.1, H6.out.2.2.2.more (by omega)⟩
end Go.Proofs.YtccpdkjonepoiaaGreatDoor

/- Walks: a volume's changes are committed; slots are set. -/
namespace Go.Proofs.YtccpdkjonepoiaaGreatDoor
open Go.RowKit Go.Shelf

attribute [local go_sem] Oper.semAt_some

theorem flatP_one {P : List Gd.Pa} : ∀ u ∈ flatP P, u.oneCell' = true := by
  intro u hu
  unfold flatP at hu
  obtain ⟨p, hp, hu⟩ := List.mem_flatMap.1 hu
  unfold paC at hu
  simp only [List.mem_cons, List.not_mem_nil, or_false] at hu
  rcases hu with rfl | rfl <;> rfl
theorem flatP_len (P : List Gd.Pa) : (flatP P).length = P.length * 2 := by
  unfold flatP
  induction P with
  | nil => rfl
  | cons p P ih => rw [List.flatMap_cons, List.length_append, ih, List.length_cons]; unfold paC; simp; omega

theorem pa_nil (w : World) (a : Option Addr) (l c : Nat) : (binOp .eql 65 (.slice a l c) (.slice none 0 0)).run Tryz.prog w = .ok (.bool a.isNone) w :=
  Lib.run_eql_slice_nil w _ _ a l c 0 0 Tryz.underlying65
set_option maxHeartbeats 4000000 in
set_option maxRecDepth 100000 in
theorem clone_pa (v : Value) (P : List Gd.Pa) (B : Nat) (w : World) (h : w.ownsRow B 122 2 v P.length (flatP P)) (hP : P.length ≤ 64) :
    Calls Tryz.prog 116 #[v] w fun e w' => (∃ A c, e = .returned (.slice A P.length c)) ∧ Below w.heap.size w w' := by
  have hnil := pa_nil
  rcases h.2 with ⟨rfl, h0⟩ | ⟨g, cap, cur, rfl, -, hg, hn, hcap, hcs, hcur⟩
  · clear h
    go_enter Tryz.func116, Tryz.ntmps116
    go_wp2
    go_ret
    exact ⟨⟨none, 0, by rw [h0]; rfl⟩, Below.refl _ _⟩
  · obtain ⟨i0, hi, hz0, hz1, hz2⟩ := info_parts Tryz.infoPa
    have Hc : Hid (∀ W, Below w.heap.size w W → ∀ j u, (flatP P)[j]? = some u → W.cell? ((⟨g, 0, none⟩ : Addr).add j) = some u) := Lib.hid fun W hW j u hj => by
      have hl := (List.getElem?_eq_some_iff.1 hj).1
      rw [flatP_len] at hl
      have hr : W.cell? ⟨g, j, none⟩ = some u := (hW.cell (p := ⟨g, j, none⟩) (lt_get hg)).trans ((h.cellAt j hl).trans hj)
      by_cases h0 : j = 0
      · subst h0; simpa [Addr.add] using hr
      · simpa [Addr.add, h0] using hr
    have Hg : Hid (g < w.heap.size) := Lib.hid (lt_get hg)
    obtain ⟨n, hne⟩ : ∃ n, n = P.length := ⟨_, rfl⟩
    have Hn := Lib.hid (And.intro hne hP)
    rw [← hne]
    clear h hg hn hcap hcs hcur hP hne
    go_enter Tryz.func116, Tryz.ntmps116
    go_wp2_with (at_builtin; go_loud (refine wpList_append_own_at _ rfl _ _ 65 rfl w.heap.size 122 i0 _ 2 24 Tryz.underlying65 hi hz0 hz1 hz2 rfl (by decide) (.slice (some ⟨w.heap.size, 0, none⟩) 0 0) 0 [] rfl ⟨rfl, Or.inr ⟨w.heap.size, 0, #[], rfl, Nat.le_refl _, heap_alloc_new _ _, Nat.le_refl _, Nat.zero_le _, rfl, rfl⟩⟩ ⟨g, 0, none⟩ n cap (flatP P) rfl (by rw [flatP_len, Hn.out.1]) ?_ flatP_one (by have := Hn.out; unfold maxLen; omega) (by have := Hn.out; omega) (by simp) ?_))
    · exact Hc.out _ ((Below.refl w.heap.size w).alloc (Nat.le_refl _) _)
    intro v' w1 hown hgrow _ hat
    have hb1 : Below w.heap.size w w1 := ((Below.refl w.heap.size w).alloc (Nat.le_refl _) (.cells #[] 122)).trans ((grown_only (F := fun k => k = w.heap.size) hgrow fun k e => by cases e; rfl).below (by simp) fun k hk e => by omega)
    obtain ⟨A', c', rfl⟩ : ∃ A' c', v' = .slice A' n c' := by
      rcases hown.2 with ⟨rfl, h0⟩ | ⟨b, cap, cur, rfl, _⟩
      · exact ⟨none, 0, by rw [show n = 0 by omega]⟩
      · exact ⟨some ⟨b, 0, none⟩, cap, rfl⟩
    have HB := Lib.hid hb1
    clear hown hgrow hat hb1
    go_wp2
    go_ret
    exact ⟨⟨_, _, rfl⟩, HB.out⟩

set_option maxHeartbeats 4000000 in
set_option maxRecDepth 100000 in
theorem patches_any [MemNo] {t K : Nat} {S : List UInt8} {P : List Gd.Pa} {F : Nat → Prop} (w : World) (h : TxnF t S P K w F) :
    Calls Tryz.prog 64 #[.pointer (some ⟨t, 0, none⟩)] w fun e w' => (∃ A c, e = .returned (.slice A P.length c)) ∧ Below w.heap.size w w' := by
  obtain ⟨m, g, pv, -, hT, -, -, -, -, hP, -⟩ := h
  have HCl := Lib.hid (clone_pa pv P 0 w hT.row hP.many)
  obtain ⟨_, _, c2⟩ := cell2 hT.obj
  clear hT hP
  go_enter Tryz.func64, Tryz.ntmps64
  go_wp2_with fail
  refine HCl.out.mono ?_
  rintro e w1 ⟨⟨A, c, rfl⟩, hb⟩
  have HB := Lib.hid hb
  go_wp2
  go_ret
  exact ⟨⟨_, _, rfl⟩, HB.out⟩

set_option maxHeartbeats 8000000 in
set_option maxRecDepth 100000 in
theorem vput_some [MemNo] {x t c K : Nat} {S : List UInt8} {P : List Gd.Pa} {F : Nat → Prop} (k m : Int) (p : Gd.Pt) (v : Value) (L : List UInt8) (w : World) (h : MetaF x t S P c K w F) (hp : Gd.ptAt k m = some p) (hv : BytesAt w v L) (hL : L.length ≤ 64) (hLp : L.length ≤ p.s) (hc : c < 64) (hap : ∀ q, v.ownBlock = some q → ¬ F q) :
    Calls Tryz.prog 63 #[.agg #[.pointer (some ⟨t, 0, none⟩)], .int .i64 k, .int .i64 m, v] w fun e w' => e = .returned (.int .i64 0) ∧ ∃ F', Step (MetaF x t S (P ++ [(p.a, L)]) (c + 1) K) F w F' w' := by
  obtain ⟨w0, hw0⟩ : ∃ u, u = w.alloc (.cells #[.pointer (some ⟨t, 0, none⟩)] 76) := ⟨_, rfl⟩
  have hb0 : Below w.heap.size w w0 := by rw [hw0]; exact (Below.refl _ _).alloc (Nat.le_refl _) _
  obtain ⟨x0, hx0⟩ : ∃ x0, x0 = w.heap.size := ⟨_, rfl⟩
  have hxc : CellsAt w0 x0 76 #[.pointer (some ⟨t, 0, none⟩)] := by rw [hw0, hx0]; exact heap_alloc_new _ _
  have HF := Lib.hid (find_any5 k m w0)
  rw [hp] at HF
  have hpi := ptAt_in hp
  have H := Lib.hid h
  have HV := Lib.hid hv
  obtain ⟨A, cap, hve, -⟩ := hv
  have HAp := Lib.hid hap
  have HC := Lib.hid hc
  have HL := Lib.hid (And.intro hL hLp)
  subst hve
  obtain ⟨ln, hln⟩ : ∃ ln, ln = L.length := ⟨_, rfl⟩
  rw [← hln] at HV HAp ⊢
  have Hxc := Lib.hid hxc
  have HB0 := Lib.hid hb0
  have Hw0 := Lib.hid hw0.symm
  have Hx0 := Lib.hid hx0.symm
  clear h hp hap hc hL hLp hln hb0 hxc hw0 hx0
  go_enter Tryz.func63, Tryz.ntmps63
  go_upto_region 1 with fail
  rw [Hw0.out, Hx0.out]
  go_wp2_with fail
  refine HF.out.mono ?_
  rintro e w1 ⟨rfl, hb1⟩
  unfold ptO ptV
  have hn := heap_alloc_new w1 (.cells (ptC p) 139)
  have hba := (Below.refl w1.heap.size w1).alloc (Nat.le_refl _) (.cells (ptC p) 139)
  obtain ⟨w2, hw2⟩ : ∃ u, u = w1.alloc (.cells (ptC p) 139) := ⟨_, rfl⟩
  rw [← hw2] at hn hba
  have hb2 : Below w0.heap.size w0 w2 := hb1.trans (hba.mono hb1.size)
  obtain ⟨pb, hpb⟩ : ∃ pb, pb = w1.heap.size := ⟨_, rfl⟩
  rw [← hpb] at hn
  have hdw : Below w.heap.size w w2 := HB0.out.trans (hb2.mono HB0.out.size)
  have H2 := H.out.below hdw
  have hx : CellsAt w2 x0 76 #[.pointer (some ⟨t, 0, none⟩)] := (hb2.block x0 Hxc.out.lt).trans Hxc.out
  have x1 : w2.cell? ⟨x0, 0, none⟩ = some (.pointer (some ⟨t, 0, none⟩)) := cell_of_row _ x0 0 _ _ _ hx
  have x2 : w2.cell? ⟨pb, 2, none⟩ = some (.int .i64 p.a) := cell_of_row _ pb 2 _ _ _ hn
  have HSt := Lib.hid (tstore_any p.a (.slice A ln cap) L w2 H2.txn (HV.out.keep hdw) (by have := H2.len; omega) (by have := H2.len; have := HL.out; omega) (by have := HL.out; omega) (by have := H2.light.many; have := HC.out; omega) (fun q hq e => HAp.out q hq e.1))
  have HD := Lib.hid hdw
  have Hpb := Lib.hid hpb.symm
  have Hw2 := Lib.hid hw2.symm
  unfold ptC at Hw2
  clear hb1 HF hn hba hw2 hb2 hpb hdw H2 hx hpi
  go_upto_region 4 with fail
  rw [Hw2.out, Hpb.out]
  go_wp2_with fail
  refine HSt.out.mono ?_
  rintro e w3 ⟨rfl, hT3, hO3⟩
  have HT3 := Lib.hid hT3
  have HO3 := Lib.hid hO3
  clear hT3 hO3 x1 x2 HSt
  go_wp2
  go_ret
  have h1 := HD.out.size
  have h2 := HO3.out.size
  have hxl : x < w3.heap.size := Nat.lt_of_lt_of_le (lt_get H.out.obj) (Nat.le_trans h1 h2)
  have hox : w3.heap[x]? = w.heap[x]? := (HO3.out.block x (Nat.lt_of_lt_of_le (lt_get H.out.obj) h1) fun e => e.2 rfl).trans (HD.out.block x (lt_get H.out.obj))
  refine ⟨rfl, fun k => (F k ∨ w.heap.size ≤ k) ∧ k < w3.heap.size, ⟨?_, hox.trans H.out.obj, ⟨Or.inl H.out.inF, hxl⟩, H.out.len, H.out.log, ⟨?_, ?_⟩, fun k hk => hk.2⟩, ?_, ?_⟩
  · refine (TxnF.held t S _ K).mono HT3.out fun k hk e => ?_
    rcases e with e | e
    · exact ⟨⟨Or.inl e.1, hk⟩, e.2⟩
    · exact ⟨⟨Or.inr (Nat.le_trans h1 e), hk⟩, fun he => by
        have := lt_get H.out.obj
        omega⟩
  · rw [List.length_append]
    have := H.out.light.many
    simp
    omega
  · intro q hq
    rcases List.mem_append.1 hq with e | e
    · exact H.out.light.len q e
    · rw [List.mem_singleton.1 e]
      have := HL.out.1
      exact this
  · intro k hk e
    rcases e.1 with e | e
    · exact e
    · omega
  · exact (below_only HD.out F).trans (HO3.out.mono fun _ _ e => e.1) fun _ _ e => e

theorem Vp.put [MemNo] {o x t f c K : Nat} {S : List UInt8} {P : List Gd.Pa} {w a b : World} {Ls : List (Nat × Obj)} (k m : Int) (p : Gd.Pt) (v : Value) (L : List UInt8) (h : Vp o x t f S P c K w a Ls) (hb : Below a.heap.size a b) (ho : OwnB b a.heap.size v L) (hp : Gd.ptAt k m = some p) (hL : L.length ≤ 64) (hLp : L.length ≤ p.s) (hc : c < 64) :
    Calls Tryz.prog 63 #[.agg #[.pointer (some ⟨t, 0, none⟩)], .int .i64 k, .int .i64 m, v] b fun e d => e = .returned (.int .i64 0) ∧ Vp o x t f S (P ++ [(p.a, L)]) (c + 1) K w d Ls := by
  obtain ⟨F', hm, -, -, hC⟩ := h.metaF
  refine (vput_some k m p v L b (hm.below hb) hp ho.at_ hL hLp hc fun q hq hF => ?_).mono ?_
  · have h1 := (own_block ho q hq).1
    have h2 := hm.tight q hF
    omega
  · rintro e d ⟨he, F2, hs⟩
    exact ⟨he, hC _ _ _ _ _ F2 (Step.behind hb hs)⟩
theorem Vp.commits [MemNo] {o x t f c K n : Nat} {S : List UInt8} {P : List Gd.Pa} {w a : World} {Ls : List (Nat × Obj)} (h : Vp o x t f S P c K w a Ls) (hn : n ≤ 1152921504606846976) (hh : Gd.part (Gd.view S P) 0 64 = Gd.headB n) :
    Calls Tryz.prog 30 #[.pointer (some ⟨o, 0, none⟩)] a fun e b => e = .returned (.int .i64 n) ∧ Below a.heap.size a b := by
  obtain ⟨F', hm, -⟩ := h.metaF
  refine (vcommits_gen a hm h.vol).mono ?_
  rw [hh]
  rintro e b ⟨hb, ⟨-, he⟩ | ⟨hno, -⟩⟩
  · rw [Gd.headB_get hn] at he
    exact ⟨he, hb⟩
  · exact absurd (Gd.isHead_headB hn) hno
theorem Vp.slot [MemNo] {o x t f c K : Nat} {S : List UInt8} {P : List Gd.Pa} {w a : World} {Ls : List (Nat × Obj)} (h : Vp o x t f S P c K w a Ls) (k : Nat) (k1 : 1 ≤ k) (k2 : k ≤ 8) {s : Gd.Slot} (hs : s.May) (hh : Gd.part (Gd.view S P) (64 * k) 64 = Gd.slotB s) :
    Calls Tryz.prog 17 #[.pointer (some ⟨o, 0, none⟩), .int .i64 k] a fun e b => e = .returned (.tuple #[slotV s, .int .i64 0]) ∧ Below a.heap.size a b := by
  obtain ⟨F', hm, -⟩ := h.metaF
  refine (vslot_gen k (64 * k) a hm h.vol (Gd.ptAt_slotV k1 k2)).mono ?_
  rw [hh]
  rintro e b ⟨hb, ⟨-, he⟩ | ⟨hno, -⟩⟩
  · rw [Gd.rawS_slot hs] at he
    exact ⟨he, hb⟩
  · exact absurd (Gd.isSlot_slotB hs) hno
theorem vol_row {a : World} {o t x f : Nat} (h : VolAt a o t x f) : a.rangeAt o 0 [.pointer (some ⟨t, 0, none⟩)] := fun j v hj => by
  have hvr : a.heap[o]? = some (.cells #[.pointer (some ⟨t, 0, none⟩), .pointer (some ⟨x, 0, none⟩), .pointer (some ⟨f, 0, none⟩)] 79 (0, 0)) := h
  match j, hj with
  | 0, hj => cases hj; exact (cell2 hvr).1
  | j + 1, hj => simp at hj
set_option maxHeartbeats 8000000 in
set_option maxRecDepth 100000 in
theorem Vp.setslot [MemNo] {o x t f c K : Nat} {S : List UInt8} {P : List Gd.Pa} {w a : World} {Ls : List (Nat × Obj)} (h : Vp o x t f S P c K w a Ls) (k : Nat) (k1 : 1 ≤ k) (k2 : k ≤ 8) (s : Gd.Slot) (hs : s.May) (hc : c < 64) :
    Calls Tryz.prog 22 #[.pointer (some ⟨o, 0, none⟩), .int .i64 k, slotV s] a fun e b => e = .returned (.int .i64 0) ∧ Vp o x t f S (P ++ [(64 * k, Gd.slotB s)]) (c + 1) K w b Ls := by
  obtain ⟨hbb, hbc⟩ := below_new a (slotC s) 48
  obtain ⟨b, hbe⟩ : ∃ b, b = a.heap.size := ⟨_, rfl⟩
  obtain ⟨wb, hwb⟩ : ∃ u, u = a.alloc (.cells (slotC s) 48) := ⟨_, rfl⟩
  rw [← hwb, ← hbe] at hbc
  rw [← hwb] at hbb
  have HPu := Lib.hid (putslot_any s hs wb)
  have H := Lib.hid (h.below hbb)
  have Hbe := Lib.hid hbe.symm
  have HWb := Lib.hid hwb.symm
  have Hbc := Lib.hid hbc
  have HK := Lib.hid (And.intro k1 (And.intro k2 hc))
  obtain ⟨sB, hsB⟩ : ∃ sB, sB = Gd.slotB s := ⟨_, rfl⟩
  have HsB : Hid (sB.length = 64) := Lib.hid (by rw [hsB]; exact Gd.slotB_length s)
  rw [← hsB] at HPu ⊢
  clear h hbb hbe hwb hbc k1 k2 hc hs hsB
  go_enter Tryz.func22, Tryz.ntmps22
  unfold slotV at *
  go_upto_region 1 with fail
  rw [HWb.out, Hbe.out]
  go_wp2_with (refine wpList_load_row rfl 48 _ rfl b rfl 48 (slotC s) (0, 0) _ Hbc.out Tryz.underlying48 rfl Tryz.sizeSlot ?_)
  refine HPu.out.mono ?_
  rintro e w1 ⟨v1, rfl, ho1, hb1⟩
  have HSt := Lib.hid (H.out.put 2 k _ v1 sB hb1 ho1 (Gd.ptAt_slotV HK.out.1 HK.out.2.1) (by rw [HsB.out]; omega) (by rw [HsB.out]; exact Nat.le_refl _) HK.out.2.2)
  have hrow := vol_row (H.out.below hb1).vol
  clear ho1 hb1 HPu
  go_wp2_with (refine wpList_load_mid rfl 76 _ rfl o 0 rfl [.pointer (some ⟨t, 0, none⟩)] _ hrow Tryz.underlying76 rfl Tryz.sizeStore ?_)
  refine HSt.out.mono ?_
  rintro e w2 ⟨rfl, h2⟩
  have H2 := Lib.hid h2
  clear h2 HSt hrow
  go_wp2
  go_ret
  exact ⟨rfl, H2.out⟩

theorem Vp.drop0 [MemNo] {o x t f c K : Nat} {S : List UInt8} {P : List Gd.Pa} {w a : World} {Ls : List (Nat × Obj)} (u : FrameMode) (h : Vp o x t f S P c K w a Ls) :
    CallsD Tryz.prog 31 #[.pointer (some ⟨t, 0, none⟩)] u a fun e u' b => u' = u ∧ e = .returned (.tuple #[]) ∧ Vp o x t f S [] 0 K w b Ls := by
  obtain ⟨F', h, -, -, hC⟩ := h.metaF
  refine (tdrop_anyD u a h.txn).mono ?_
  rintro e u' b ⟨hu, he, hT, hO⟩
  exact ⟨hu, he, hC _ _ _ _ _ F' ⟨⟨hT, (hO.block x (lt_get h.obj) fun e => e.2 rfl).trans h.obj, h.inF, h.len, h.log, PaLight.nil 0, fun k hk => Nat.lt_of_lt_of_le (h.tight k hk) hO.size⟩, fun _ _ e => e, hO.mono fun _ _ e => e.1⟩⟩
theorem Vp.txnF [MemNo] {o x t f c K : Nat} {S : List UInt8} {P : List Gd.Pa} {w a : World} {Ls : List (Nat × Obj)} (h : Vp o x t f S P c K w a Ls) : ∃ F, TxnF t S P K a F := by
  obtain ⟨F', h, -⟩ := h.metaF
  exact ⟨_, h.txn⟩
set_option maxHeartbeats 8000000 in
set_option maxRecDepth 100000 in
/-- Commit of nothing -/
theorem Vp.commit0 [MemNo] {o x t f c K : Nat} {S : List UInt8} {w a : World} {Ls : List (Nat × Obj)} (h : Vp o x t f S [] c K w a Ls) :
    Calls Tryz.prog 23 #[.pointer (some ⟨o, 0, none⟩)] a fun e b => e = .returned (.int .i64 0) ∧ Vp o x t f S [] 0 K w b Ls := by
  obtain ⟨F, hT⟩ := h.txnF
  have HPt := Lib.hid (patches_any a hT)
  obtain ⟨c0, c1, c2⟩ := cell2 h.vol
  have H := Lib.hid h
  clear h hT
  go_enter_defers Tryz.func23, Tryz.ntmps23
  go_wp2_with fail
  refine HPt.out.mono ?_
  rintro e w1 ⟨⟨A, cp, rfl⟩, hb1⟩
  have H1 := Lib.hid (H.out.below hb1)
  clear HPt hb1 c0 c1 c2
  go_wp2
  refine leaves_cons (f := 31) (args := #[.pointer (some ⟨t, 0, none⟩)]) (by simp) (by simp [go_sem]) ?_
  refine (H1.out.drop0 .returning).mono ?_
  rintro e u' w3 ⟨rfl, rfl, h3⟩
  exact ⟨_, results_tmp rfl _ _ _, rfl, h3⟩
set_option maxHeartbeats 8000000 in
set_option maxRecDepth 100000 in
/-- Commit of something -/
theorem Vp.commit [MemNo] {o x t f c K n : Nat} {S : List UInt8} {P : List Gd.Pa} {w a : World} {Ls : List (Nat × Obj)} (h : Vp o x t f S P c K w a Ls) (hP : P ≠ []) (hc : c ≤ 56) (hK : K < 600000000000) (hn : n + 1 ≤ 1152921504606846976) (hh : Gd.part (Gd.view S P) 0 64 = Gd.headB n) :
    Calls Tryz.prog 23 #[.pointer (some ⟨o, 0, none⟩)] a fun e b => e = .returned (.int .i64 0) ∧ ∃ S' : List UInt8, S'.length = 23168 ∧ Gd.part S' 2688 8 = Gd.le 0 8 ∧ (∀ i, i < 2688 ∨ 6784 ≤ i → S'[i]? = (Gd.splice (Gd.view S P) 0 (Gd.headB (n + 1)))[i]?) ∧ Vp o x t f S' [] 0 (K + 2000000) w b Ls := by
  obtain ⟨F, hT⟩ := h.txnF
  have HPt := Lib.hid (patches_any a hT)
  obtain ⟨N, hN⟩ : ∃ N, N = P.length := ⟨_, rfl⟩
  have hN0 : N ≠ 0 := fun e => hP (List.eq_nil_of_length_eq_zero (by omega))
  have hNi : ¬ ((N : Int) = 0) := by omega
  rw [← hN] at HPt
  obtain ⟨c0, c1, c2⟩ := cell2 h.vol
  have H := Lib.hid h
  have HC := Lib.hid (And.intro hc (And.intro hK (And.intro hn hh)))
  clear h hT hP hc hK hn hh hN hN0
  go_enter_defers Tryz.func23, Tryz.ntmps23
  go_wp2_with fail
  refine HPt.out.mono ?_
  rintro e w1 ⟨⟨A, cp, rfl⟩, hb1⟩
  have H1 := Lib.hid (H.out.below hb1)
  have HCo := Lib.hid (H1.out.commits (n := n) (by have := HC.out.2.2.1; omega) HC.out.2.2.2)
  clear HPt hb1 c0 c1 c2
  go_wp2_with fail
  refine HCo.out.mono ?_
  rintro e w2 ⟨rfl, hb2⟩
  have H2 := Lib.hid (H1.out.below hb2)
  have hn1 : IntKind.i64.wrap ((n : Int) + 1) = (n : Int) + 1 := by
    have := HC.out.2.2.1
    rw [IntKind.wrap_i64]
    omega
  have HPh := Lib.hid (puthead_any (n + 1) HC.out.2.2.1 w2)
  rw [show ((n + 1 : Nat) : Int) = (n : Int) + 1 by omega] at HPh
  clear HCo hb2
  go_wp2_with fail
  refine HPh.out.mono ?_
  rintro e w3 ⟨v3, rfl, ho3, hb3⟩
  have HPu := Lib.hid (H2.out.put 1 0 ⟨1, 0, 0, 64⟩ v3 (Gd.headB (n + 1)) hb3 ho3 rfl (by rw [Gd.headB_length]; omega) (by rw [Gd.headB_length]; exact Nat.le_refl _) (by have := HC.out.1; omega))
  have hrow := vol_row (H2.out.below hb3).vol
  clear HPh ho3 hb3
  go_wp2_with (refine wpList_load_mid rfl 76 _ rfl o 0 rfl [.pointer (some ⟨t, 0, none⟩)] _ hrow Tryz.underlying76 rfl Tryz.sizeStore ?_)
  refine HPu.out.mono ?_
  rintro e w4 ⟨rfl, h4⟩
  have HCm := Lib.hid (h4.txn (by have := HC.out.1; omega) HC.out.2.1)
  rw [Gd.view_snoc] at HCm
  obtain ⟨d0, d1, d2⟩ := cell2 h4.vol
  clear h4 HPu hrow
  go_wp2_with fail
  refine HCm.out.mono ?_
  rintro e w5 ⟨rfl, S', hl, he, hs, h5⟩
  have H5 := Lib.hid (And.intro hl (And.intro he (And.intro hs h5)))
  clear hl he hs h5 HCm d0 d1 d2
  go_wp2
  refine leaves_cons (f := 31) (args := #[.pointer (some ⟨t, 0, none⟩)]) (by simp) (by simp [go_sem]) ?_
  refine (H5.out.2.2.2.drop0 .returning).mono ?_
  rintro e u' w6 ⟨rfl, rfl, h6⟩
  exact ⟨_, results_tmp rfl _ _ _, rfl, S', H5.out.1, H5.out.2.1, H5.out.2.2.1, h6⟩

end Go.Proofs.YtccpdkjonepoiaaGreatDoor

/- Walks: a file is opened in a volume that began. -/
namespace Go.Proofs.YtccpdkjonepoiaaGreatDoor
open Go.RowKit Go.Shelf

namespace Gd
def vtab4 : Nat → Tab | 0 => noTab | 1 => tabA | 2 => tabB | 3 => tabC4 | _ => tabD
def vblk4 : Nat → List Int | 0 => [0, 0, 0, 0] | 1 => [0, 0, 0, 1] | 2 => [0, 0, 0, 1] | 3 => [2, 0, 0, 1] | _ => [2, 0, 0, 1]
def vmap4 : Nat → List UInt8 | 0 => map0 | 1 => map1 | 2 => map1 | 3 => map2 | _ => map2
def vname4 : Nat → List UInt8 | 0 => [97] | 1 => [98] | 2 => [99] | _ => [100]
/-- a volume that began so many files -/
def VBegan (M : Vol) (k : Nat) : Prop := Began M (vtab4 k) k (vblk4 k) (vmap4 k)
theorem VBegan.setHead {M : Vol} {k a : Nat} {b : List UInt8} (h : VBegan M k) : VBegan (M.setHead a b) k :=
  ⟨⟨h.tree.root, fun d h1 h2 hk => ⟨(h.tree.dir d h1 h2 hk).lo, (h.tree.dir d h1 h2 hk).hi, (h.tree.dir d h1 h2 hk).kind, (h.tree.dir d h1 h2 hk).ok, (h.tree.dir d h1 h2 hk).blk⟩, h.tree.ent⟩, ⟨h.sound.mapl, h.sound.one, h.sound.used⟩, h.root, h.files, h.rest, h.map⟩
theorem vbegan_fresh (Z : List UInt8) : VBegan (freshV Z) 0 := began_fresh Z
end Gd
theorem vopens [MemNo] {x t K : Nat} {S : List UInt8} {M : Gd.Vol} {F : Nat → Prop} (k : Nat) (hk : k < 4) (mx : Int) (w : World) (h : MetaV x t S M 0 K w F) (hB : Gd.VBegan M k)
    (hmx : w.cell? ⟨0, 0, none⟩ = some (.int .i64 mx)) (hml : 0 < w.heap.size) :
    ∃ N, (Gd.VBegan N (k + 1) ∧ N.head = M.head ∧ N.logs = M.logs) ∧ Calls Tryz.prog 50 #[.pointer (some ⟨x, 0, none⟩), .int .i64 1, .string ⟨(47 :: Gd.vname4 k).toArray⟩, .int .i64 1, .bool false, .int .i64 0] w fun e w' => e = .returned (.tuple #[.int .i64 ((k + 2 : Nat) : Int), .int .i64 0]) ∧ ∃ c, c ≤ 5 ∧ Turns x t S N c K F w w' := by
  obtain ⟨n1, n2, n3, n4⟩ := Gd.names4
  obtain ⟨p1, p2, p3, p4⟩ := Gd.paths4
  obtain ⟨q1, q2, q3, q4⟩ := Gd.may4
  obtain ⟨h1, h2, h3, h4⟩ := Gd.hash4
  obtain ⟨a1, a2⟩ := Gd.placeA
  obtain ⟨b1, b2⟩ := Gd.placeB
  obtain ⟨c1, c2⟩ := Gd.placeC
  obtain ⟨d1, d2⟩ := Gd.placeD
  obtain ⟨f1, f2⟩ := Gd.first0
  obtain ⟨g1, g2⟩ := Gd.first1
  unfold Gd.VBegan at *
  match k, hk with
  | 0, _ =>
    obtain ⟨N, ⟨hN, hh⟩, hC⟩ := bopen_new [97] 14 mx w h hB (by omega) (by omega) hmx hml n1 p1 (by rw [h1]; exact a1) (by rw [h1]; exact a2) rfl (by show Gd.countB Gd.map0 < 128; rw [f2]; omega) (by show Gd.mayI (Gd.rootN 0 (([0, 0, 0, 0] : List Int).set 3 (Gd.firstB Gd.map0 : Int))) = true; rw [f1]; exact q1)
    refine ⟨N, ⟨?_, hh⟩, hC.mono fun e w' ⟨he, ht⟩ => ⟨he, _, by omega, ht⟩⟩
    have hN' : Gd.Began N Gd.tabA 1 (([0, 0, 0, 0] : List Int).set 3 (Gd.firstB Gd.map0 : Int)) (Gd.takeB Gd.map0 (Gd.firstB Gd.map0)) := hN
    rw [f1] at hN'
    exact hN'
  | 1, _ =>
    obtain ⟨N, ⟨hN, hh⟩, hC⟩ := bopen_over [98] 15 1 mx w h hB (by omega) (by omega) hmx hml n2 p2 (by rw [h2]; exact b1) (by rw [h2]; exact b2) rfl (by omega) (by omega) q2
    exact ⟨N, ⟨hN, hh⟩, hC.mono fun e w' ⟨he, ht⟩ => ⟨he, _, by omega, ht⟩⟩
  | 2, _ =>
    obtain ⟨N, ⟨hN, hh⟩, hC⟩ := bopen_new [99] 0 mx w h hB (by omega) (by omega) hmx hml n3 p3 (by rw [h3]; exact c1) (by rw [h3]; exact c2) rfl (by show Gd.countB Gd.map1 < 128; rw [g2]; omega) (by show Gd.mayI (Gd.rootN 2 (([0, 0, 0, 1] : List Int).set 0 (Gd.firstB Gd.map1 : Int))) = true; rw [g1]; exact q3)
    refine ⟨N, ⟨?_, hh⟩, hC.mono fun e w' ⟨he, ht⟩ => ⟨he, _, by omega, ht⟩⟩
    have hN' : Gd.Began N Gd.tabC4 3 (([0, 0, 0, 1] : List Int).set 0 (Gd.firstB Gd.map1 : Int)) (Gd.takeB Gd.map1 (Gd.firstB Gd.map1)) := hN
    rw [g1] at hN'
    exact hN'
  | 3, _ =>
    obtain ⟨N, ⟨hN, hh⟩, hC⟩ := bopen_over [100] 1 2 mx w h hB (by omega) (by omega) hmx hml n4 p4 (by rw [h4]; exact d1) (by rw [h4]; exact d2) rfl (by omega) (by omega) q4
    exact ⟨N, ⟨hN, hh⟩, hC.mono fun e w' ⟨he, ht⟩ => ⟨he, _, by omega, ht⟩⟩
/-- .. it stored something -/
theorem vbegan_turned {S : List UInt8} {P : List Gd.Pa} {M N : Gd.Vol} {k : Nat} (hk : k < 4) (h : Gd.VBegan M k) (hM : Gd.Good S M) (h2 : Gd.VBegan N (k + 1)) (hN : Gd.Good (Gd.view S P) N) : P ≠ [] := by
  rintro rfl
  have e1 := hM.ino (k + 2) (by omega) (by omega)
  have e2 : Gd.part S (Gd.inoAt (k + 2)) 64 = _ := hN.ino (k + 2) (by omega) (by omega)
  rw [h.rest (k + 2) (Nat.le_refl _)] at e1
  rw [h2.files (k + 2) (by omega) (by omega)] at e2
  have hm : Gd.mayI (newF.setO 0 1) = true := by decide
  have hne := (Gd.ino_bytes (Gd.Ino.setO_shape newF_shape 0 1) hm (by decide)).ne
  exact hne (e2.symm.trans e1)
theorem Vp.opens [MemNo] {o x t f K : Nat} {S : List UInt8} {M : Gd.Vol} {w a : World} {Ls : List (Nat × Obj)} (k : Nat) (hk : k < 4) (mx : Int) (h : Vp o x t f S [] 0 K w a Ls) (hG : Gd.Good S M) (hB : Gd.VBegan M k)
    (hmx : a.cell? ⟨0, 0, none⟩ = some (.int .i64 mx)) (hml : 0 < a.heap.size) :
    Calls Tryz.prog 50 #[.pointer (some ⟨x, 0, none⟩), .int .i64 1, .string ⟨(47 :: Gd.vname4 k).toArray⟩, .int .i64 1, .bool false, .int .i64 0] a fun e b => e = .returned (.tuple #[.int .i64 ((k + 2 : Nat) : Int), .int .i64 0]) ∧ ∃ (N : Gd.Vol) (P : List Gd.Pa) (c : Nat), Gd.VBegan N (k + 1) ∧ N.head = M.head ∧ N.logs = M.logs ∧ P ≠ [] ∧ c ≤ 5 ∧ Vp o x t f S P c K w b Ls ∧ Gd.Good (Gd.view S P) N := by
  obtain ⟨F', h1, h2⟩ := h
  have hV : MetaV x t S M 0 K a F' := ⟨[], h1.inv, hG⟩
  obtain ⟨N, ⟨hN, hh1, hh2⟩, hC⟩ := vopens k hk mx a hV hB hmx hml
  refine hC.mono ?_
  rintro e b ⟨rfl, c, hc, F2, ht⟩
  obtain ⟨P, hm, hGN⟩ := ht.inv
  exact ⟨rfl, N, P, c, hN, hh1, hh2, vbegan_turned hk hB hG hN hGN, hc, Vp.next h1 h2 (ht.mono fun _ => hm), hGN⟩
end Go.Proofs.YtccpdkjonepoiaaGreatDoor

/- Walks: commonslaw17: lasting, lives. -/
namespace Go.Proofs.YtccpdkjonepoiaaGreatDoor
open Go.RowKit Go.Shelf

attribute [local go_sem] Oper.semAt_some

theorem mstore_rawK {m sb lb ab n K : Nat} {S : List UInt8} (a : Nat) (A : Option Addr) (c : Nat) (b : List UInt8) (w : World) (h : MemAt w m sb lb ab n S K) (hb : RawB w A b) (hap : b ≠ [] → ∀ g o, A = some ⟨g, o, none⟩ → g ≠ sb ∧ g ≠ ab) (ha : a + b.length ≤ S.length) (hk : b.length ≤ 4000) :
    Calls Tryz.prog 25 #[.pointer (some ⟨m, 0, none⟩), .int .i64 a, .slice A b.length c] w fun e w' => e = .returned (.int .i64 0) ∧ MemAt w' m sb lb ab n (Gd.splice S a b) K ∧ Only (fun k => k = sb ∨ k = ab) w w' := by
  by_cases h0 : b = []
  · subst h0
    refine (mstore_none a A c w h (by omega)).mono ?_
    rintro e w' ⟨rfl, rfl⟩
    exact ⟨rfl, by rw [Gd.splice_nil]; exact h, Only.refl _ _⟩
  · rcases hb with rfl | ⟨g, o, rfl, h2, h3⟩
    · exact absurd rfl h0
    · have hB : BytesAt w (.slice (some ⟨g, o, none⟩) b.length c) b := ⟨_, _, rfl, Or.inr ⟨g, o, rfl, h2, h3⟩⟩
      exact mstore_at a _ b w h hB (fun q hq => by cases hq; exact hap h0 g o rfl) ha (by omega)
def oPairV [MemNo] (v r : Nat) : Obj := .cells #[.pointer (some ⟨MemNo.no, 0, none⟩), .pointer (some ⟨v, 0, none⟩), .pointer (some ⟨r, 0, none⟩)] 35 (0, 0)
set_option maxHeartbeats 8000000 in
set_option maxRecDepth 100000 in
/-- bytes of the caller's are stored, and last -/
theorem lasting_any [MemNo] {p v r K : Nat} {S : List UInt8} {w a : World} {Ls : List (Nat × Obj)} (h : Mst S K w a Ls) (hp : (p, oPairV v r) ∈ Ls) (at_ : Nat) (A : Option Addr) (L : List UInt8) (c : Nat) (hb : RawB a A L) (hap : L ≠ [] → ∀ g o, A = some ⟨g, o, none⟩ → g < w.heap.size) (ha : at_ + L.length ≤ S.length) (hL : L.length ≤ 4000) (hK : K < 900000000000) :
    Calls Tryz.prog 13 #[.pointer (some ⟨p, 0, none⟩), .int .i64 at_, .slice A L.length c] a fun e b => e = .returned (.tuple #[]) ∧ Mst (Gd.splice S at_ L) (K + 20000) w b Ls := by
  obtain ⟨sb, lb, ab, n, hM, hlow, hLs, hC⟩ := h.open
  have hpl := hLs _ hp
  have HSt := Lib.hid (mstore_rawK at_ A c L a hM hb (fun h0 g o hA => by
    have h1 := hap h0 g o hA
    exact ⟨fun e => hlow g h1 (Or.inl e), fun e => hlow g h1 (Or.inr (Or.inr e))⟩) ha hL)
  have HFl : Hid (∀ w1, MemAt w1 MemNo.no sb lb ab n (Gd.splice S at_ L) K → Calls Tryz.prog 26 #[.pointer (some ⟨MemNo.no, 0, none⟩), .int .i64 at_, .int .i64 L.length] w1 fun e w' => e = .returned (.int .i64 0) ∧ MemAt w' MemNo.no sb lb ab n (Gd.splice S at_ L) (K + 20000) ∧ Only (fun k => k = ab) w1 w') := Lib.hid fun w1 h1 => flush_at at_ L.length w1 h1 (by rw [Gd.splice_length ha]; exact ha) (by omega) hK
  have hg := h.get hp
  obtain ⟨c0, c1, c2⟩ := cell2 hg
  have HG := Lib.hid hg
  have HC := Lib.hid hC
  have HP := Lib.hid hpl
  obtain ⟨l, hl⟩ : ∃ l, l = L.length := ⟨_, rfl⟩
  rw [← hl] at HSt HFl ⊢
  have e1 : (l : Int) ≤ 4000 := by omega
  clear h hp hb hap ha hL hK hM hlow hLs hC hpl hg hl
  go_enter Tryz.func13, Tryz.ntmps13
  go_wp2_with fail
  refine HSt.out.mono ?_
  rintro e w1 ⟨rfl, hM1, hO1⟩
  have HO1 := Lib.hid (hO1.mono (G := Mem3 sb lb ab) fun k _ e => e.elim Or.inl (fun e => Or.inr (Or.inr e)))
  have hg1 := (HO1.out.block p (lt_get HG.out) HP.out).trans HG.out
  have HG1 := Lib.hid hg1
  obtain ⟨d0, d1, d2⟩ := cell2 hg1
  have HFl1 := Lib.hid (HFl.out w1 hM1)
  clear hM1 hO1 c0 c1 c2 HSt HFl hg1
  go_wp2_with fail
  refine HFl1.out.mono ?_
  rintro e w2 ⟨rfl, hM2, hO2⟩
  have HO2 := Lib.hid (HO1.out.trans hO2 fun k _ e => Or.inr (Or.inr e))
  have hg2 := (HO2.out.block p (lt_get HG.out) HP.out).trans HG.out
  obtain ⟨f0, f1, f2⟩ := cell2 hg2
  have HFe := Lib.hid (fence_at w2 hM2)
  clear hM2 hO2 d0 d1 d2 HFl1 hg2
  go_wp2_with fail
  refine HFe.out.mono ?_
  rintro e w3 ⟨rfl, hM3, hO3⟩
  have H3 := Lib.hid (HC.out _ _ w3 hM3 (HO2.out.trans hO3 fun k _ e => e.elim (fun e => Or.inr (Or.inl e)) (fun e => Or.inr (Or.inr e))))
  clear hM3 hO3 HFe f0 f1 f2
  go_wp2
  go_end0
  exact ⟨rfl, H3.out⟩

/-- an own memory, new -/
theorem Mst.fresh {w a : World} (h : ∃ m sb lb ab, MemAt a m sb lb ab 2896 (List.replicate 23168 0) 0 ∧ Below w.heap.size w a ∧ (w.heap.size ≤ m ∧ w.heap.size ≤ sb ∧ w.heap.size ≤ lb ∧ w.heap.size ≤ ab)) : ∃ mn : MemNo, Mst (List.replicate 23168 0) 0 w a [] := by
  obtain ⟨m, sb, lb, ab, hM, hb, hl⟩ := h
  exact ⟨⟨m⟩, sb, lb, ab, 2896, hM, hl, hb, fun p hp => by cases hp⟩
end Go.Proofs.YtccpdkjonepoiaaGreatDoor

/- Walks: a volume with its head and slots; Fence; commonslaw17.lives. -/
namespace Go.Proofs.YtccpdkjonepoiaaGreatDoor
open Go.RowKit Go.Shelf

attribute [local go_sem] Oper.semAt_some

/-- a volume with what its bytes come to, its count and its slots -/
def Vq [MemNo] (o x t f : Nat) (S : List UInt8) (P : List Gd.Pa) (M : Gd.Vol) (n : Nat) (s : Nat → Gd.Slot) (c K : Nat) (w a : World) (Ls : List (Nat × Obj)) : Prop := Vp o x t f S P c K w a Ls ∧ Gd.Good (Gd.view S P) M ∧ Gd.HeadIs M n s
section
variable {o x t f c K n : Nat} {S : List UInt8} {P : List Gd.Pa} {M : Gd.Vol} {s : Nat → Gd.Slot} {w a b : World} {Ls : List (Nat × Obj)}
theorem Vq.below [MemNo] (h : Vq o x t f S P M n s c K w a Ls) (hb : Below a.heap.size a b) : Vq o x t f S P M n s c K w b Ls := ⟨h.1.below hb, h.2⟩
theorem Vq.at_ [MemNo] (h : Vq o x t f S P M n s c K w a Ls) {k m : Nat} (hk : k + m ≤ 576) : Gd.part (Gd.view S P) k m = Gd.part M.head k m := by
  rw [← h.2.1.head, Gd.part_part hk, Nat.zero_add]
theorem Vq.commits [MemNo] (h : Vq o x t f S P M n s c K w a Ls) :
    Calls Tryz.prog 30 #[.pointer (some ⟨o, 0, none⟩)] a fun e b => e = .returned (.int .i64 n) ∧ Vq o x t f S P M n s c K w b Ls :=
  (h.1.commits h.2.2.few ((h.at_ (by omega)).trans h.2.2.head)).mono fun _ _ ⟨he, hb⟩ => ⟨he, h.below hb⟩
theorem Vq.slot [MemNo] (h : Vq o x t f S P M n s c K w a Ls) (k : Nat) (k1 : 1 ≤ k) (k2 : k ≤ 8) :
    Calls Tryz.prog 17 #[.pointer (some ⟨o, 0, none⟩), .int .i64 k] a fun e b => e = .returned (.tuple #[slotV (s k), .int .i64 0]) ∧ Vq o x t f S P M n s c K w b Ls :=
  (h.1.slot k k1 k2 (h.2.2.may k k1 k2) ((h.at_ (by omega)).trans (h.2.2.slot k k1 k2))).mono fun _ _ ⟨he, hb⟩ => ⟨he, h.below hb⟩
theorem Vq.setslot [MemNo] (h : Vq o x t f S P M n s c K w a Ls) (k : Nat) (k1 : 1 ≤ k) (k2 : k ≤ 8) (y : Gd.Slot) (hy : y.May) (hc : c < 64) :
    Calls Tryz.prog 22 #[.pointer (some ⟨o, 0, none⟩), .int .i64 k, slotV y] a fun e b => e = .returned (.int .i64 0) ∧ Vq o x t f S (P ++ [(64 * k, Gd.slotB y)]) (M.setHead (64 * k) (Gd.slotB y)) n (Gd.updS s k y) (c + 1) K w b Ls :=
  (h.1.setslot k k1 k2 y hy hc).mono fun _ _ ⟨he, hv⟩ => ⟨he, hv, by rw [Gd.view_snoc]; exact h.2.1.setHead (by rw [Gd.slotB_length]; omega), h.2.2.set k1 k2 hy⟩
theorem Vq.commit [MemNo] (h : Vq o x t f S P M n s c K w a Ls) (hP : P ≠ []) (hc : c ≤ 56) (hK : K < 600000000000) (hn : n + 1 ≤ 1152921504606846976) :
    Calls Tryz.prog 23 #[.pointer (some ⟨o, 0, none⟩)] a fun e b => e = .returned (.int .i64 0) ∧ ∃ S', Vq o x t f S' [] (M.setHead 0 (Gd.headB (n + 1))) (n + 1) s 0 (K + 2000000) w b Ls :=
  (h.1.commit hP hc hK hn ((h.at_ (by omega)).trans h.2.2.head)).mono fun _ _ ⟨he, S', hl, _, hs, hv⟩ => ⟨he, S', hv, by
    have hG := h.2.1.setHead (a := 0) (b := Gd.headB (n + 1)) (by rw [Gd.headB_length]; omega)
    exact hG.same (by rw [hG.len]; exact hl) hs, h.2.2.commit hn⟩
theorem Vq.mst [MemNo] (h : Vq o x t f S P M n s c K w a Ls) : Mst S K w a Ls := h.1.mst
set_option maxHeartbeats 8000000 in
set_option maxRecDepth 100000 in
theorem Vq.fence [MemNo] (h : Vq o x t f S [] M n s 0 K w a Ls) (k : Nat) (k1 : 1 ≤ k) (k2 : k ≤ 8) (hK : K < 600000000000) (hn : n + 1 ≤ 1152921504606846976) (he : (s k).e < 1073741824) :
    Calls Tryz.prog 36 #[.pointer (some ⟨o, 0, none⟩), .int .i64 k] a fun e b => e = .returned (.int .i64 0) ∧ ∃ S' M', Vq o x t f S' [] M' (n + 1) (Gd.updS s k { s k with e := (s k).e + 1, h := 0 }) 0 (K + 2000000) w b Ls ∧ M'.ino = M.ino ∧ M'.map = M.map ∧ M'.blk = M.blk ∧ M'.logs = M.logs := by
  have hm := h.2.2.may k k1 k2
  have HSl := h.slot k k1 k2
  have HSt : ∀ W, Vq o x t f S [] M n s 0 K w W Ls → _ := fun W hW => hW.setslot k k1 k2 { s k with e := (s k).e + 1, h := 0 } ⟨by show (s k).e + 1 ≤ _; omega, by show 0 ≤ 1024; omega, hm.r, hm.ke, hm.ki, hm.w⟩ (by omega)
  obtain ⟨⟨e0, h0, r0, ke0, ki0, w0⟩, hsk⟩ : ∃ y, y = s k := ⟨_, rfl⟩
  rw [← hsk] at HSl HSt he ⊢
  dsimp only at HSt he
  unfold slotV slotC at HSl HSt
  dsimp only at HSl HSt
  rw [show ((e0 + 1 : Nat) : Int) = (e0 : Int) + 1 by omega, show ((0 : Nat) : Int) = 0 from rfl] at HSt
  have hw1 : IntKind.i64.wrap ((e0 : Int) + 1) = (e0 : Int) + 1 := by rw [IntKind.wrap_i64]; omega
  have hlt : decide ((1073741824 : Int) ≤ (e0 : Int)) = false := by rw [decide_eq_false_iff_not]; omega
  have HSl2 := Lib.hid HSl
  have HSt2 := Lib.hid HSt
  have HK := Lib.hid (And.intro hK hn)
  clear h hm he hK hn hsk HSl HSt
  go_enter Tryz.func36, Tryz.ntmps36
  go_wp2_with fail
  refine HSl2.out.mono ?_
  rintro e w1 ⟨rfl, h1⟩
  have H1 := Lib.hid h1
  clear h1 HSl2
  have H2 := Lib.hid (H1.out.below ((Below.refl w1.heap.size w1).alloc (Nat.le_refl _) (.cells #[.int .i64 ((e0 : Int) + 1), .int .i64 0, .int .i64 r0, .int .i64 ke0, .int .i64 ki0, .int .i64 w0] 48)))
  have HSt3 := Lib.hid (HSt2.out _ H2.out)
  clear HSt2 H1
  go_wp2_with fail
  refine HSt3.out.mono ?_
  rintro e w2 ⟨rfl, h2⟩
  have HCm := Lib.hid (h2.commit (by simp) (by omega) HK.out.1 HK.out.2)
  clear h2 HSt3
  go_wp2_with fail
  refine HCm.out.mono ?_
  rintro e w3 ⟨rfl, S', h3⟩
  have H3 := Lib.hid h3
  clear h3 HCm
  go_wp2
  go_ret
  exact ⟨rfl, S', _, H3.out, rfl, rfl, rfl, rfl⟩
end

end Go.Proofs.YtccpdkjonepoiaaGreatDoor
