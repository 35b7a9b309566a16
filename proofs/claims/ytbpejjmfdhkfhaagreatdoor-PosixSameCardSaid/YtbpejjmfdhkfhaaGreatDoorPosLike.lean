/- Nodes copied: what lies in memory of a copy that is under way; a directory's names handled so far. -/
import Derived.Test.YtbpejjmfdhkfhaaGreatDoorPosFSame
import Derived.Test.YtbpejjmfdhkfhaaGreatDoorPosFacts
import Derived.Test.YtbpejjmfdhkfhaaGreatDoorPosPlayed
set_option linter.unusedVariables false
set_option linter.unusedSimpArgs false
namespace Go.Proofs.YtbpejjmfdhkfhaaGreatDoor
open Go.RowKit
open Go.ChangeMaps Go.MapKept

/-- the nodes of P are copied, at γ and ν; those of Q are under way -/
structure Copied (w0 w : World) (bc : Nat) (β : Nat → Nat) (S : Pz.Fil) (V : Nat → Prop) (P : List Nat) (Q : Nat → Prop) (γ ν : Nat → Nat) : Prop where
  mc : PMap w bc P.length (pairQ P β γ)
  lc : w0.heap.size ≤ bc
  nd : P.Nodup
  mem : ∀ m ∈ P, V m
  below : Below w0.heap.size w0 w
  own : ∀ m ∈ P, w0.heap.size ≤ γ m ∧ γ m < w.heap.size ∧ γ m ≠ bc
  inj : ∀ a ∈ P, ∀ b ∈ P, γ a = γ b → a = b
  node : ∀ m ∈ P, ¬ Q m → w.heap[γ m]? = some (.cells #[.string ⟨(Pz.nodeD S.N m).data.toArray⟩, .int .i64 (Pz.nodeD S.N m).links, .map (if Pz.isDir S.N m then some (ν m) else none)] 105 (0, 0))
  dirs : ∀ m ∈ P, ¬ Q m → Pz.isDir S.N m = true → ∃ D, w.ownsMap Tryz.prog 9 ptrE (ν m) (Pz.count S.E m) D ∧ MapE D γ S.E m ∧ ν m ≠ bc
  ve : ∀ m ∈ P, ¬ Q m → ∀ e ∈ S.E, e.dir = m → e.node ∈ P
  vinj : ∀ a ∈ P, ∀ b ∈ P, ¬ Q a → ¬ Q b → Pz.isDir S.N a = true → Pz.isDir S.N b = true → ν a = ν b → a = b
theorem Copied.only {w0 w w' : World} {bc : Nat} {β : Nat → Nat} {S : Pz.Fil} {V : Nat → Prop} {P : List Nat} {Q : Nat → Prop} {γ ν : Nat → Nat} (h : Copied w0 w bc β S V P Q γ ν)
    (hb : w'.heap[bc]? = w.heap[bc]?) (hw : Below w0.heap.size w0 w') (hs : w.heap.size ≤ w'.heap.size)
    (hn : ∀ m ∈ P, ¬ Q m → w'.heap[γ m]? = w.heap[γ m]? ∧ (Pz.isDir S.N m = true → w'.heap[ν m]? = w.heap[ν m]?)) : Copied w0 w' bc β S V P Q γ ν :=
  { h with
    mc := h.mc.keep hb
    below := hw
    own := fun m hm => ⟨(h.own m hm).1, Nat.lt_of_lt_of_le (h.own m hm).2.1 hs, (h.own m hm).2.2⟩
    node := fun m hm hq => (hn m hm hq).1.trans (h.node m hm hq)
    dirs := fun m hm hq hd => by
      obtain ⟨D, h1, h2⟩ := h.dirs m hm hq hd
      exact ⟨D, map_keep h1 ((hn m hm hq).2 hd), h2⟩ }
theorem Copied.keep {w0 w w' : World} {bc : Nat} {β : Nat → Nat} {S : Pz.Fil} {V : Nat → Prop} {P : List Nat} {Q : Nat → Prop} {γ ν : Nat → Nat} (h : Copied w0 w bc β S V P Q γ ν) (hb : Below w.heap.size w w') : Copied w0 w' bc β S V P Q γ ν :=
  h.only (hb.block _ h.mc.lt) (h.below.trans (hb.mono h.below.size)) hb.size fun m hm hq => ⟨hb.block _ (h.own m hm).2.1, fun hd => by
    obtain ⟨D, h1, _⟩ := h.dirs m hm hq hd
    exact hb.block _ h1.lt⟩

theorem pairQ_congr {P : List Nat} {f g g' : Nat → Nat} (h : ∀ m ∈ P, g m = g' m) : pairQ P f g = pairQ P f g' := by
  funext x
  unfold pairQ
  cases hh : P.find? fun a => f a == x with
  | none => rfl
  | some a =>
    show some (g a) = some (g' a)
    rw [h a (List.mem_of_find?_eq_some hh)]

namespace Pz
theorem ofd_memC {O : List Op} {c fd : Int} : 0 ≤ ofd O c fd ↔ ∃ o ∈ O, o.client = c ∧ o.fd = fd := by
  induction O with
  | nil => rw [ofd]; simp
  | cons a r ih =>
    rw [ofd]
    by_cases he : a.client = c ∧ a.fd = fd
    · rw [if_pos he]
      exact ⟨fun _ => ⟨a, List.mem_cons_self .., he⟩, fun _ => by omega⟩
    · rw [if_neg he, ih]
      refine ⟨fun ⟨o, ho, h⟩ => ⟨o, List.mem_cons_of_mem _ ho, h⟩, fun ⟨o, ho, h⟩ => ?_⟩
      rcases List.mem_cons.1 ho with rfl | ho
      · exact absurd h he
      · exact ⟨o, ho, h⟩
theorem ofd_of_mem {O : List Op} (ho : O.Pairwise fun a b => ¬ (a.client = b.client ∧ a.fd = b.fd)) {o : Op} (h : o ∈ O) : ofd O o.client o.fd = o.node := by
  induction O with
  | nil => cases h
  | cons a r ih =>
    obtain ⟨h1, h2⟩ := List.pairwise_cons.1 ho
    rw [ofd]
    rcases List.mem_cons.1 h with rfl | h
    · rw [if_pos ⟨rfl, rfl⟩]
    · rw [if_neg (h1 o h)]
      exact ih h2 h
theorem look_of_mem {E : List En} (ho : E.Pairwise fun a b => ¬ (a.dir = b.dir ∧ a.name = b.name)) {e : En} (he : e ∈ E) : look E e.dir e.name = e.node := by
  induction E with
  | nil => cases he
  | cons a r ih =>
    obtain ⟨h1, h2⟩ := List.pairwise_cons.1 ho
    rw [look]
    rcases List.mem_cons.1 he with rfl | he
    · rw [if_pos ⟨rfl, rfl⟩]
    · rw [if_neg (h1 e he)]
      exact ih h2 he
/-- of a directory's names those that E' has are handled -/
structure Part (E : List En) (n : Nat) (left : Lit → Bool) (E' : List En) (P : List Nat) : Prop where
  sub : ∀ x, 0 ≤ look E' n x → look E' n x = look E n x
  all : ∀ x, left (.string x) = false → 0 ≤ look E n x → 0 ≤ look E' n x
  fresh : ∀ x, left (.string x) = true → look E' n x < 0
  once : E'.Pairwise fun a b => ¬ (a.dir = b.dir ∧ a.name = b.name)
  inP : ∀ e ∈ E', e.dir = n ∧ e.node ∈ P
theorem count_same {E E' : List En} {n : Nat} (h1 : E.Pairwise fun a b => ¬ (a.dir = b.dir ∧ a.name = b.name)) (h2 : E'.Pairwise fun a b => ¬ (a.dir = b.dir ∧ a.name = b.name)) (h : ∀ x, look E' n x = look E n x) : count E' n = count E n := by
  have hp : ((E'.filter fun e => e.dir == n).map (·.name)).Perm ((E.filter fun e => e.dir == n).map (·.name)) :=
    (List.perm_ext_iff_of_nodup (names_nodup h2) (names_nodup h1)).2 fun x => by rw [names_mem, names_mem, h x]
  have := hp.length_eq
  rw [List.length_map, List.length_map] at this
  exact this
theorem Part.fin {E : List En} {n : Nat} {left : Lit → Bool} {E' : List En} {P : List Nat} (h : Part E n left E' P) (hl : ∀ kl, left kl = false) : ∀ x, look E' n x = look E n x := fun x => by
  by_cases hx : 0 ≤ look E n x
  · exact h.sub x (h.all x (hl _) hx)
  · by_cases hx' : 0 ≤ look E' n x
    · exact h.sub x hx'
    · have := look_ge (E := E) (i := n) (x := x)
      have := look_ge (E := E') (i := n) (x := x)
      omega
theorem take_self {E : List En} {n : Nat} {x : List UInt8} (h : look E n x < 0) : take E n x = E := by
  unfold take
  refine List.filter_eq_self.2 fun e he => decide_eq_true fun hh => ?_
  have := look_mem.2 ⟨e, he, hh⟩
  omega
theorem Part.step {E : List En} {n m : Nat} {left : Lit → Bool} {E' : List En} {P P2 : List Nat} {x : List UInt8} (h : Part E n left E' P) (hx : left (.string x) = true) (hm : look E n x = m) (hP : ∀ a ∈ P, a ∈ P2) (hmP : m ∈ P2) :
    Part E n (fun z => left z && !z.sameKey (.string x)) (E' ++ [⟨n, x, m⟩]) P2 where
  sub := fun y hy => by
    rw [look_app, look_one] at hy ⊢
    by_cases h0 : 0 ≤ look E' n y
    · rw [if_pos h0]
      exact h.sub y h0
    · rw [if_neg h0] at hy ⊢
      by_cases hxy : x = y
      · subst hxy
        rw [if_pos ⟨rfl, rfl⟩, hm]
      · rw [if_neg (fun e => hxy e.2)] at hy
        omega
  all := fun y hy hE => by
    rw [look_app, look_one]
    by_cases h0 : 0 ≤ look E' n y
    · rw [if_pos h0]
      exact h0
    · rw [if_neg h0]
      by_cases hxy : x = y
      · subst hxy
        rw [if_pos ⟨rfl, rfl⟩]
        exact Int.natCast_nonneg _
      · exfalso
        have hk : (Lit.string y).sameKey (.string x) = false := by
          simp [Lit.sameKey]
          exact fun e => hxy e.symm
        rw [hk] at hy
        simp at hy
        exact h0 (h.all y hy hE)
  fresh := fun y hy => by
    have hy1 : left (.string y) = true := by
      cases hl : left (.string y) with
      | true => rfl
      | false => rw [hl] at hy; cases hy
    have h0 := h.fresh y hy1
    rw [look_app, if_neg (by omega), look_one]
    rw [if_neg]
    · omega
    · rintro ⟨_, rfl⟩
      rw [hy1] at hy
      simp [Lit.sameKey] at hy
  once := by
    rw [List.pairwise_append]
    refine ⟨h.once, List.pairwise_singleton _ _, fun a ha b hb => ?_⟩
    obtain rfl := List.mem_singleton.1 hb
    intro hh
    have := h.fresh x hx
    have h2 : 0 ≤ look E' n x := look_mem.2 ⟨a, ha, hh⟩
    omega
  inP := fun e he => by
    rcases List.mem_append.1 he with he | he
    · exact ⟨(h.inP e he).1, hP _ (h.inP e he).2⟩
    · obtain rfl := List.mem_singleton.1 he
      exact ⟨rfl, hmP⟩
theorem count_all {E : List En} {n : Nat} (h : ∀ e ∈ E, e.dir = n) : count E n = E.length := by
  unfold count
  rw [List.filter_eq_self.2 fun e he => by simpa using h e he]
end Pz

end Go.Proofs.YtbpejjmfdhkfhaaGreatDoor

/- Two file systems that are alike: one is the other's live nodes under other numbers. Their calls answer alike. -/
namespace Go.Proofs.YtbpejjmfdhkfhaaGreatDoor
namespace Pz

/-- the nodes of V lie in T, too, under ρ's numbers -/
structure Like (S T : Fil) (V : Nat → Prop) (ρ : Nat → Nat) : Prop where
  v0 : V 0
  r0 : ρ 0 = 0
  lt : ∀ n, V n → n < S.N.length ∧ ρ n < T.N.length
  inj : ∀ a b, V a → V b → ρ a = ρ b → a = b
  node : ∀ n, V n → nodeD T.N (ρ n) = nodeD S.N n
  ent : ∀ i, V i → ∀ x, look T.E (ρ i) x = if look S.E i x < 0 then -1 else (ρ (look S.E i x).toNat : Int)
  ve : ∀ e ∈ S.E, V e.dir → V e.node
  vo : ∀ o ∈ S.O, V o.node
  opn : ∀ c fd, ofd T.O c fd = if ofd S.O c fd < 0 then -1 else (ρ (ofd S.O c fd).toNat : Int)

theorem Like.dir {S T : Fil} {V : Nat → Prop} {ρ : Nat → Nat} (h : Like S T V ρ) {n : Nat} (hn : V n) : isDir T.N (ρ n) = isDir S.N n := by
  rw [← nodeD_dir, ← nodeD_dir, h.node n hn]
theorem Like.neg {S T : Fil} {V : Nat → Prop} {ρ : Nat → Nat} (h : Like S T V ρ) {i : Nat} (hi : V i) (x : List UInt8) : look T.E (ρ i) x < 0 ↔ look S.E i x < 0 := by
  rw [h.ent i hi x]
  by_cases hl : look S.E i x < 0
  · rw [if_pos hl]
    exact ⟨fun _ => hl, fun _ => by omega⟩
  · rw [if_neg hl]
    exact ⟨fun h => by omega, fun h => absurd h hl⟩
theorem Like.vlook {S T : Fil} {V : Nat → Prop} {ρ : Nat → Nat} (h : Like S T V ρ) {i : Nat} (hi : V i) {x : List UInt8} {m : Nat} (hm : look S.E i x = m) : V m := h.ve _ (look_entry hm) hi
def mapOk {α β : Type} (f : α → β) : Except Int α → Except Int β
  | .ok a => .ok (f a)
  | .error e => .error e
theorem Like.walk {S T : Fil} {V : Nat → Prop} {ρ : Nat → Nat} (h : Like S T V ρ) : ∀ (L : List (List UInt8)) (i : Nat), V i → Pz.walk T (ρ i) L = mapOk ρ (Pz.walk S i L) ∧ ∀ m, Pz.walk S i L = .ok m → V m
  | [], i, hi => ⟨rfl, fun m hm => by rw [Pz.walk] at hm; cases hm; exact hi⟩
  | x :: r, i, hi => by
    rw [Pz.walk, Pz.walk, h.dir hi]
    by_cases hd : isDir S.N i = true
    · rw [if_pos hd, if_pos hd]
      by_cases hl : look S.E i x < 0
      · rw [if_pos hl, if_pos ((h.neg hi x).2 hl)]
        exact ⟨rfl, fun m hm => by cases hm⟩
      · rw [if_neg hl, if_neg (fun e => hl ((h.neg hi x).1 e))]
        have hv : V (look S.E i x).toNat := h.vlook hi (x := x) (m := (look S.E i x).toNat) (by omega)
        rw [h.ent i hi x, if_neg hl, Int.toNat_natCast]
        exact Like.walk h r _ hv
    · rw [if_neg hd, if_neg hd]
      exact ⟨rfl, fun m hm => by cases hm⟩
theorem Like.find {S T : Fil} {V : Nat → Prop} {ρ : Nat → Nat} (h : Like S T V ρ) (p : List UInt8) : Pz.find T p = mapOk ρ (Pz.find S p) ∧ ∀ m, Pz.find S p = .ok m → V m := by
  unfold Pz.find
  cases Np.pathL p with
  | none => exact ⟨rfl, fun m hm => by cases hm⟩
  | some L =>
    have := h.walk L 0 h.v0
    rw [h.r0] at this
    exact this
theorem Like.place {S T : Fil} {V : Nat → Prop} {ρ : Nat → Nat} (h : Like S T V ρ) (p : List UInt8) : Pz.place T p = mapOk (fun q => (ρ q.1, q.2)) (Pz.place S p) ∧ ∀ q, Pz.place S p = .ok q → V q.1 := by
  unfold Pz.place
  cases Np.pathL p with
  | none => exact ⟨rfl, fun m hm => by cases hm⟩
  | some L =>
    simp only
    cases L.getLast? with
    | none => exact ⟨rfl, fun m hm => by cases hm⟩
    | some x =>
      simp only
      obtain ⟨h1, h2⟩ := h.walk L.dropLast 0 h.v0
      rw [h.r0] at h1
      rw [h1]
      cases hw : Pz.walk S 0 L.dropLast with
      | error e => exact ⟨rfl, fun m hm => by cases hm⟩
      | ok n =>
        have hv := h2 n hw
        unfold placeOn mapOk
        simp only
        rw [h.dir hv]
        by_cases hd : isDir S.N n = true
        · rw [if_pos hd, if_pos hd]
          exact ⟨rfl, fun q hq => by cases hq; exact hv⟩
        · rw [if_neg hd, if_neg hd]
          exact ⟨rfl, fun q hq => by cases hq⟩

/- what changes both -/
theorem Like.take {S T : Fil} {V : Nat → Prop} {ρ : Nat → Nat} (h : Like S T V ρ) {d : Nat} (hd : V d) (x : List UInt8) : Like { S with E := take S.E d x } { T with E := take T.E (ρ d) x } V ρ :=
  { h with
    ent := fun i hi y => by
      by_cases he : i = d ∧ y = x
      · rw [he.1, he.2, look_take_same, look_take_same, if_pos (by omega)]
      · rw [look_take_other he, look_take_other (fun e => he ⟨h.inj i d hi hd e.1, e.2⟩)]
        exact h.ent i hi y
    ve := fun e he => h.ve e (take_sub e he) }
theorem Like.addE {S T : Fil} {V : Nat → Prop} {ρ : Nat → Nat} (h : Like S T V ρ) {d k : Nat} (hd : V d) (hk : V k) (x : List UInt8) : Like { S with E := S.E ++ [⟨d, x, k⟩] } { T with E := T.E ++ [⟨ρ d, x, ρ k⟩] } V ρ :=
  { h with
    ent := fun i hi y => by
      show look (T.E ++ _) (ρ i) y = if look (S.E ++ _) i y < 0 then -1 else (ρ (look (S.E ++ _) i y).toNat : Int)
      rw [look_app, look_app, look_one, look_one]
      by_cases hl : look S.E i y < 0
      · rw [if_neg (fun e => by have := (h.neg hi y).2 hl; omega), if_neg (show ¬ 0 ≤ look S.E i y by omega)]
        by_cases he : d = i ∧ x = y
        · rw [if_pos ⟨by rw [he.1], he.2⟩, if_pos he, if_neg (by omega), Int.toNat_natCast]
        · rw [if_neg (fun e => he ⟨h.inj d i hd hi e.1, e.2⟩), if_neg he, if_pos (by omega)]
      · have h2 := h.ent i hi y
        rw [if_neg hl] at h2
        rw [if_pos (by rw [h2]; omega), if_pos (show 0 ≤ look S.E i y by omega), if_neg hl, h2]
    ve := fun e he hv => by
      rcases List.mem_append.1 he with he | he
      · exact h.ve e he hv
      · obtain rfl := List.mem_singleton.1 he
        exact hk }
theorem Like.setN {S T : Fil} {V : Nat → Prop} {ρ : Nat → Nat} (h : Like S T V ρ) {n : Nat} (hn : V n) (y : Nd) : Like { S with N := S.N.set n y } { T with N := T.N.set (ρ n) y } V ρ :=
  { h with
    lt := fun m hm => by
      show m < (S.N.set n y).length ∧ ρ m < (T.N.set (ρ n) y).length
      rw [List.length_set, List.length_set]
      exact h.lt m hm
    node := fun m hm => by
      show nodeD (T.N.set (ρ n) y) (ρ m) = nodeD (S.N.set n y) m
      by_cases e : m = n
      · rw [e, nodeD_set_eq (h.lt n hn).1, nodeD_set_eq (h.lt n hn).2]
      · rw [nodeD_set_ne e, nodeD_set_ne (fun e2 => e (h.inj m n hm hn e2)), h.node m hm] }
theorem look_far {E : List En} {i : Nat} {x : List UInt8} (h : ∀ e ∈ E, e.dir ≠ i) : look E i x = -1 := by
  induction E with
  | nil => rfl
  | cons a r ih =>
    rw [look, if_neg (fun e => h a (List.mem_cons_self ..) e.1)]
    exact ih fun e he => h e (List.mem_cons_of_mem _ he)
theorem Like.addN {S T : Fil} {V : Nat → Prop} {ρ : Nat → Nat} (h : Like S T V ρ) (hS : Ok S) (hT : Ok T) (y : Nd) : Like { S with N := S.N ++ [y] } { T with N := T.N ++ [y] } (fun n => V n ∨ n = S.N.length) (upd ρ S.N.length T.N.length) := by
  have hu : ∀ n, V n → upd ρ S.N.length T.N.length n = ρ n := fun n hn => if_neg (fun (e : n = S.N.length) => by have := (h.lt n hn).1; omega)
  have hun : upd ρ S.N.length T.N.length S.N.length = T.N.length := if_pos rfl
  refine ⟨Or.inl h.v0, by rw [hu 0 h.v0, h.r0], fun n hn => ?_, fun a b ha hb e => ?_, fun n hn => ?_, fun i hi x => ?_, fun e he hv => ?_, fun o ho => Or.inl (h.vo o ho), fun c fd => ?_⟩
  · simp only [List.length_append, List.length_singleton]
    rcases hn with hn | rfl
    · rw [hu n hn]
      have := h.lt n hn
      omega
    · rw [hun]
      omega
  · rcases ha with ha | rfl <;> rcases hb with hb | rfl
    · rw [hu a ha, hu b hb] at e
      exact h.inj a b ha hb e
    · rw [hu a ha, hun] at e
      have := (h.lt a ha).2
      omega
    · rw [hun, hu b hb] at e
      have := (h.lt b hb).2
      omega
    · rfl
  · show nodeD (T.N ++ [y]) _ = nodeD (S.N ++ [y]) n
    unfold nodeD
    rcases hn with hn | rfl
    · rw [hu n hn, List.getElem?_append_left (h.lt n hn).2, List.getElem?_append_left (h.lt n hn).1]
      exact h.node n hn
    · rw [hun]
      simp
  · show look T.E _ x = if look S.E i x < 0 then -1 else _
    rcases hi with hi | rfl
    · rw [hu i hi, h.ent i hi x]
      by_cases hl : look S.E i x < 0
      · rw [if_pos hl, if_pos hl]
      · rw [if_neg hl, if_neg hl, hu _ (h.vlook hi (x := x) (m := (look S.E i x).toNat) (by omega))]
    · rw [hun, look_far fun e he hd => by have := (hT.ent e he).1; omega, look_far fun e he hd => by have := (hS.ent e he).1; omega, if_pos (by omega)]
  · rcases hv with hv | hv
    · exact Or.inl (h.ve e he hv)
    · have := (hS.ent e he).1
      omega
  · show ofd T.O c fd = if ofd S.O c fd < 0 then -1 else _
    rw [h.opn c fd]
    by_cases hl : ofd S.O c fd < 0
    · rw [if_pos hl, if_pos hl]
    · rw [if_neg hl, if_neg hl]
      obtain ⟨o, ho, hn⟩ : ∃ o ∈ S.O, o.node = (ofd S.O c fd).toNat := by
        obtain ⟨o, ho, _, _, h4⟩ := ofd_mem (show 0 ≤ ofd S.O c fd by omega)
        exact ⟨o, ho, by omega⟩
      rw [hu _ (hn ▸ h.vo o ho)]
theorem Like.addO {S T : Fil} {V : Nat → Prop} {ρ : Nat → Nat} (h : Like S T V ρ) {n : Nat} (hn : V n) (c fd : Int) : Like { S with O := S.O ++ [⟨c, fd, n⟩] } { T with O := T.O ++ [⟨c, fd, ρ n⟩] } V ρ :=
  { h with
    vo := fun o ho => by
      rcases List.mem_append.1 ho with ho | ho
      · exact h.vo o ho
      · obtain rfl := List.mem_singleton.1 ho
        exact hn
    opn := fun c' fd' => by
      show ofd (T.O ++ _) c' fd' = if ofd (S.O ++ _) c' fd' < 0 then -1 else (ρ (ofd (S.O ++ _) c' fd').toNat : Int)
      have h2 := h.opn c' fd'
      rw [ofd_app, ofd_app, ofd, ofd, ofd, ofd]
      by_cases hl : ofd S.O c' fd' < 0
      · rw [if_pos hl] at h2
        rw [if_neg (show ¬ 0 ≤ ofd T.O c' fd' by omega), if_neg (show ¬ 0 ≤ ofd S.O c' fd' by omega)]
        by_cases he : c = c' ∧ fd = fd'
        · rw [if_pos he, if_pos he, if_neg (by omega), Int.toNat_natCast]
        · rw [if_neg he, if_neg he, if_pos (by omega)]
      · rw [if_neg hl] at h2
        rw [if_pos (by rw [h2]; omega), if_pos (show 0 ≤ ofd S.O c' fd' by omega), if_neg hl, h2] }

theorem Like.shut {S T : Fil} {V : Nat → Prop} {ρ : Nat → Nat} (h : Like S T V ρ) (c fd : Int) : Like { S with O := shut S.O c fd } { T with O := shut T.O c fd } V ρ :=
  { h with
    vo := fun o ho => h.vo o (List.mem_filter.1 ho).1
    opn := fun c' fd' => by
      show ofd (Pz.shut T.O c fd) c' fd' = if ofd (Pz.shut S.O c fd) c' fd' < 0 then -1 else (ρ (ofd (Pz.shut S.O c fd) c' fd').toNat : Int)
      rw [ofd_shut, ofd_shut]
      by_cases he : c' = c ∧ fd' = fd
      · rw [if_pos he, if_pos he, if_pos (by omega)]
      · rw [if_neg he, if_neg he]
        exact h.opn c' fd' }
theorem Like.names {S T : Fil} {V : Nat → Prop} {ρ : Nat → Nat} (h : Like S T V ρ) {i : Nat} (hi : V i) (hS : S.E.Pairwise fun a b => ¬ (a.dir = b.dir ∧ a.name = b.name)) (hT : T.E.Pairwise fun a b => ¬ (a.dir = b.dir ∧ a.name = b.name)) :
    namesOf T.E (ρ i) = namesOf S.E i ∧ count T.E (ρ i) = count S.E i := by
  have hp : ((T.E.filter fun e => e.dir == ρ i).map (·.name)).Perm ((S.E.filter fun e => e.dir == i).map (·.name)) :=
    (List.perm_ext_iff_of_nodup (names_nodup hT) (names_nodup hS)).2 fun x => by
      rw [names_mem, names_mem]
      have := h.neg hi x
      constructor
      · intro hx
        exact Int.not_lt.1 fun hl => by have := this.2 hl; omega
      · intro hx
        exact Int.not_lt.1 fun hl => by have := this.1 hl; omega
  have e1 := namesOf_eq (List.Perm.refl ((T.E.filter fun e => e.dir == ρ i).map (·.name)))
  have e2 := namesOf_eq hp
  refine ⟨e1.symm.trans e2, ?_⟩
  rw [← namesOf_count, ← namesOf_count, e1.symm.trans e2]

/-- two calls that come to the same, of two that are alike -/
def Goes (R Q : Fil × Rep) : Prop := R.2 = Q.2 ∧ ∃ V ρ, Like R.1 Q.1 V ρ
theorem Like.same {S T : Fil} {V : Nat → Prop} {ρ : Nat → Nat} (h : Like S T V ρ) (q : Rep) : Goes (S, q) (T, q) := ⟨rfl, V, ρ, h⟩
theorem Like.free {S T : Fil} {V : Nat → Prop} {ρ : Nat → Nat} (h : Like S T V ρ) (cl : Int) : Pz.free T.O cl = Pz.free S.O cl := by
  have h0 : ∀ c fd, 0 ≤ ofd T.O c fd ↔ 0 ≤ ofd S.O c fd := fun c fd => by
    rw [h.opn c fd]
    by_cases hl : ofd S.O c fd < 0
    · rw [if_pos hl]
      exact ⟨fun e => by omega, fun e => by omega⟩
    · rw [if_neg hl]
      exact ⟨fun _ => by omega, fun _ => by omega⟩
  have : ∀ (m k : Nat), freeN T.O cl m k = freeN S.O cl m k := fun m => by
    induction m with
    | zero => intro k; rfl
    | succ m ih =>
      intro k
      rw [freeN, freeN]
      by_cases hk : 0 ≤ ofd S.O cl k
      · rw [if_pos hk, if_pos ((h0 cl k).2 hk), ih]
      · rw [if_neg hk, if_neg (fun e => hk ((h0 cl k).1 e))]
  exact this 8 0

theorem opens_like {K : Nat} {S T : Fil} {V : Nat → Prop} {ρ : Nat → Nat} (h : Like S T V ρ) (hS : Good K S) (hT : Good K T) (cl flags : Int) (p : List UInt8) : Goes (opens S cl flags p) (opens T cl flags p) := by
  unfold opens
  by_cases hf : ¬ (flags = 0 ∨ flags = 1 ∨ flags = 3)
  · rw [if_pos hf, if_pos hf]
    exact h.same _
  rw [if_neg hf, if_neg hf, h.free cl]
  obtain ⟨f1, f2⟩ := h.find p
  rw [f1]
  cases hfi : find S p with
  | ok n =>
    have hv := f2 n hfi
    simp only [mapOk]
    rw [h.dir hv]
    split
    · exact h.same _
    split
    · exact h.same _
    split
    · exact h.same _
    · exact ⟨rfl, V, ρ, h.addO hv _ _⟩
  | error e =>
    simp only [mapOk]
    split
    · obtain ⟨g1, g2⟩ := h.place p
      rw [g1]
      cases hpl : place S p with
      | error g =>
        simp only [mapOk]
        exact h.same _
      | ok q =>
        have hq := g2 q hpl
        simp only [mapOk]
        split
        · exact h.same _
        · have k1 := h.addN hS.ok hT.ok ⟨false, [], 1⟩
          have k2 := k1.addE (d := q.1) (k := S.N.length) (Or.inl hq) (Or.inr rfl) q.2
          have k3 := k2.addO (n := S.N.length) (Or.inr rfl) cl (free S.O cl)
          have hun : upd ρ S.N.length T.N.length S.N.length = T.N.length := if_pos rfl
          have hu : upd ρ S.N.length T.N.length q.1 = ρ q.1 := if_neg (fun (e : q.1 = S.N.length) => by have := (h.lt _ hq).1; omega)
          rw [hun, hu] at k3
          exact ⟨rfl, _, _, k3⟩
    · exact h.same _
theorem file_like {S T : Fil} {V : Nat → Prop} {ρ : Nat → Nat} (h : Like S T V ρ) {n : Nat} (hn : V n) (cl kind fd off m : Int) (d : List UInt8) : Goes (file S cl n kind fd off m d) (file T cl (ρ n) kind fd off m d) := by
  unfold file
  rw [h.node n hn]
  split
  · exact ⟨rfl, V, ρ, h.shut _ _⟩
  split
  · exact h.same _
  split
  · split
    · exact h.same _
    split
    · exact h.same _
    split
    · exact h.same _
    · exact ⟨rfl, V, ρ, h.setN hn _⟩
  split
  · split
    · exact h.same _
    split
    · exact h.same _
    · exact ⟨rfl, V, ρ, h.setN hn _⟩
  · exact h.same _
theorem mkdir_like {K : Nat} {S T : Fil} {V : Nat → Prop} {ρ : Nat → Nat} (h : Like S T V ρ) (hS : Good K S) (hT : Good K T) (p : List UInt8) : Goes (mkdir S p) (mkdir T p) := by
  unfold mkdir
  obtain ⟨f1, f2⟩ := h.find p
  obtain ⟨g1, g2⟩ := h.place p
  rw [f1, g1]
  cases hfi : find S p with
  | ok n =>
    simp only [mapOk]
    exact h.same _
  | error e =>
    cases hpl : place S p with
    | error g =>
      simp only [mapOk]
      exact h.same _
    | ok q =>
      have hq := g2 q hpl
      simp only [mapOk]
      have k1 := h.addN hS.ok hT.ok ⟨true, [], 1⟩
      have k2 := k1.addE (d := q.1) (k := S.N.length) (Or.inl hq) (Or.inr rfl) q.2
      have hun : upd ρ S.N.length T.N.length S.N.length = T.N.length := if_pos rfl
      have hu : upd ρ S.N.length T.N.length q.1 = ρ q.1 := if_neg (fun (e : q.1 = S.N.length) => by have := (h.lt _ hq).1; omega)
      rw [hun, hu] at k2
      exact ⟨rfl, _, _, k2⟩
theorem rmdir_like {K : Nat} {S T : Fil} {V : Nat → Prop} {ρ : Nat → Nat} (h : Like S T V ρ) (hS : Good K S) (hT : Good K T) (p : List UInt8) : Goes (rmdirR S p) (rmdirR T p) := by
  unfold rmdirR
  split
  · exact h.same _
  obtain ⟨f1, f2⟩ := h.find p
  obtain ⟨g1, g2⟩ := h.place p
  rw [f1, g1]
  cases hfi : find S p with
  | error e =>
    simp only [mapOk]
    exact h.same _
  | ok n =>
    have hv := f2 n hfi
    simp only [mapOk]
    rw [h.dir hv, (h.names hv hS.once hT.once).2]
    split
    · split
      · exact h.same _
      · cases hpl : place S p with
        | error g => exact h.same _
        | ok q => exact ⟨rfl, V, ρ, h.take (g2 q hpl) _⟩
    · exact h.same _
theorem unlink_like {S T : Fil} {V : Nat → Prop} {ρ : Nat → Nat} (h : Like S T V ρ) (p : List UInt8) : Goes (unlink S p) (unlink T p) := by
  unfold unlink
  obtain ⟨f1, f2⟩ := h.find p
  obtain ⟨g1, g2⟩ := h.place p
  rw [f1, g1]
  cases hfi : find S p with
  | error e =>
    simp only [mapOk]
    exact h.same _
  | ok n =>
    have hv := f2 n hfi
    simp only [mapOk]
    rw [h.dir hv, h.node n hv]
    split
    · exact h.same _
    · cases hpl : place S p with
      | error g => exact h.same _
      | ok q => exact ⟨rfl, V, ρ, (h.take (g2 q hpl) q.2).setN hv _⟩
theorem link_like {S T : Fil} {V : Nat → Prop} {ρ : Nat → Nat} (h : Like S T V ρ) (p p2 : List UInt8) : Goes (link S p p2) (link T p p2) := by
  unfold link
  split
  · exact h.same _
  obtain ⟨f1, f2⟩ := h.find p
  obtain ⟨g1, g2⟩ := h.place p2
  rw [f1, g1]
  cases hfi : find S p with
  | error e =>
    simp only [mapOk]
    exact h.same _
  | ok n =>
    have hv := f2 n hfi
    simp only [mapOk]
    rw [h.dir hv, h.node n hv]
    split
    · exact h.same _
    split
    · exact h.same _
    cases hpl : place S p2 with
    | error g => exact h.same _
    | ok q =>
      have hq := g2 q hpl
      simp only
      have hng := h.neg hq q.2
      by_cases hl : 0 ≤ look S.E q.1 q.2
      · rw [if_pos hl, if_pos (show 0 ≤ look T.E (ρ q.1) q.2 from Int.not_lt.1 fun e => by have := hng.1 e; omega)]
        exact h.same _
      · rw [if_neg hl, if_neg (show ¬ 0 ≤ look T.E (ρ q.1) q.2 from fun e => hl (Int.not_lt.1 fun e2 => by have := hng.2 e2; omega))]
        split
        · exact h.same _
        · exact ⟨rfl, V, ρ, (h.addE hq hv q.2).setN hv _⟩
theorem tells_like {K : Nat} {S T : Fil} {V : Nat → Prop} {ρ : Nat → Nat} (h : Like S T V ρ) (hS : Good K S) (hT : Good K T) (kind : Int) (p : List UInt8) : Goes (tells S kind p) (tells T kind p) := by
  unfold tells
  obtain ⟨f1, f2⟩ := h.find p
  rw [f1]
  cases hfi : find S p with
  | error e =>
    simp only [mapOk]
    exact h.same _
  | ok n =>
    have hv := f2 n hfi
    simp only [mapOk]
    rw [h.dir hv, h.node n hv, (h.names hv hS.once hT.once).2, (h.names hv hS.once hT.once).1]
    exact h.same _

end Pz
end Go.Proofs.YtbpejjmfdhkfhaaGreatDoor

/- Two file systems that are alike: a rename, and any call. -/
namespace Go.Proofs.YtbpejjmfdhkfhaaGreatDoor
namespace Pz

theorem Like.overs {S T : Fil} {V : Nat → Prop} {ρ : Nat → Nat} (h : Like S T V ρ) {q : Nat × List UInt8} (hq : V q.1) : Like (over S (look S.E q.1 q.2) q) (over T (look T.E (ρ q.1) q.2) (ρ q.1, q.2)) V ρ := by
  have hE := h.ent q.1 hq q.2
  by_cases hl : look S.E q.1 q.2 < 0
  · rw [if_pos hl] at hE
    have e1 : over S (look S.E q.1 q.2) q = S := by
      unfold over
      rw [if_neg (by omega)]
    have e2 : over T (look T.E (ρ q.1) q.2) (ρ q.1, q.2) = T := by
      unfold over
      rw [if_neg (by omega)]
    rw [e1, e2]
    exact h
  · rw [if_neg hl] at hE
    obtain ⟨m, hm⟩ : ∃ m : Nat, look S.E q.1 q.2 = m := ⟨(look S.E q.1 q.2).toNat, by omega⟩
    have hv : V m := h.vlook hq hm
    rw [hm, Int.toNat_natCast] at hE
    unfold over
    rw [hE, hm, if_pos (Int.natCast_nonneg _), if_pos (Int.natCast_nonneg _)]
    simp only [Int.toNat_natCast]
    rw [h.dir hv, h.node m hv]
    by_cases hd : isDir S.N m = true
    · rw [if_pos hd, if_pos hd]
      exact h.take hq _
    · rw [if_neg hd, if_neg hd]
      exact (h.take hq q.2).setN hv _
theorem Like.overErrs {S T : Fil} {V : Nat → Prop} {ρ : Nat → Nat} (h : Like S T V ρ) {n : Nat} (hn : V n) {q : Nat × List UInt8} (hq : V q.1) (hS : S.E.Pairwise fun a b => ¬ (a.dir = b.dir ∧ a.name = b.name)) (hT : T.E.Pairwise fun a b => ¬ (a.dir = b.dir ∧ a.name = b.name)) :
    overErr T (ρ n) (look T.E (ρ q.1) q.2) = overErr S n (look S.E q.1 q.2) := by
  have hE := h.ent q.1 hq q.2
  unfold overErr
  by_cases hl : look S.E q.1 q.2 < 0
  · rw [if_pos hl] at hE
    rw [if_neg (show ¬ 0 ≤ look T.E (ρ q.1) q.2 by omega), if_neg (show ¬ 0 ≤ look S.E q.1 q.2 by omega)]
  · rw [if_neg hl] at hE
    obtain ⟨m, hm⟩ : ∃ m : Nat, look S.E q.1 q.2 = m := ⟨(look S.E q.1 q.2).toNat, by omega⟩
    have hv : V m := h.vlook hq hm
    rw [hm, Int.toNat_natCast] at hE
    rw [hE, hm, if_pos (Int.natCast_nonneg _), if_pos (Int.natCast_nonneg _)]
    simp only [Int.toNat_natCast, h.dir hv, h.dir hn, (h.names hv hS hT).2]
theorem rename_like {K : Nat} {S T : Fil} {V : Nat → Prop} {ρ : Nat → Nat} (h : Like S T V ρ) (hS : Good K S) (hT : Good K T) (p p2 : List UInt8) : Goes (rename S p p2) (rename T p p2) := by
  unfold rename
  split
  · exact h.same _
  obtain ⟨f1, f2⟩ := h.find p
  obtain ⟨g1, g2⟩ := h.place p2
  obtain ⟨o1, o2⟩ := h.place p
  rw [f1, g1, o1]
  cases hfi : find S p with
  | error e =>
    simp only [mapOk]
    exact h.same _
  | ok n =>
    have hv := f2 n hfi
    simp only [mapOk]
    rw [h.dir hv]
    split
    · exact h.same _
    cases hpl : place S p2 with
    | error g => exact h.same _
    | ok q =>
      have hq := g2 q hpl
      simp only
      have hE := h.ent q.1 hq q.2
      have hiff : look T.E (ρ q.1) q.2 = (ρ n : Int) ↔ look S.E q.1 q.2 = n := by
        rw [hE]
        by_cases hl : look S.E q.1 q.2 < 0
        · rw [if_pos hl]
          exact ⟨fun e => by omega, fun e => by omega⟩
        · rw [if_neg hl]
          have hv2 : V (look S.E q.1 q.2).toNat := h.vlook hq (x := q.2) (m := (look S.E q.1 q.2).toNat) (by omega)
          constructor
          · intro e
            have := h.inj _ _ hv2 hv (by omega)
            omega
          · intro e
            rw [e, Int.toNat_natCast]
      by_cases hl : look S.E q.1 q.2 = n
      · rw [if_pos hl, if_pos (hiff.2 hl)]
        exact h.same _
      · rw [if_neg hl, if_neg (fun e => hl (hiff.1 e)), h.overErrs hv hq hS.once hT.once]
        split
        · exact h.same _
        · cases hpo : place S p with
          | error g => exact h.same _
          | ok o =>
            have ho := o2 o hpo
            have k := ((h.overs hq).take ho o.2).addE hq hv q.2
            exact ⟨rfl, V, ρ, k⟩

/-- a call of two that are alike: the same answer, and they are alike -/
theorem do_like {K : Nat} {S T : Fil} {V : Nat → Prop} {ρ : Nat → Nat} (h : Like S T V ρ) (hS : Good K S) (hT : Good K T) (cl kind : Int) (p p2 : List UInt8) (flags fd off m : Int) (d : List UInt8) :
    Goes (doA S cl kind p p2 flags fd off m d) (doA T cl kind p p2 flags fd off m d) := by
  unfold doA
  split
  · exact h.same _
  split
  · exact opens_like h hS hT _ _ _
  split
  · have ho := h.opn cl fd
    by_cases hl : ofd S.O cl fd < 0
    · rw [if_pos hl] at ho
      rw [if_pos hl, if_pos (by omega)]
      exact h.same _
    · rw [if_neg hl] at ho
      rw [if_neg hl, if_neg (by omega), ho, Int.toNat_natCast]
      obtain ⟨o, hoo, _, _, h4⟩ := ofd_mem (show 0 ≤ ofd S.O cl fd by omega)
      have hv : V (ofd S.O cl fd).toNat := by
        have := h.vo o hoo
        rw [show o.node = (ofd S.O cl fd).toNat by omega] at this
        exact this
      exact file_like h hv _ _ _ _ _ _
  split
  · exact mkdir_like h hS hT _
  split
  · exact rmdir_like h hS hT _
  split
  · exact link_like h _ _
  split
  · exact unlink_like h _
  split
  · exact rename_like h hS hT _ _
  split
  · exact tells_like h hS hT _ _
  · exact h.same _

end Pz
end Go.Proofs.YtbpejjmfdhkfhaaGreatDoor

/- A copy's live nodes under numbers of their own: a whole file system again, and alike. -/
namespace Go.Proofs.YtbpejjmfdhkfhaaGreatDoor
open Go.RowKit

/-- a number's place in a list; behind its end, if it is not there -/
def place0 : List Nat → Nat → Nat
  | [], _ => 0
  | a :: r, n => if a = n then 0 else place0 r n + 1
theorem place0_get : ∀ {Q : List Nat} {n : Nat}, n ∈ Q → Q[place0 Q n]? = some n
  | [], n, h => by cases h
  | a :: r, n, h => by
    rw [place0]
    by_cases e : a = n
    · rw [if_pos e, e]
      rfl
    · rw [if_neg e, List.getElem?_cons_succ]
      exact place0_get ((List.mem_cons.1 h).resolve_left fun h => e h.symm)
theorem place0_lt {Q : List Nat} {n : Nat} (h : n ∈ Q) : place0 Q n < Q.length := (List.getElem?_eq_some_iff.1 (place0_get h)).1
theorem place0_inj {Q : List Nat} {a b : Nat} (ha : a ∈ Q) (hb : b ∈ Q) (e : place0 Q a = place0 Q b) : a = b := by
  have h1 := place0_get ha
  rw [e, place0_get hb] at h1
  exact (Option.some.inj h1).symm
theorem place0_at : ∀ {Q : List Nat} {k n : Nat}, Q.Nodup → Q[k]? = some n → place0 Q n = k
  | [], k, n, _, h => by simp at h
  | a :: r, 0, n, _, h => by
    rw [place0, if_pos (by simpa using h)]
  | a :: r, k + 1, n, hn, h => by
    obtain ⟨h1, h2⟩ := List.nodup_cons.1 hn
    rw [List.getElem?_cons_succ] at h
    have hm : n ∈ r := List.mem_of_getElem? h
    rw [place0, if_neg (fun (e : a = n) => h1 (e ▸ hm)), place0_at h2 h]

namespace Pz
/-- the nodes of P, each once, the root first -/
def liveQ (S : Fil) (P : List Nat) : List Nat := (List.range S.N.length).filter fun n => decide (n ∈ P)
theorem liveQ_mem {S : Fil} {P : List Nat} {n : Nat} : n ∈ liveQ S P ↔ n < S.N.length ∧ n ∈ P := by
  unfold liveQ
  rw [List.mem_filter, List.mem_range]
  simp
theorem liveQ_nodup (S : Fil) (P : List Nat) : (liveQ S P).Nodup := List.Nodup.sublist List.filter_sublist List.nodup_range
theorem liveQ_zero {S : Fil} {P : List Nat} (h0 : 0 < S.N.length) (hP : 0 ∈ P) : place0 (liveQ S P) 0 = 0 := by
  unfold liveQ
  obtain ⟨N, hN⟩ : ∃ N, S.N.length = N + 1 := ⟨S.N.length - 1, by omega⟩
  rw [hN, List.range_succ_eq_map, List.filter_cons_of_pos (by simpa using hP), place0, if_pos rfl]
def compact (S : Fil) (Q : List Nat) : Fil where
  N := Q.map (nodeD S.N)
  E := (S.E.filter fun e => decide (e.dir ∈ Q)).map fun e => ⟨place0 Q e.dir, e.name, place0 Q e.node⟩
  O := S.O.map fun o => ⟨o.client, o.fd, place0 Q o.node⟩
theorem compact_look {Q : List Nat} {i : Nat} (hi : i ∈ Q) (x : List UInt8) : ∀ E : List En,
    look ((E.filter fun e => decide (e.dir ∈ Q)).map fun e => ⟨place0 Q e.dir, e.name, place0 Q e.node⟩) (place0 Q i) x = if look E i x < 0 then -1 else (place0 Q (look E i x).toNat : Int)
  | [] => by rw [List.filter_nil, List.map_nil, look, look, if_pos (by omega)]
  | e :: r => by
    have ih := compact_look hi x r
    by_cases hd : e.dir ∈ Q
    · rw [List.filter_cons_of_pos (by simpa using hd), List.map_cons, look, look]
      by_cases he : e.dir = i ∧ e.name = x
      · rw [if_pos ⟨by rw [he.1], he.2⟩, if_pos he, if_neg (by omega), Int.toNat_natCast]
      · rw [if_neg (fun h => he ⟨place0_inj hd hi h.1, h.2⟩), if_neg he]
        exact ih
    · rw [List.filter_cons_of_neg (by simpa using hd), ih, look, if_neg (fun (h : e.dir = i ∧ e.name = x) => hd (h.1 ▸ hi))]
theorem compact_ofd {Q : List Nat} (c fd : Int) : ∀ O : List Op, ofd (O.map fun o => ⟨o.client, o.fd, place0 Q o.node⟩) c fd = if ofd O c fd < 0 then -1 else (place0 Q (ofd O c fd).toNat : Int)
  | [] => by
    show (-1 : Int) = if (-1 : Int) < 0 then -1 else _
    rw [if_pos (by omega)]
  | o :: r => by
    have ih := compact_ofd (Q := Q) c fd r
    rw [List.map_cons, ofd, ofd]
    by_cases he : o.client = c ∧ o.fd = fd
    · rw [if_pos he, if_pos he, if_neg (by omega), Int.toNat_natCast]
    · rw [if_neg he, if_neg he]
      exact ih
theorem compact_node {S : Fil} {Q : List Nat} {n : Nat} (hn : n ∈ Q) : nodeD (compact S Q).N (place0 Q n) = nodeD S.N n := by
  show (match (Q.map (nodeD S.N))[place0 Q n]? with | some x => x | none => ⟨false, [], 0⟩) = _
  rw [List.getElem?_map, place0_get hn]
  rfl
theorem compact_like {S : Fil} {Q : List Nat} (h0 : place0 Q 0 = 0) (hm : 0 ∈ Q) (hlt : ∀ n ∈ Q, n < S.N.length) (hve : ∀ e ∈ S.E, e.dir ∈ Q → e.node ∈ Q) (hvo : ∀ o ∈ S.O, o.node ∈ Q) : Like S (compact S Q) (fun n => n ∈ Q) (place0 Q) where
  v0 := hm
  r0 := h0
  lt := fun n hn => ⟨hlt n hn, by
    show _ < (Q.map _).length
    rw [List.length_map]
    exact place0_lt hn⟩
  inj := fun a b ha hb e => place0_inj ha hb e
  node := fun n hn => compact_node hn
  ent := fun i hi x => compact_look hi x S.E
  ve := hve
  vo := hvo
  opn := fun c fd => compact_ofd c fd S.O
theorem compact_good {K : Nat} {S : Fil} {Q : List Nat} (h : Good K S) (hf : Few S) (hL : Like S (compact S Q) (fun n => n ∈ Q) (place0 Q)) (hQ : Q.length ≤ S.N.length) : Good K (compact S Q) ∧ Few (compact S Q) := by
  have hE : ∀ e ∈ (compact S Q).E, ∃ a ∈ S.E, a.dir ∈ Q ∧ a.node ∈ Q ∧ e = ⟨place0 Q a.dir, a.name, place0 Q a.node⟩ := fun e he => by
    obtain ⟨a, ha, rfl⟩ := List.mem_map.1 he
    obtain ⟨h1, h2⟩ := List.mem_filter.1 ha
    have h2 : a.dir ∈ Q := by simpa using h2
    exact ⟨a, h1, h2, hL.ve a h1 h2, rfl⟩
  have hO : ∀ o ∈ (compact S Q).O, ∃ a ∈ S.O, a.node ∈ Q ∧ o = ⟨a.client, a.fd, place0 Q a.node⟩ := fun o ho => by
    obtain ⟨a, ha, rfl⟩ := List.mem_map.1 ho
    exact ⟨a, ha, hL.vo a ha, rfl⟩
  have hlen : (compact S Q).N.length = Q.length := List.length_map ..
  have hN : ∀ x ∈ (compact S Q).N, ∃ n ∈ Q, x = nodeD S.N n := fun x hx => by
    obtain ⟨n, hn, rfl⟩ := List.mem_map.1 hx
    exact ⟨n, hn, rfl⟩
  refine ⟨⟨⟨by rw [hlen]; exact Nat.lt_of_le_of_lt (Nat.zero_le _) (place0_lt hL.v0), fun e he => ?_, fun o ho => ?_⟩, by rw [hlen]; exact Nat.le_trans hQ h.n, ?_, ?_, fun x hx => ?_, fun x hx => ?_, fun e he => ?_, ?_, ?_, ?_, fun e he => ?_, fun o ho => ?_⟩, fun o ho => ?_⟩
  · obtain ⟨a, ha, h1, h2, rfl⟩ := hE e he
    rw [hlen]
    exact ⟨place0_lt h1, place0_lt h2⟩
  · obtain ⟨a, ha, h1, rfl⟩ := hO o ho
    rw [hlen]
    exact place0_lt h1
  · show ((S.E.filter _).map _).length ≤ K
    rw [List.length_map]
    exact Nat.le_trans (List.length_filter_le _ _) h.e
  · show (S.O.map _).length ≤ K
    rw [List.length_map]
    exact h.o
  · obtain ⟨n, hn, rfl⟩ := hN x hx
    exact nodeD_data h (hL.lt n hn).1
  · obtain ⟨n, hn, rfl⟩ := hN x hx
    exact nodeD_links h (hL.lt n hn).1
  · obtain ⟨a, ha, _, _, rfl⟩ := hE e he
    exact h.name a ha
  · refine List.Pairwise.map (R := fun a b : En => a.dir ∈ Q ∧ b.dir ∈ Q ∧ ¬ (a.dir = b.dir ∧ a.name = b.name)) _ (fun a b hab e => hab.2.2 ⟨place0_inj hab.1 hab.2.1 e.1, e.2⟩) ?_
    refine List.Pairwise.imp_of_mem ?_ (h.once.filter _)
    intro a b ha hb hne
    exact ⟨by simpa using (List.mem_filter.1 ha).2, by simpa using (List.mem_filter.1 hb).2, hne⟩
  · exact List.Pairwise.map (R := fun a b : Op => ¬ (a.client = b.client ∧ a.fd = b.fd)) _ (fun a b hab e => hab e) h.one
  · have := hL.dir hL.v0
    rw [hL.r0, h.root] at this
    exact this
  · obtain ⟨a, ha, h1, _, rfl⟩ := hE e he
    exact (hL.dir h1).trans (h.dirs a ha)
  · obtain ⟨a, ha, h1, rfl⟩ := hO o ho
    exact (hL.dir h1).trans (h.fds a ha)
  · obtain ⟨a, ha, _, rfl⟩ := hO o ho
    exact hf a ha
theorem like_olen {S T : Fil} {V : Nat → Prop} {ρ : Nat → Nat} (h : Like S T V ρ) (h1 : S.O.Pairwise fun a b => ¬ (a.client = b.client ∧ a.fd = b.fd)) (h2 : T.O.Pairwise fun a b => ¬ (a.client = b.client ∧ a.fd = b.fd)) : T.O.length = S.O.length := by
  have nd : ∀ {G : List Op}, G.Pairwise (fun a b => ¬ (a.client = b.client ∧ a.fd = b.fd)) → (G.map fun o => (o.client, o.fd)).Nodup := fun hG =>
    List.Pairwise.map (R := fun a b : Op => ¬ (a.client = b.client ∧ a.fd = b.fd)) _ (fun a b hab e => hab (by
      simp only [Prod.mk.injEq] at e
      exact e)) hG
  have mem : ∀ {G : List Op} {x : Int × Int}, x ∈ (G.map fun o => (o.client, o.fd)) ↔ 0 ≤ ofd G x.1 x.2 := fun {G x} => by
    rw [ofd_memC, List.mem_map]
    constructor
    · rintro ⟨o, ho, rfl⟩
      exact ⟨o, ho, rfl, rfl⟩
    · rintro ⟨o, ho, h1, h2⟩
      exact ⟨o, ho, by rw [h1, h2]⟩
  have hp := (List.perm_ext_iff_of_nodup (nd h2) (nd h1)).2 fun x => by
    rw [mem, mem, h.opn x.1 x.2]
    by_cases hl : ofd S.O x.1 x.2 < 0
    · rw [if_pos hl]
      exact ⟨fun e => by omega, fun e => by omega⟩
    · rw [if_neg hl]
      exact ⟨fun _ => by omega, fun _ => by omega⟩
  have := hp.length_eq
  rw [List.length_map, List.length_map] at this
  exact this
end Pz

/-- a file system's alike one, out of memory that holds the other's live nodes -/
theorem Shape.real [Inhabited XBox] {w : World} {r bo : Nat} {γ ν : Nat → Nat} {S : Pz.Fil} {P : List Nat} {F : Nat → Prop} {K : Nat} (h : Shape w r bo γ ν S (fun n => n ∈ P)) (hG : Pz.Good K S) (hf : Pz.Few S)
    (hv : ∀ n ∈ P, Pz.isDir S.N n = true → ν n ≠ bo) (hi : ∀ a ∈ P, ∀ b ∈ P, Pz.isDir S.N a = true → Pz.isDir S.N b = true → ν a = ν b → a = b)
    (fr : F r) (fo : F bo) (fb : ∀ n ∈ P, F (γ n) ∧ (Pz.isDir S.N n = true → F (ν n))) (fx : F maxB) (mx : MxX w) :
    ∃ T ρ, Pz.Like S T (fun n => n ∈ Pz.liveQ S P) ρ ∧ Pz.Good K T ∧ Pz.Few T ∧ RealF r T w F := by
  obtain ⟨Q, hQ⟩ : ∃ Q, Q = Pz.liveQ S P := ⟨_, rfl⟩
  have hm : ∀ n, n ∈ Q ↔ n ∈ P := fun n => by
    rw [hQ, Pz.liveQ_mem]
    exact ⟨fun e => e.2, fun e => ⟨h.vlt n e, e⟩⟩
  have hL : Pz.Like S (Pz.compact S Q) (fun n => n ∈ Q) (place0 Q) := Pz.compact_like (by rw [hQ]; exact Pz.liveQ_zero (h.vlt 0 h.v0) h.v0) ((hm 0).2 h.v0) (fun n hn => h.vlt n ((hm n).1 hn)) (fun e he hd => (hm _).2 (h.ve e he ((hm _).1 hd))) (fun o ho => (hm _).2 (h.vo o ho))
  have hnd : Q.Nodup := by rw [hQ]; exact Pz.liveQ_nodup S P
  have hgood := Pz.compact_good hG hf hL (by
    rw [hQ]
    exact Nat.le_trans (List.length_filter_le _ _) (by rw [List.length_range]; exact Nat.le_refl _))
  have hlen : (Pz.compact S Q).N.length = Q.length := List.length_map ..
  -- each number of the new one is some node's
  have at_ : ∀ k, k < Q.length → ∃ n ∈ P, Q[k]? = some n ∧ place0 Q n = k := fun k hk => by
    have e : Q[k]? = some Q[k] := List.getElem?_eq_getElem hk
    exact ⟨Q[k], (hm _).1 (List.getElem_mem hk), e, place0_at hnd e⟩
  have gd : ∀ n ∈ P, (Q[place0 Q n]?).getD 0 = n := fun n hn => by rw [place0_get ((hm n).2 hn)]; rfl
  rw [← hQ]
  refine ⟨Pz.compact S Q, place0 Q, hL, hgood.1, hgood.2, bo, fun k => γ ((Q[k]?).getD 0), fun k => ν ((Q[k]?).getD 0), ?_⟩
  have dirk : ∀ k, Pz.isDir (Pz.compact S Q).N k = true → ∃ n ∈ P, place0 Q n = k ∧ Pz.isDir S.N n = true := fun k hk => by
    obtain ⟨n, hn, _, e⟩ := at_ k (by rw [← hlen]; exact isDir_lt hk)
    refine ⟨n, hn, e, ?_⟩
    rw [← hL.dir ((hm n).2 hn), e]
    exact hk
  exact {
    root := by
      have := gd 0 h.v0
      rw [hL.r0] at this
      simp only [this]
      exact h.root
    node := fun k hk => by
      obtain ⟨n, hn, _, e⟩ := at_ k (by rw [← hlen]; exact hk)
      subst e
      have hv := (hm n).2 hn
      simp only [gd n hn]
      rw [hL.node n hv, hL.dir hv]
      exact h.node n hn
    dirs := fun k hk => by
      obtain ⟨n, hn, rfl, hd⟩ := dirk k hk
      obtain ⟨D, o, me⟩ := h.dirs n hn hd
      have hvn := (hm n).2 hn
      have hc := (hL.names hvn hG.once hgood.1.once).2
      simp only [gd n hn]
      rw [hc]
      refine ⟨D, o, fun x zd => ?_, by rw [me.2, hc]⟩
      rw [me.1 x zd, hL.ent n hvn x]
      by_cases hl : Pz.look S.E n x < 0
      · rw [if_pos hl, if_pos hl, if_pos (by omega)]
      · rw [if_neg hl, if_neg hl, if_neg (by omega), Int.toNat_natCast]
        have hvm := hL.vlook hvn (x := x) (m := (Pz.look S.E n x).toNat) (by omega)
        simp only [gd _ ((hm _).1 hvm)]
    opn := by
      obtain ⟨D, o, mo⟩ := h.opn
      have hl := Pz.like_olen hL hG.one hgood.1.one
      rw [hl]
      refine ⟨D, o, fun c fd zd hc hf => ?_, by rw [mo.2, hl]⟩
      rw [mo.1 c fd zd hc hf, hL.opn c fd]
      by_cases hn : Pz.ofd S.O c fd < 0
      · rw [if_pos hn, if_pos hn, if_pos (by omega)]
      · rw [if_neg hn, if_neg hn, if_neg (by omega), Int.toNat_natCast]
        obtain ⟨oo, hoo, hon⟩ := ofd_node (m := (Pz.ofd S.O c fd).toNat) (O := S.O) (c := c) (fd := fd) (by omega)
        simp only [gd _ (hon ▸ h.vo oo hoo)]
    bInj := fun a b ha hb e => by
      obtain ⟨n, hn, _, rfl⟩ := at_ a (by rw [← hlen]; exact ha)
      obtain ⟨m, hm', _, rfl⟩ := at_ b (by rw [← hlen]; exact hb)
      simp only [gd n hn, gd m hm'] at e
      rw [h.bInj n m hn hm' e]
    mInj := fun a b ha hb e => by
      obtain ⟨n, hn, rfl, hdn⟩ := dirk a ha
      obtain ⟨m, hm', rfl, hdm⟩ := dirk b hb
      simp only [gd n hn, gd m hm'] at e
      rw [hi n hn m hm' hdn hdm e]
    mo := fun a ha => by
      obtain ⟨n, hn, rfl, hdn⟩ := dirk a ha
      simp only [gd n hn]
      exact hv n hn hdn
    fr := fr
    fo := fo
    fb := fun a ha => by
      obtain ⟨n, hn, _, rfl⟩ := at_ a (by rw [← hlen]; exact ha)
      simp only [gd n hn]
      exact (fb n hn).1
    fm := fun a ha => by
      obtain ⟨n, hn, rfl, hdn⟩ := dirk a ha
      simp only [gd n hn]
      exact (fb n hn).2 hdn
    fx := fx
    mx := mx }

/-- and back: an alike one's memory as a shape -/
theorem RealAt.shapeLike [Inhabited XBox] {w : World} {F : Nat → Prop} {r bo K : Nat} {β μ : Nat → Nat} {S T : Pz.Fil} {V : Nat → Prop} {ρ : Nat → Nat} (h : RealAt w F r bo β μ T) (hL : Pz.Like S T V ρ) (hS : Pz.Good K S) (hT : Pz.Good K T) : Shape w r bo (fun n => β (ρ n)) (fun n => μ (ρ n)) S V where
  root := by
    rw [hL.r0]
    exact h.root
  node := fun n hn => by
    have := h.node (ρ n) (hL.lt n hn).2
    rw [hL.node n hn, hL.dir hn] at this
    exact this
  dirs := fun n hn hd => by
    obtain ⟨D, o, me⟩ := h.dirs (ρ n) (by rw [hL.dir hn]; exact hd)
    have hc := (hL.names hn hS.once hT.once).2
    rw [hc] at o
    refine ⟨D, o, fun x zd => ?_, by rw [me.2, hc]⟩
    rw [me.1 x zd, hL.ent n hn x]
    by_cases hl : Pz.look S.E n x < 0
    · rw [if_pos hl, if_pos hl, if_pos (by omega)]
    · rw [if_neg hl, if_neg hl, if_neg (by omega), Int.toNat_natCast]
  opn := by
    obtain ⟨D, o, mo⟩ := h.opn
    have hl := Pz.like_olen hL hS.one hT.one
    rw [hl] at o
    refine ⟨D, o, fun c fd zd hc hf => ?_, by rw [mo.2, hl]⟩
    rw [mo.1 c fd zd hc hf, hL.opn c fd]
    by_cases hn : Pz.ofd S.O c fd < 0
    · rw [if_pos hn, if_pos hn, if_pos (by omega)]
    · rw [if_neg hn, if_neg hn, if_neg (by omega), Int.toNat_natCast]
  bInj := fun n m hn hm e => hL.inj n m hn hm (h.bInj _ _ (hL.lt n hn).2 (hL.lt m hm).2 e)
  v0 := hL.v0
  ve := hL.ve
  vo := hL.vo
  vlt := fun n hn => (hL.lt n hn).1

theorem MxX.grow [Inhabited XBox] {w w' : World} (h : MxX w) (hb : Below w.heap.size w w') : MxX w' := by
  refine ⟨h.1.keep hb, ?_⟩
  obtain ⟨m, hm⟩ := h.1
  exact (hb.block maxB (World.block_lt_of_cell? w ⟨maxB, 0, none⟩ hm)).trans h.2
theorem MxX.lt [Inhabited XBox] {w : World} (h : MxX w) : maxB < w.heap.size := by
  obtain ⟨m, hm⟩ := h.1
  exact World.block_lt_of_cell? w ⟨maxB, 0, none⟩ hm

/-- and a copy beside them, in blocks of H -/
structure Three [Inhabited XBox] (w0 : World) (pr rr gr : Nat) (S R T : Pz.Fil) (F G H : Nat → Prop) (w : World) : Prop where
  both : Both w0 pr rr S R F G w
  copy : RealF gr T w H
  fh : ∀ k, F k → H k → k = maxB
  gh : ∀ k, G k → ¬ H k
  hl : ∀ k, H k → k < w.heap.size ∧ (k = maxB ∨ w0.heap.size ≤ k)

theorem Three.keep [Inhabited XBox] {w0 w w' : World} {pr rr gr : Nat} {S R T : Pz.Fil} {F G H : Nat → Prop} (h : Three w0 pr rr gr S R T F G H w) (hb : Below w.heap.size w w') : Three w0 pr rr gr S R T F G H w' :=
  { both := h.both.keep hb
    copy := (RealF.held _ _).below h.copy hb
    fh := h.fh
    gh := h.gh
    hl := fun k hk => ⟨Nat.lt_of_lt_of_le (h.hl k hk).1 hb.size, (h.hl k hk).2⟩ }
theorem Three.doReal [Inhabited XBox] {w0 w w' : World} {pr rr gr : Nat} {S S' R T : Pz.Fil} {F G H : Nat → Prop} (h : Three w0 pr rr gr S R T F G H w) (hi : RealF pr S' w' (Gr F w)) (ho : Only F w w') :
    Three w0 pr rr gr S' R T (fun k => Gr F w k ∧ k < w'.heap.size) G H w' :=
  { both := h.both.doReal hi ho
    copy := (RealF.held _ _).keep h.copy ho.size fun k hk hH => by
      by_cases hm : k = maxB
      · rw [hm]
        exact hi.mxx.2.trans h.copy.mxx.2.symm
      · exact ho.block k hk fun hF => hm (h.fh k hF hH)
    fh := fun k hk hH => hk.1.elim (fun e => h.fh k e hH) fun e => absurd (h.hl k hH).1 (by omega)
    gh := h.gh
    hl := fun k hk => ⟨Nat.lt_of_lt_of_le (h.hl k hk).1 ho.size, (h.hl k hk).2⟩ }
theorem Three.doRef [Inhabited XBox] {w0 w w' : World} {pr rr gr : Nat} {S R R' T : Pz.Fil} {F G H : Nat → Prop} (h : Three w0 pr rr gr S R T F G H w) (hi : RefF rr R' w' (Gr G w)) (ho : Only G w w') :
    Three w0 pr rr gr S R' T F (fun k => Gr G w k ∧ k < w'.heap.size) H w' :=
  { both := h.both.doRef hi ho
    copy := (RealF.held _ _).keep h.copy ho.size fun k hk hH => ho.block k hk fun hG => h.gh k hG hH
    fh := h.fh
    gh := fun k hk hH => hk.1.elim (fun e => h.gh k e hH) fun e => absurd (h.hl k hH).1 (by omega)
    hl := fun k hk => ⟨Nat.lt_of_lt_of_le (h.hl k hk).1 ho.size, (h.hl k hk).2⟩ }
theorem Three.doCopy [Inhabited XBox] {w0 w w' : World} {pr rr gr : Nat} {S R T T' : Pz.Fil} {F G H : Nat → Prop} (h : Three w0 pr rr gr S R T F G H w) (hi : RealF gr T' w' (Gr H w)) (ho : Only H w w') :
    Three w0 pr rr gr S R T' F G (fun k => Gr H w k ∧ k < w'.heap.size) w' :=
  { both :=
    { real := (RealF.held _ _).keep h.both.real ho.size fun k hk hF => by
        by_cases hm : k = maxB
        · rw [hm]
          exact hi.mxx.2.trans h.copy.mxx.2.symm
        · exact ho.block k hk fun hH => hm (h.fh k hF hH)
      ref := (RefF.held _ _).apart h.both.ref ho fun k _ hG hH => h.gh k hG hH
      apart := h.both.apart
      fl := fun k hk => ⟨Nat.lt_of_lt_of_le (h.both.fl k hk).1 ho.size, (h.both.fl k hk).2⟩
      gl := fun k hk => ⟨Nat.lt_of_lt_of_le (h.both.gl k hk).1 ho.size, (h.both.gl k hk).2⟩
      below := ⟨ho.os.trans h.both.below.os, ho.tape.trans h.both.below.tape, ho.output.trans h.both.below.output, Nat.le_trans h.both.below.size ho.size, fun k hk => by
        by_cases hm : k = maxB
        · rw [hm]
          exact hi.mxx.2.trans h.both.x.2.symm
        · exact (ho.block k (Nat.lt_of_lt_of_le hk h.both.below.size) fun e => (h.hl k e).2.elim hm fun e => by omega).trans (h.both.below.block k hk)⟩
      x := h.both.x }
    copy := (RealF.held _ _).mono hi fun k hk e => ⟨e, hk⟩
    fh := fun k hF hk => hk.1.elim (fun e => h.fh k hF e) fun e => absurd (h.both.fl k hF).1 (by omega)
    gh := fun k hG hk => hk.1.elim (fun e => h.gh k hG e) fun e => absurd (h.both.gl k hG).1 (by omega)
    hl := fun k hk => ⟨hk.2, hk.1.elim (fun e => (h.hl k e).2) fun e => Or.inr (Nat.le_trans h.both.below.size e)⟩ }
theorem three_new [Inhabited XBox] {w0 w w' : World} {pr rr gr bo K : Nat} {γ ν : Nat → Nat} {S : Pz.Fil} {P : List Nat} {F G : Nat → Prop} (h : Both w0 pr rr S S F G w) (hb : Below w.heap.size w w')
    (hs : Shape w' gr bo γ ν S (fun n => n ∈ P)) (hr : w.heap.size ≤ gr) (hbo : w.heap.size ≤ bo) (hn : ∀ n ∈ P, w.heap.size ≤ γ n ∧ (Pz.isDir S.N n = true → w.heap.size ≤ ν n)) (hv : ∀ n ∈ P, Pz.isDir S.N n = true → ν n ≠ bo) (hi : ∀ a ∈ P, ∀ b ∈ P, Pz.isDir S.N a = true → Pz.isDir S.N b = true → ν a = ν b → a = b)
    (hG : Pz.Good K S) (hf : Pz.Few S) :
    ∃ T ρ H, Pz.Like S T (fun n => n ∈ Pz.liveQ S P) ρ ∧ Pz.Good K T ∧ Pz.Few T ∧ Three w0 pr rr gr S S T F G H w' := by
  obtain ⟨Df, of_, _⟩ := hs.opn
  obtain ⟨T, ρ, hL, hGT, hfT, hR⟩ := hs.real (F := fun k => (k = maxB ∨ w.heap.size ≤ k) ∧ k < w'.heap.size) hG hf hv hi ⟨Or.inr hr, lt_of_get hs.root⟩ ⟨Or.inr hbo, of_.lt⟩
    (fun n hp => ⟨⟨Or.inr (hn n hp).1, lt_of_get (hs.node n hp)⟩, fun hd => by
      obtain ⟨D, o, _⟩ := hs.dirs n hp hd
      exact ⟨Or.inr ((hn n hp).2 hd), o.lt⟩⟩) ⟨Or.inl rfl, Nat.lt_of_lt_of_le h.real.mxx.lt hb.size⟩ (h.real.mxx.grow hb)
  refine ⟨T, ρ, fun k => (k = maxB ∨ w.heap.size ≤ k) ∧ k < w'.heap.size, hL, hGT, hfT, ?_⟩
  exact {
    both := h.keep hb
    copy := hR
    fh := fun k hF hH => hH.1.elim id fun e => absurd (h.fl k hF).1 (by omega)
    gh := fun k hG hH => hH.1.elim (fun e => by
      have := (h.gl k hG).2
      have := h.x.lt
      omega) fun e => absurd (h.gl k hG).1 (by omega)
    hl := fun k hk => ⟨hk.2, hk.1.imp id fun e => Nat.le_trans h.below.size e⟩ }

namespace Pz
/-- what a client's ask does, but for freed descriptors -/
def plainA (S : Fil) (a : Ask) : Fil × Rep := doA S a.cl a.kind (cutB a.p 60).data.toList (cutB a.p2 60).data.toList a.flags a.fd a.off a.n (cutB a.data 100).data.toList
def runM (S : Fil) (L : List Ask) : Fil := L.foldl (fun S a => (plainA S a).1) S
theorem runM_next {L : List Ask} {k : Nat} {a : Ask} (h : L[k]? = some a) (S : Fil) : runM S (L.take (k + 1)) = (plainA (runM S (L.take k)) a).1 := by
  unfold runM
  rw [List.take_add_one, h]
  show List.foldl _ S (L.take k ++ [a]) = _
  rw [List.foldl_append]
  rfl
theorem runM_all {L : List Ask} {k : Nat} (h : L.length ≤ k) (S : Fil) : runM S (L.take k) = runM S L := by rw [List.take_of_length_le h]
theorem plainA_good {K : Nat} {S : Fil} (h : Good K S) (hf : Few S) (a : Ask) : Good (K + 3) (plainA S a).1 ∧ Few (plainA S a).1 := do_good h hf _ _ _ _ _ _ _ _ _
theorem runM_good {S : Fil} : ∀ (L : List Ask) {K : Nat}, Good K S → Few S → Good (K + 3 * L.length) (runM S L) ∧ Few (runM S L) := by
  intro L
  induction L generalizing S with
  | nil => exact fun h hf => ⟨h, hf⟩
  | cons a r ih =>
    intro K h hf
    have h1 := plainA_good h hf a
    have h2 := ih h1.1 h1.2
    refine ⟨?_, h2.2⟩
    have e : K + 3 * (a :: r).length = K + 3 + 3 * r.length := by rw [List.length_cons]; omega
    rw [e]
    exact h2.1
theorem runM_like {S T : Fil} : ∀ (L : List Ask) {K : Nat} {V : Nat → Prop} {ρ : Nat → Nat}, Good K S → Few S → Good K T → Few T → Like S T V ρ → ∃ V' ρ', Like (runM S L) (runM T L) V' ρ' := by
  intro L
  induction L generalizing S T with
  | nil => exact fun _ _ _ _ h => ⟨_, _, h⟩
  | cons a r ih =>
    intro K V ρ hS fS hT fT h
    have g1 := plainA_good hS fS a
    have g2 := plainA_good hT fT a
    obtain ⟨_, V', ρ', h'⟩ := do_like h hS hT a.cl a.kind (cutB a.p 60).data.toList (cutB a.p2 60).data.toList a.flags a.fd a.off a.n (cutB a.data 100).data.toList
    exact ih g1.1 g1.2 g2.1 g2.2 h'
end Pz

end Go.Proofs.YtbpejjmfdhkfhaaGreatDoor
