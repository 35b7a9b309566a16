/- Nodes copied: what lies in memory of a copy that is under way; a directory's names handled so far. -/
import Derived.Test.YtiepdioaidglmaaGreatDoorPosFSame
import Derived.Deep.RegionHeld3
set_option linter.unusedVariables false
set_option linter.unusedSimpArgs false
namespace Go.Proofs.YtiepdioaidglmaaGreatDoor
open Go.RowKit
open Go.ChangeMaps Go.MapKept

/-- the nodes of P are copied, at γ and ν; those of Q are under way -/
structure Copied (w0 w : World) (bc : Nat) (β : Nat → Nat) (S : Pz.Fil) (V : Nat → Prop) (P : List Nat) (Q : Nat → Prop) (γ ν : Nat → Nat) : Prop where
  mc : PMap w bc P.length (pairQ P β γ)
  lc : w0.heap.size ≤ bc
  nd : P.Nodup
  mem : ∀ m ∈ P, V m
  below : Below w0.heap.size w0 w
  own : ∀ m ∈ P, w0.heap.size ≤ γ m ∧ γ m < w.heap.size ∧ γ m ≠ bc
  inj : ∀ a ∈ P, ∀ b ∈ P, γ a = γ b → a = b
  node : ∀ m ∈ P, ¬ Q m → w.heap[γ m]? = some (.cells #[.string ⟨(Pz.nodeD S.N m).data.toArray⟩, .int .i64 (Pz.nodeD S.N m).links, .map (if Pz.isDir S.N m then some (ν m) else none)] 101 (0, 0))
  dirs : ∀ m ∈ P, ¬ Q m → Pz.isDir S.N m = true → ∃ D, w.ownsMap Tryz.prog 9 ptrE (ν m) (Pz.count S.E m) D ∧ MapE D γ S.E m ∧ ν m ≠ bc
  ve : ∀ m ∈ P, ¬ Q m → ∀ e ∈ S.E, e.dir = m → e.node ∈ P
  vinj : ∀ a ∈ P, ∀ b ∈ P, ¬ Q a → ¬ Q b → Pz.isDir S.N a = true → Pz.isDir S.N b = true → ν a = ν b → a = b
theorem Copied.only {w0 w w' : World} {bc : Nat} {β : Nat → Nat} {S : Pz.Fil} {V : Nat → Prop} {P : List Nat} {Q : Nat → Prop} {γ ν : Nat → Nat} (h : Copied w0 w bc β S V P Q γ ν)
    (hb : w'.heap[bc]? = w.heap[bc]?) (hw : Below w0.heap.size w0 w') (hs : w.heap.size ≤ w'.heap.size)
    (hn : ∀ m ∈ P, ¬ Q m → w'.heap[γ m]? = w.heap[γ m]? ∧ (Pz.isDir S.N m = true → w'.heap[ν m]? = w.heap[ν m]?)) : Copied w0 w' bc β S V P Q γ ν :=
  { h with
    mc := h.mc.keep hb
    below := hw
    own := fun m hm => ⟨(h.own m hm).1, Nat.lt_of_lt_of_le (h.own m hm).2.1 hs, (h.own m hm).2.2⟩
    node := fun m hm hq => (hn m hm hq).1.trans (h.node m hm hq)
    dirs := fun m hm hq hd => by
      obtain ⟨D, h1, h2⟩ := h.dirs m hm hq hd
      exact ⟨D, map_keep h1 ((hn m hm hq).2 hd), h2⟩ }
theorem Copied.keep {w0 w w' : World} {bc : Nat} {β : Nat → Nat} {S : Pz.Fil} {V : Nat → Prop} {P : List Nat} {Q : Nat → Prop} {γ ν : Nat → Nat} (h : Copied w0 w bc β S V P Q γ ν) (hb : Below w.heap.size w w') : Copied w0 w' bc β S V P Q γ ν :=
  h.only (hb.block _ h.mc.lt) (h.below.trans (hb.mono h.below.size)) hb.size fun m hm hq => ⟨hb.block _ (h.own m hm).2.1, fun hd => by
    obtain ⟨D, h1, _⟩ := h.dirs m hm hq hd
    exact hb.block _ h1.lt⟩

theorem pairQ_congr {P : List Nat} {f g g' : Nat → Nat} (h : ∀ m ∈ P, g m = g' m) : pairQ P f g = pairQ P f g' := by
  funext x
  unfold pairQ
  cases hh : P.find? fun a => f a == x with
  | none => rfl
  | some a =>
    show some (g a) = some (g' a)
    rw [h a (List.mem_of_find?_eq_some hh)]

namespace Pz
theorem look_of_mem {E : List En} (ho : E.Pairwise fun a b => ¬ (a.dir = b.dir ∧ a.name = b.name)) {e : En} (he : e ∈ E) : look E e.dir e.name = e.node := by
  induction E with
  | nil => cases he
  | cons a r ih =>
    obtain ⟨h1, h2⟩ := List.pairwise_cons.1 ho
    rw [look]
    rcases List.mem_cons.1 he with rfl | he
    · rw [if_pos ⟨rfl, rfl⟩]
    · rw [if_neg (h1 e he)]
      exact ih h2 he
/-- of a directory's names those that E' has are handled -/
structure Part (E : List En) (n : Nat) (left : Lit → Bool) (E' : List En) (P : List Nat) : Prop where
  sub : ∀ x, 0 ≤ look E' n x → look E' n x = look E n x
  all : ∀ x, left (.string x) = false → 0 ≤ look E n x → 0 ≤ look E' n x
  fresh : ∀ x, left (.string x) = true → look E' n x < 0
  once : E'.Pairwise fun a b => ¬ (a.dir = b.dir ∧ a.name = b.name)
  inP : ∀ e ∈ E', e.dir = n ∧ e.node ∈ P
theorem count_same {E E' : List En} {n : Nat} (h1 : E.Pairwise fun a b => ¬ (a.dir = b.dir ∧ a.name = b.name)) (h2 : E'.Pairwise fun a b => ¬ (a.dir = b.dir ∧ a.name = b.name)) (h : ∀ x, look E' n x = look E n x) : count E' n = count E n := by
  have hp : ((E'.filter fun e => e.dir == n).map (·.name)).Perm ((E.filter fun e => e.dir == n).map (·.name)) :=
    (List.perm_ext_iff_of_nodup (names_nodup h2) (names_nodup h1)).2 fun x => by rw [names_mem, names_mem, h x]
  have := hp.length_eq
  rw [List.length_map, List.length_map] at this
  exact this
theorem Part.fin {E : List En} {n : Nat} {left : Lit → Bool} {E' : List En} {P : List Nat} (h : Part E n left E' P) (hl : ∀ kl, left kl = false) : ∀ x, look E' n x = look E n x := fun x => by
  by_cases hx : 0 ≤ look E n x
  · exact h.sub x (h.all x (hl _) hx)
  · by_cases hx' : 0 ≤ look E' n x
    · exact h.sub x hx'
    · have := look_ge (E := E) (i := n) (x := x)
      have := look_ge (E := E') (i := n) (x := x)
      omega
theorem take_self {E : List En} {n : Nat} {x : List UInt8} (h : look E n x < 0) : take E n x = E := by
  unfold take
  refine List.filter_eq_self.2 fun e he => decide_eq_true fun hh => ?_
  have := look_mem.2 ⟨e, he, hh⟩
  omega
theorem Part.step {E : List En} {n m : Nat} {left : Lit → Bool} {E' : List En} {P P2 : List Nat} {x : List UInt8} (h : Part E n left E' P) (hx : left (.string x) = true) (hm : look E n x = m) (hP : ∀ a ∈ P, a ∈ P2) (hmP : m ∈ P2) :
    Part E n (fun z => left z && !z.sameKey (.string x)) (E' ++ [⟨n, x, m⟩]) P2 where
  sub := fun y hy => by
    rw [look_app, look_one] at hy ⊢
    by_cases h0 : 0 ≤ look E' n y
    · rw [if_pos h0]
      exact h.sub y h0
    · rw [if_neg h0] at hy ⊢
      by_cases hxy : x = y
      · subst hxy
        rw [if_pos ⟨rfl, rfl⟩, hm]
      · rw [if_neg (fun e => hxy e.2)] at hy
        omega
  all := fun y hy hE => by
    rw [look_app, look_one]
    by_cases h0 : 0 ≤ look E' n y
    · rw [if_pos h0]
      exact h0
    · rw [if_neg h0]
      by_cases hxy : x = y
      · subst hxy
        rw [if_pos ⟨rfl, rfl⟩]
        exact Int.natCast_nonneg _
      · exfalso
        have hk : (Lit.string y).sameKey (.string x) = false := by
          simp [Lit.sameKey]
          exact fun e => hxy e.symm
        rw [hk] at hy
        simp at hy
        exact h0 (h.all y hy hE)
  fresh := fun y hy => by
    have hy1 : left (.string y) = true := by
      cases hl : left (.string y) with
      | true => rfl
      | false => rw [hl] at hy; cases hy
    have h0 := h.fresh y hy1
    rw [look_app, if_neg (by omega), look_one]
    rw [if_neg]
    · omega
    · rintro ⟨_, rfl⟩
      rw [hy1] at hy
      simp [Lit.sameKey] at hy
  once := by
    rw [List.pairwise_append]
    refine ⟨h.once, List.pairwise_singleton _ _, fun a ha b hb => ?_⟩
    obtain rfl := List.mem_singleton.1 hb
    intro hh
    have := h.fresh x hx
    have h2 : 0 ≤ look E' n x := look_mem.2 ⟨a, ha, hh⟩
    omega
  inP := fun e he => by
    rcases List.mem_append.1 he with he | he
    · exact ⟨(h.inP e he).1, hP _ (h.inP e he).2⟩
    · obtain rfl := List.mem_singleton.1 he
      exact ⟨rfl, hmP⟩
theorem count_all {E : List En} {n : Nat} (h : ∀ e ∈ E, e.dir = n) : count E n = E.length := by
  unfold count
  rw [List.filter_eq_self.2 fun e he => by simpa using h e he]
end Pz

end Go.Proofs.YtiepdioaidglmaaGreatDoor

/- Walks: copier.node: a node copied with all that it leads to, each once. -/
namespace Go.Proofs.YtiepdioaidglmaaGreatDoor
open Go.RowKit
open Go.ChangeMaps Go.MapKept

theorem MapE.congr {D : DataW Unit} {γ γ' : Nat → Nat} {E : List Pz.En} {i : Nat} (h : MapE D γ E i) (hg : ∀ e ∈ E, e.dir = i → γ' e.node = γ e.node) : MapE D γ' E i := by
  refine ⟨fun x zd => ?_, h.2⟩
  rw [h.1 x zd]
  by_cases hl : Pz.look E i x < 0
  · rw [if_pos hl, if_pos hl]
  · rw [if_neg hl, if_neg hl]
    have := hg _ (Pz.look_entry (n := (Pz.look E i x).toNat) (i := i) (x := x) (by omega)) rfl
    simp only at this
    rw [this]
/-- a node's copy is begun -/
theorem Copied.add {w0 w w' : World} {bc : Nat} {β : Nat → Nat} {S : Pz.Fil} {V : Nat → Prop} {P : List Nat} {Q : Nat → Prop} {γ ν : Nat → Nat} (h : Copied w0 w bc β S V P Q γ ν) {n g q : Nat} (hn : n ∉ P) (hV : V n)
    (hm : PMap w' bc (P.length + 1) (fun k => if k = β n then some g else pairQ P β γ k)) (hw : Below w0.heap.size w0 w') (hs : w.heap.size ≤ w'.heap.size) (hk : ∀ j, j < w.heap.size → j ≠ bc → w'.heap[j]? = w.heap[j]?)
    (hg : w.heap.size ≤ g ∧ g < w'.heap.size) : Copied w0 w' bc β S V (n :: P) (fun m => Q m ∨ m = n) (upd γ n g) (upd ν n q) := by
  have hbc := h.mc.lt
  have hu : ∀ m ∈ P, upd γ n g m = γ m := fun m hm => if_neg fun (e : m = n) => hn (e ▸ hm)
  have hun : upd γ n g n = g := if_pos rfl
  have hnp : ∀ m ∈ n :: P, ¬ (Q m ∨ m = n) → m ∈ P ∧ ¬ Q m ∧ m ≠ n := fun m hm hq => by
    rcases List.mem_cons.1 hm with rfl | hm
    · exact absurd (Or.inr rfl) hq
    · exact ⟨hm, fun e => hq (Or.inl e), fun e => hq (Or.inr e)⟩
  refine ⟨?_, h.lc, List.nodup_cons.2 ⟨hn, h.nd⟩, fun m hm => ?_, hw, fun m hm => ?_, fun a ha b hb e => ?_, fun m hm hq => ?_, fun m hm hq hd => ?_, fun m hm hq e he hed => ?_, fun a ha b hb qa qb da db e => ?_⟩
  · have := pairQ_cons P β (upd γ n g) n
    rw [hun, ← pairQ_congr (f := β) (g := γ) (g' := upd γ n g) fun m hm => (hu m hm).symm] at this
    rw [← this]
    exact hm
  · rcases List.mem_cons.1 hm with rfl | hm
    · exact hV
    · exact h.mem m hm
  · rcases List.mem_cons.1 hm with rfl | hm
    · rw [hun]
      have := h.below.size
      exact ⟨by omega, hg.2, by omega⟩
    · rw [hu m hm]
      exact ⟨(h.own m hm).1, Nat.lt_of_lt_of_le (h.own m hm).2.1 hs, (h.own m hm).2.2⟩
  · by_cases ea : a = n
    · by_cases eb : b = n
      · rw [ea, eb]
      · have hb' : b ∈ P := (List.mem_cons.1 hb).resolve_left eb
        rw [ea, hun, hu b hb'] at e
        have := (h.own b hb').2.1
        omega
    · have ha' : a ∈ P := (List.mem_cons.1 ha).resolve_left ea
      by_cases eb : b = n
      · rw [eb, hun, hu a ha'] at e
        have := (h.own a ha').2.1
        omega
      · have hb' : b ∈ P := (List.mem_cons.1 hb).resolve_left eb
        rw [hu a ha', hu b hb'] at e
        exact h.inj a ha' b hb' e
  · obtain ⟨h1, h2, h3⟩ := hnp m hm hq
    rw [hu m h1, show upd ν n q m = ν m from if_neg h3]
    exact (hk _ (h.own m h1).2.1 (h.own m h1).2.2).trans (h.node m h1 h2)
  · obtain ⟨h1, h2, h3⟩ := hnp m hm hq
    obtain ⟨D, o1, o2, o3⟩ := h.dirs m h1 h2 hd
    rw [show upd ν n q m = ν m from if_neg h3]
    exact ⟨D, map_keep o1 (hk _ o1.lt o3), o2.congr fun e he hed => hu _ (h.ve m h1 h2 e he hed), o3⟩
  · obtain ⟨h1, h2, h3⟩ := hnp m hm hq
    exact List.mem_cons_of_mem _ (h.ve m h1 h2 e he hed)
  · obtain ⟨a1, a2, a3⟩ := hnp a ha qa
    obtain ⟨b1, b2, b3⟩ := hnp b hb qb
    rw [show upd ν n q a = ν a from if_neg a3, show upd ν n q b = ν b from if_neg b3] at e
    exact h.vinj a a1 b b1 a2 b2 da db e
/-- a node's copy is whole -/
theorem Copied.done {w0 w : World} {bc n : Nat} {β : Nat → Nat} {S : Pz.Fil} {V : Nat → Prop} {P : List Nat} {Q : Nat → Prop} {γ ν : Nat → Nat} (h : Copied w0 w bc β S V P (fun m => Q m ∨ m = n) γ ν)
    (h1 : w.heap[γ n]? = some (.cells #[.string ⟨(Pz.nodeD S.N n).data.toArray⟩, .int .i64 (Pz.nodeD S.N n).links, .map (if Pz.isDir S.N n then some (ν n) else none)] 101 (0, 0)))
    (h2 : Pz.isDir S.N n = true → ∃ D, w.ownsMap Tryz.prog 9 ptrE (ν n) (Pz.count S.E n) D ∧ MapE D γ S.E n ∧ ν n ≠ bc) (h3 : ∀ e ∈ S.E, e.dir = n → e.node ∈ P) (h4 : Pz.isDir S.N n = true → ∀ m ∈ P, ¬ Q m → m ≠ n → Pz.isDir S.N m = true → ν m ≠ ν n) : Copied w0 w bc β S V P Q γ ν :=
  { h with
    node := fun m hm hq => by
      by_cases e : m = n
      · rw [e]
        exact h1
      · exact h.node m hm (fun hh => hh.elim hq e)
    dirs := fun m hm hq hd => by
      by_cases e : m = n
      · rw [e] at hd ⊢
        exact h2 hd
      · exact h.dirs m hm (fun hh => hh.elim hq e) hd
    ve := fun m hm hq e he hed => by
      by_cases em : m = n
      · exact h3 e he (hed.trans em)
      · exact h.ve m hm (fun hh => hh.elim hq em) e he hed
    vinj := fun a ha b hb qa qb da db e => by
      by_cases ea : a = n
      · by_cases eb : b = n
        · rw [ea, eb]
        · rw [ea] at e da
          exact absurd e.symm (h4 da b hb qb eb db)
      · by_cases eb : b = n
        · rw [eb] at e db
          exact absurd e (h4 db a ha qa ea da)
        · exact h.vinj a ha b hb (fun hh => hh.elim qa ea) (fun hh => hh.elim qb eb) da db e }

/-- what a node's copy comes to -/
def CopyYes (w0 : World) (bc : Nat) (β : Nat → Nat) (S : Pz.Fil) (V : Nat → Prop) (P : List Nat) (Q : Nat → Prop) (γ ν : Nat → Nat) (n : Nat) (w : World) (e : Ending) (w' : World) : Prop :=
  ∃ (P' : List Nat) (γ' ν' : Nat → Nat), e = .returned (.pointer (some ⟨γ' n, 0, none⟩)) ∧ Copied w0 w' bc β S V P' Q γ' ν' ∧ n ∈ P' ∧ (∀ m ∈ P, m ∈ P' ∧ γ' m = γ m ∧ ν' m = ν m) ∧
    (∀ m ∈ P', m ∉ P → w.heap.size ≤ γ' m ∧ (Pz.isDir S.N m = true → w.heap.size ≤ ν' m)) ∧ P.length ≤ P'.length ∧ Only (fun k => k = bc) w w'

theorem Copied.keyP {w0 w : World} {bc : Nat} {β μ : Nat → Nat} {S : Pz.Fil} {V : Nat → Prop} {P : List Nat} {Q : Nat → Prop} {γ ν : Nat → Nat} {r bo : Nat} (h : Copied w0 w bc β S V P Q γ ν) (h1 : Shape w0 r bo β μ S V) {W : World} (hW : Below w0.heap.size w0 W) :
    ∀ x, (pairQ P β γ x).isSome = true → KeyBlock W x := fun x hx => by
  obtain ⟨m, hm, rfl⟩ := pairQ_some hx
  exact (h1.keep hW).key (h.mem m hm)

set_option maxHeartbeats 4000000 in
set_option maxRecDepth 100000 in
theorem cnode_in {w0 : World} {S : Pz.Fil} {r bo : Nat} {β μ : Nat → Nat} {V : Nat → Prop} (h1 : Shape w0 r bo β μ S V) (bc : Nat) (P : List Nat) (Q : Nat → Prop) (γ ν : Nat → Nat) (n : Nat) (w : World) (hV : V n) (hC : Copied w0 w bc β S V P Q γ ν) (hn : n ∈ P) :
    Calls Tryz.prog 54 #[.map (some bc), .pointer (some ⟨β n, 0, none⟩)] w (CopyYes w0 bc β S V P Q γ ν n w) := by
  have q1 := plook hC.mc (hC.keyP h1 hC.below) ((h1.keep hC.below).key hV)
  rw [pairQ_in (fun a ha b hb => h1.bInj a b (hC.mem a ha) (hC.mem b hb)) hn] at q1
  simp only [ptrV, Option.map] at q1
  have q2 : (Instr.lookup 90 (.map (some bc)) (.pointer (some ⟨β n, 0, none⟩)) false).run Tryz.prog w = .ok (.pointer (some ⟨γ n, 0, none⟩)) w := by
    rw [← q1]
    rfl
  have HC := Lib.hid hC
  clear hC q1
  go_enter Tryz.func54, Tryz.ntmps54
  go_wp2
  go_ret
  exact ⟨P, γ, ν, rfl, HC.out, hn, fun m hm => ⟨hm, rfl, rfl⟩, fun m hm hno => absurd hm hno, Nat.le_refl _, Only.refl _ _⟩

end Go.Proofs.YtiepdioaidglmaaGreatDoor
