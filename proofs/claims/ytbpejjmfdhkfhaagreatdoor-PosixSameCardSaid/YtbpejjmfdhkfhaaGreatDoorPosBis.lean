/- Two file systems whose nodes are paired; pairs of nodes in two maps. -/
import Derived.Test.YtbpejjmfdhkfhaaGreatDoorPosLike
set_option linter.unusedVariables false
set_option linter.unusedSimpArgs false
namespace Go.Proofs.YtbpejjmfdhkfhaaGreatDoor
open Go.RowKit

theorem sub_back {α : Type} [DecidableEq α] : ∀ (A B : List α), A.Nodup → (∀ x ∈ A, x ∈ B) → B.length ≤ A.length → ∀ x ∈ B, x ∈ A
  | [], B, _, _, h, x, hx => by
    have : B = [] := List.eq_nil_of_length_eq_zero (by simpa using h)
    rw [this] at hx
    cases hx
  | a :: r, B, hn, hs, hl, x, hx => by
    obtain ⟨h1, h2⟩ := List.nodup_cons.1 hn
    by_cases e : x = a
    · rw [e]
      exact List.mem_cons_self ..
    · refine List.mem_cons_of_mem _ (sub_back r (B.erase a) h2 (fun y hy => ?_) ?_ x ((List.mem_erase_of_ne e).2 hx))
      · exact (List.mem_erase_of_ne (fun (e : y = a) => h1 (e ▸ hy))).2 (hs y (List.mem_cons_of_mem _ hy))
      · rw [List.length_erase_of_mem (hs a (List.mem_cons_self ..))]
        rw [List.length_cons] at hl
        omega

namespace Pz
theorem look_no {E : List En} {i : Nat} {x : List UInt8} (h : look E i x < 0) : look E i x = -1 := by
  have := look_ge (E := E) (i := i) (x := x)
  omega
theorem ofd_no {O : List Op} {c fd : Int} (h : ofd O c fd < 0) : ofd O c fd = -1 := by
  induction O with
  | nil => rfl
  | cons a r ih =>
    rw [ofd] at h ⊢
    split at h
    · omega
    · rename_i hh
      rw [if_neg hh]
      exact ih h
theorem look_back {E G : List En} {n m : Nat} (h1 : E.Pairwise fun a b => ¬ (a.dir = b.dir ∧ a.name = b.name)) (hc : count G m = count E n) (h : ∀ x, 0 ≤ look E n x → 0 ≤ look G m x) {x : List UInt8} (hx : 0 ≤ look G m x) : 0 ≤ look E n x := by
  rw [← names_mem]
  refine sub_back ((E.filter fun e => e.dir == n).map (·.name)) ((G.filter fun e => e.dir == m).map (·.name)) (names_nodup h1) (fun y hy => ?_) ?_ x ?_
  · rw [names_mem] at hy ⊢
    exact h y hy
  · rw [List.length_map, List.length_map]
    unfold count at hc
    omega
  · rw [names_mem]
    exact hx
theorem ofd_back {O G : List Op} (h1 : O.Pairwise fun a b => ¬ (a.client = b.client ∧ a.fd = b.fd)) (hc : G.length = O.length) (h : ∀ c fd, 0 ≤ ofd O c fd → 0 ≤ ofd G c fd) {c fd : Int} (hx : 0 ≤ ofd G c fd) : 0 ≤ ofd O c fd := by
  have mem : ∀ {G : List Op} {x : Int × Int}, x ∈ (G.map fun o => (o.client, o.fd)) ↔ 0 ≤ ofd G x.1 x.2 := fun {G x} => by
    rw [ofd_memC, List.mem_map]
    constructor
    · rintro ⟨o, ho, rfl⟩
      exact ⟨o, ho, rfl, rfl⟩
    · rintro ⟨o, ho, h1, h2⟩
      exact ⟨o, ho, by rw [h1, h2]⟩
  refine mem.1 (sub_back (O.map fun o => (o.client, o.fd)) (G.map fun o => (o.client, o.fd)) ?_ (fun y hy => ?_) ?_ (c, fd) (mem.2 hx))
  · exact List.Pairwise.map (R := fun a b : Op => ¬ (a.client = b.client ∧ a.fd = b.fd)) _ (fun a b hab e => hab (by
      simp only [Prod.mk.injEq] at e
      exact e)) h1
  · rw [mem] at hy ⊢
    exact h _ _ hy
  · rw [List.length_map, List.length_map]
    omega
/-- a pair of nodes fits, as far as the pairs of P tell -/
structure Fit (S T : Fil) (P : List (Nat × Nat)) (q : Nat × Nat) : Prop where
  node : nodeD T.N q.2 = nodeD S.N q.1
  cnt : count T.E q.2 = count S.E q.1
  ent : ∀ x, 0 ≤ look S.E q.1 x → 0 ≤ look T.E q.2 x ∧ ((look S.E q.1 x).toNat, (look T.E q.2 x).toNat) ∈ P
theorem Fit.mono {S T : Fil} {P P' : List (Nat × Nat)} {q : Nat × Nat} (h : Fit S T P q) (hP : ∀ a ∈ P, a ∈ P') : Fit S T P' q :=
  ⟨h.node, h.cnt, fun x hx => ⟨(h.ent x hx).1, hP _ (h.ent x hx).2⟩⟩
/-- pairs that fit, all of them -/
structure Full (S T : Fil) (P : List (Nat × Nat)) : Prop where
  all : ∀ q ∈ P, Fit S T P q
  n1 : (P.map Prod.fst).Nodup
  n2 : (P.map Prod.snd).Nodup
/-- two file systems whose nodes are paired -/
structure Bis (S T : Fil) (P : List (Nat × Nat)) : Prop where
  all : ∀ q ∈ P, Fit S T P q
  n1 : (P.map Prod.fst).Nodup
  n2 : (P.map Prod.snd).Nodup
  root : (0, 0) ∈ P
  lt : ∀ q ∈ P, q.1 < S.N.length ∧ q.2 < T.N.length
  len : T.O.length = S.O.length
  opn : ∀ c fd, 0 ≤ ofd S.O c fd → 0 ≤ ofd T.O c fd ∧ ((ofd S.O c fd).toNat, (ofd T.O c fd).toNat) ∈ P
theorem map_nodup_inj {α β : Type} {f : α → β} : ∀ {P : List α}, (P.map f).Nodup → ∀ a ∈ P, ∀ b ∈ P, f a = f b → a = b
  | [], _, a, ha, _, _, _ => by cases ha
  | c :: r, h, a, ha, b, hb, e => by
    rw [List.map_cons, List.nodup_cons] at h
    rcases List.mem_cons.1 ha with h1 | h1
    · rcases List.mem_cons.1 hb with h2 | h2
      · rw [h1, h2]
      · rw [h1] at e
        exact absurd (List.mem_map.2 ⟨b, h2, e.symm⟩) h.1
    · rcases List.mem_cons.1 hb with h2 | h2
      · rw [h2] at e
        exact absurd (List.mem_map.2 ⟨a, h1, e⟩) h.1
      · exact map_nodup_inj h.2 a h1 b h2 e
/-- the partner of a node -/
def mate (P : List (Nat × Nat)) (n : Nat) : Nat := ((P.find? fun q => q.1 == n).map Prod.snd).getD 0
theorem mate_is {P : List (Nat × Nat)} (h : (P.map Prod.fst).Nodup) {n m : Nat} (hm : (n, m) ∈ P) : mate P n = m := by
  unfold mate
  cases hf : P.find? fun q => q.1 == n with
  | none => exact absurd (List.find?_eq_none.1 hf _ hm) (by simp)
  | some q =>
    have h1 := List.mem_of_find?_eq_some hf
    have h2 := List.find?_some hf
    have := map_nodup_inj h q h1 (n, m) hm (by simpa using h2)
    rw [this]
    rfl
theorem Bis.like {K : Nat} {S T : Fil} {P : List (Nat × Nat)} (h : Bis S T P) (hS : Good K S) (hT : Good K T) : ∃ V ρ, Like S T V ρ := by
  refine ⟨fun n => ∃ m, (n, m) ∈ P, mate P, ?_⟩
  have im : ∀ {n m}, (n, m) ∈ P → mate P n = m := fun hm => mate_is h.n1 hm
  exact {
    v0 := ⟨0, h.root⟩
    r0 := im h.root
    lt := fun n ⟨m, hm⟩ => by
      rw [im hm]
      exact h.lt _ hm
    inj := fun a b ⟨m, hm⟩ ⟨k, hk⟩ e => by
      rw [im hm, im hk] at e
      subst e
      have := map_nodup_inj h.n2 _ hm _ hk rfl
      exact (Prod.mk.inj this).1
    node := fun n ⟨m, hm⟩ => by
      rw [im hm]
      exact (h.all _ hm).node
    ent := fun i ⟨m, hm⟩ x => by
      rw [im hm]
      have hf : ∀ y, 0 ≤ look S.E i y → 0 ≤ look T.E m y ∧ ((look S.E i y).toNat, (look T.E m y).toNat) ∈ P := (h.all _ hm).ent
      have hfc : count T.E m = count S.E i := (h.all _ hm).cnt
      by_cases hl : look S.E i x < 0
      · rw [if_pos hl]
        by_cases ht : look T.E m x < 0
        · exact look_no ht
        · exact absurd (look_back hS.once hfc (fun y hy => (hf y hy).1) (x := x) (by omega)) (by omega)
      · rw [if_neg hl]
        obtain ⟨h1, h2⟩ := hf x (by omega)
        rw [im h2]
        omega
    ve := fun e he ⟨m, hm⟩ => by
      have hl := look_of_mem hS.once he
      obtain ⟨h1, h2⟩ := (h.all _ hm).ent e.name (by simp only; omega)
      simp only [hl, Int.toNat_natCast] at h2
      exact ⟨_, h2⟩
    vo := fun o ho => by
      have hl := ofd_of_mem hS.one ho
      obtain ⟨h1, h2⟩ := h.opn o.client o.fd (by omega)
      simp only [hl, Int.toNat_natCast] at h2
      exact ⟨_, h2⟩
    opn := fun c fd => by
      by_cases hl : ofd S.O c fd < 0
      · rw [if_pos hl]
        by_cases ht : ofd T.O c fd < 0
        · exact ofd_no ht
        · exact absurd (ofd_back hS.one h.len (fun a b hab => (h.opn a b hab).1) (c := c) (fd := fd) (by omega)) (by omega)
      · rw [if_neg hl]
        obtain ⟨h1, h2⟩ := h.opn c fd (by omega)
        rw [im h2]
        omega }
/-- alike ones, whatever the numbers -/
def Alike (S T : Fil) : Prop := ∃ V ρ, Like S T V ρ
theorem Alike.symm {K : Nat} {S T : Fil} (h : Alike S T) (hS : Good K S) (hT : Good K T) : Alike T S := by
  classical
  obtain ⟨V, ρ, h⟩ := h
  have hc : ∃ σ : Nat → Nat, ∀ n, V n → σ (ρ n) = n := by
    refine ⟨fun m => if hh : ∃ n, V n ∧ ρ n = m then hh.choose else 0, fun n hn => ?_⟩
    have hh : ∃ k, V k ∧ ρ k = ρ n := ⟨n, hn, rfl⟩
    show (if hh : ∃ k, V k ∧ ρ k = ρ n then hh.choose else 0) = n
    rw [dif_pos hh]
    exact h.inj _ _ hh.choose_spec.1 hn hh.choose_spec.2
  obtain ⟨σ, hσ⟩ := hc
  refine ⟨fun m => ∃ n, V n ∧ ρ n = m, σ, ?_⟩
  exact {
    v0 := ⟨0, h.v0, h.r0⟩
    r0 := by
      have := hσ 0 h.v0
      rw [h.r0] at this
      exact this
    lt := fun m ⟨n, hn, e⟩ => by
      subst e
      rw [hσ n hn]
      exact ⟨(h.lt n hn).2, (h.lt n hn).1⟩
    inj := fun a b ⟨n, hn, e⟩ ⟨k, hk, e'⟩ hh => by
      subst e
      subst e'
      rw [hσ n hn, hσ k hk] at hh
      rw [hh]
    node := fun m ⟨n, hn, e⟩ => by
      subst e
      rw [hσ n hn]
      exact (h.node n hn).symm
    ent := fun m ⟨n, hn, e⟩ x => by
      subst e
      rw [hσ n hn, h.ent n hn x]
      by_cases hl : look S.E n x < 0
      · rw [if_pos hl, if_pos (by omega)]
        exact look_no hl
      · have hv : V (look S.E n x).toNat := h.vlook hn (x := x) (m := (look S.E n x).toNat) (by omega)
        rw [if_neg hl, if_neg (by omega), Int.toNat_natCast, hσ _ hv]
        omega
    ve := fun e he ⟨n, hn, en⟩ => by
      have hl := look_of_mem hT.once he
      rw [← en, h.ent n hn] at hl
      by_cases h0 : look S.E n e.name < 0
      · rw [if_pos h0] at hl
        omega
      · rw [if_neg h0] at hl
        exact ⟨_, h.vlook hn (x := e.name) (m := (look S.E n e.name).toNat) (by omega), by omega⟩
    vo := fun o ho => by
      have hl := ofd_of_mem hT.one ho
      rw [h.opn] at hl
      by_cases h0 : ofd S.O o.client o.fd < 0
      · rw [if_pos h0] at hl
        omega
      · rw [if_neg h0] at hl
        obtain ⟨oo, hoo, hon⟩ := ofd_node (m := (ofd S.O o.client o.fd).toNat) (O := S.O) (c := o.client) (fd := o.fd) (by omega)
        exact ⟨_, hon ▸ h.vo oo hoo, by omega⟩
    opn := fun c fd => by
      rw [h.opn]
      by_cases hl : ofd S.O c fd < 0
      · rw [if_pos hl, if_pos (by omega)]
        exact ofd_no hl
      · obtain ⟨oo, hoo, hon⟩ := ofd_node (m := (ofd S.O c fd).toNat) (O := S.O) (c := c) (fd := fd) (by omega)
        rw [if_neg hl, if_neg (by omega), Int.toNat_natCast, hσ _ (hon ▸ h.vo oo hoo)]
        omega }
end Pz

/-- what pairs lead to -/
def pairG (P : List (Nat × Nat)) (f g : Nat × Nat → Nat) : Nat → Option Nat := fun x => (P.find? fun q => f q == x).map g
theorem pairG_in {P : List (Nat × Nat)} {f g : Nat × Nat → Nat} (hf : ∀ a ∈ P, ∀ b ∈ P, f a = f b → a = b) {q : Nat × Nat} (hq : q ∈ P) : pairG P f g (f q) = some (g q) := by
  unfold pairG
  cases h : P.find? fun a => f a == f q with
  | none => exact absurd (List.find?_eq_none.1 h q hq) (by simp)
  | some a =>
    have h1 := List.mem_of_find?_eq_some h
    have h2 := List.find?_some h
    rw [hf a h1 q hq (by simpa using h2)]
    rfl
theorem pairG_out {P : List (Nat × Nat)} {f g : Nat × Nat → Nat} {x : Nat} (h : ∀ a ∈ P, f a ≠ x) : pairG P f g x = none := by
  unfold pairG
  rw [List.find?_eq_none.2 fun a ha => by simpa using h a ha]
  rfl
theorem pairG_some {P : List (Nat × Nat)} {f g : Nat × Nat → Nat} {x : Nat} (h : (pairG P f g x).isSome = true) : ∃ q ∈ P, f q = x := by
  unfold pairG at h
  cases hh : P.find? fun a => f a == x with
  | none => rw [hh] at h; cases h
  | some a => exact ⟨a, List.mem_of_find?_eq_some hh, by simpa using List.find?_some hh⟩
theorem pairG_cons (P : List (Nat × Nat)) (f g : Nat × Nat → Nat) (q : Nat × Nat) : (fun k => if k = f q then some (g q) else pairG P f g k) = pairG (q :: P) f g := by
  funext k
  unfold pairG
  rw [List.find?_cons]
  by_cases h : k = f q
  · rw [if_pos h, h]
    simp
  · rw [if_neg h]
    have : (f q == k) = false := by rw [beq_eq_false_iff_ne]; exact fun e => h e.symm
    rw [this]

/-- the pairs of P are laid in the two maps -/
structure PairB (w0 w : World) (bt bf : Nat) (β γ : Nat → Nat) (V U : Nat → Prop) (P : List (Nat × Nat)) : Prop where
  mt : PMap w bt P.length (pairG P (fun q => β q.1) (fun q => γ q.2))
  mf : PMap w bf P.length (pairG P (fun q => γ q.2) (fun q => β q.1))
  ne : bt ≠ bf
  lt : w0.heap.size ≤ bt
  lf : w0.heap.size ≤ bf
  n1 : (P.map Prod.fst).Nodup
  n2 : (P.map Prod.snd).Nodup
  mem : ∀ q ∈ P, V q.1 ∧ U q.2
  below : Below w0.heap.size w0 w
theorem PairB.keep {w0 w w' : World} {bt bf : Nat} {β γ : Nat → Nat} {V U : Nat → Prop} {P : List (Nat × Nat)} (h : PairB w0 w bt bf β γ V U P) (hb : Below w.heap.size w w') : PairB w0 w' bt bf β γ V U P :=
  { h with
    mt := h.mt.keep (hb.block _ h.mt.lt)
    mf := h.mf.keep (hb.block _ h.mf.lt)
    below := h.below.trans (hb.mono h.below.size) }
theorem PairB.turn {w0 w w' : World} {bt bf : Nat} {β γ : Nat → Nat} {V U : Nat → Prop} {P : List (Nat × Nat)} (h : PairB w0 w bt bf β γ V U P) (h1 : w'.heap[bt]? = w.heap[bt]?) (h2 : w'.heap[bf]? = w.heap[bf]?) (hb : Below w0.heap.size w0 w') : PairB w0 w' bt bf β γ V U P :=
  { h with
    mt := h.mt.keep h1
    mf := h.mf.keep h2
    below := hb }
theorem pairb_start {w0 : World} {S T : Pz.Fil} {r1 bo1 r2 bo2 : Nat} {β γ μ ν : Nat → Nat} {V U : Nat → Prop} (h1 : Shape w0 r1 bo1 β μ S V) (h2 : Shape w0 r2 bo2 γ ν T U) {bt bf : Nat} {P : List (Nat × Nat)} {w : World} (hP : PairB w0 w bt bf β γ V U P) :
    (∀ a ∈ P, ∀ b ∈ P, β a.1 = β b.1 → a = b) ∧ (∀ a ∈ P, ∀ b ∈ P, γ a.2 = γ b.2 → a = b) ∧ (∀ x, (pairG P (fun q => β q.1) (fun q => γ q.2) x).isSome = true → KeyBlock w x) ∧ (∀ x, (pairG P (fun q => γ q.2) (fun q => β q.1) x).isSome = true → KeyBlock w x) := by
  have hs1 := h1.keep hP.below
  have hs2 := h2.keep hP.below
  refine ⟨fun a ha b hb e => Pz.map_nodup_inj hP.n1 a ha b hb (h1.bInj _ _ (hP.mem a ha).1 (hP.mem b hb).1 e), fun a ha b hb e => Pz.map_nodup_inj hP.n2 a ha b hb (h2.bInj _ _ (hP.mem a ha).2 (hP.mem b hb).2 e), fun x hx => ?_, fun x hx => ?_⟩
  · obtain ⟨m, hm, rfl⟩ := pairG_some hx
    exact hs1.key (hP.mem m hm).1
  · obtain ⟨m, hm, rfl⟩ := pairG_some hx
    exact hs2.key (hP.mem m hm).2

end Go.Proofs.YtbpejjmfdhkfhaaGreatDoor
