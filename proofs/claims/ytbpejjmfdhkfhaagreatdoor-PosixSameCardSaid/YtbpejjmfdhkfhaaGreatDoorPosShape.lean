/- A file system's live nodes in memory; pairs of nodes that are told to be the same; ranges over maps that a call does not turn. -/
import Derived.Test.YtbpejjmfdhkfhaaGreatDoorPosPtr
import Derived.Test.YtbpejjmfdhkfhaaGreatDoorPosLives
set_option linter.unusedVariables false
set_option linter.unusedSimpArgs false
namespace Go.Proofs.YtbpejjmfdhkfhaaGreatDoor
open Go.RowKit
open Go.ChangeMaps Go.MapKept

/-- the nodes of V lie in memory, with all that leads on from them -/
structure Shape (w : World) (r bo : Nat) (β μ : Nat → Nat) (S : Pz.Fil) (V : Nat → Prop) : Prop where
  root : w.heap[r]? = some (.cells #[.pointer (some ⟨β 0, 0, none⟩), .map (some bo)] 65 (0, 0))
  node : ∀ n, V n → w.heap[β n]? = some (.cells #[.string ⟨(Pz.nodeD S.N n).data.toArray⟩, .int .i64 (Pz.nodeD S.N n).links, .map (if Pz.isDir S.N n then some (μ n) else none)] 105 (0, 0))
  dirs : ∀ n, V n → Pz.isDir S.N n = true → ∃ D, w.ownsMap Tryz.prog 9 ptrE (μ n) (Pz.count S.E n) D ∧ MapE D β S.E n
  opn : ∃ D, w.ownsMap Tryz.prog 67 ptrE bo S.O.length D ∧ MapO D β S.O
  bInj : ∀ n m, V n → V m → β n = β m → n = m
  v0 : V 0
  ve : ∀ e ∈ S.E, V e.dir → V e.node
  vo : ∀ o ∈ S.O, V o.node
  vlt : ∀ n, V n → n < S.N.length
theorem RealAt.shape [Inhabited XBox] {w : World} {F : Nat → Prop} {r bo : Nat} {β μ : Nat → Nat} {S : Pz.Fil} (h : RealAt w F r bo β μ S) (hO : Pz.Ok S) : Shape w r bo β μ S (fun n => n < S.N.length) where
  root := h.root
  node := h.node
  dirs := fun n _ hd => h.dirs n hd
  opn := h.opn
  bInj := h.bInj
  v0 := hO.root
  ve := fun e he _ => (hO.ent e he).2
  vo := hO.opn
  vlt := fun _ h => h
theorem Shape.keep {w w' : World} {r bo : Nat} {β μ : Nat → Nat} {S : Pz.Fil} {V : Nat → Prop} (h : Shape w r bo β μ S V) (hb : Below w.heap.size w w') : Shape w' r bo β μ S V :=
  { h with
    root := (hb.block _ (lt_of_get h.root)).trans h.root
    node := fun n hn => (hb.block _ (lt_of_get (h.node n hn))).trans (h.node n hn)
    dirs := fun n hn hd => by
      obtain ⟨D, h1, h2⟩ := h.dirs n hn hd
      exact ⟨D, map_keep h1 (hb.block _ h1.lt), h2⟩
    opn := by
      obtain ⟨D, h1, h2⟩ := h.opn
      exact ⟨D, map_keep h1 (hb.block _ h1.lt), h2⟩ }
theorem Shape.key {w : World} {r bo : Nat} {β μ : Nat → Nat} {S : Pz.Fil} {V : Nat → Prop} (h : Shape w r bo β μ S V) {n : Nat} (hn : V n) : KeyBlock w (β n) := ⟨_, _, h.node n hn⟩
theorem Shape.nc {w : World} {r bo : Nat} {β μ : Nat → Nat} {S : Pz.Fil} {V : Nat → Prop} (h : Shape w r bo β μ S V) {n : Nat} (hn : V n) :
    w.cell? ⟨β n, 0, none⟩ = some (.string ⟨(Pz.nodeD S.N n).data.toArray⟩) ∧ w.cell? ⟨β n, 1, none⟩ = some (.int .i64 (Pz.nodeD S.N n).links) ∧ w.cell? ⟨β n, 2, none⟩ = some (.map (if Pz.isDir S.N n then some (μ n) else none)) :=
  ⟨cell_of_row w _ 0 _ _ _ (h.node n hn), cell_of_row w _ 1 _ _ _ (h.node n hn), cell_of_row w _ 2 _ _ _ (h.node n hn)⟩

/-- what pairs of nodes lead to -/
def pairQ (P : List Nat) (f g : Nat → Nat) : Nat → Option Nat := fun x => (P.find? fun m => f m == x).map g
theorem pairQ_in {P : List Nat} {f g : Nat → Nat} (hf : ∀ a ∈ P, ∀ b ∈ P, f a = f b → a = b) {m : Nat} (hm : m ∈ P) : pairQ P f g (f m) = some (g m) := by
  unfold pairQ
  cases h : P.find? fun a => f a == f m with
  | none => exact absurd (List.find?_eq_none.1 h m hm) (by simp)
  | some a =>
    have h1 := List.mem_of_find?_eq_some h
    have h2 := List.find?_some h
    rw [hf a h1 m hm (by simpa using h2)]
    rfl
theorem pairQ_out {P : List Nat} {f g : Nat → Nat} {x : Nat} (h : ∀ a ∈ P, f a ≠ x) : pairQ P f g x = none := by
  unfold pairQ
  rw [List.find?_eq_none.2 fun a ha => by simpa using h a ha]
  rfl
theorem pairQ_some {P : List Nat} {f g : Nat → Nat} {x : Nat} (h : (pairQ P f g x).isSome = true) : ∃ m ∈ P, f m = x := by
  unfold pairQ at h
  cases hh : P.find? fun a => f a == x with
  | none => rw [hh] at h; cases h
  | some a => exact ⟨a, List.mem_of_find?_eq_some hh, by simpa using List.find?_some hh⟩
theorem pairQ_cons (P : List Nat) (f g : Nat → Nat) (n : Nat) : (fun k => if k = f n then some (g n) else pairQ P f g k) = pairQ (n :: P) f g := by
  funext k
  unfold pairQ
  rw [List.find?_cons]
  by_cases h : k = f n
  · rw [if_pos h, h]
    simp
  · rw [if_neg h]
    have : (f n == k) = false := by rw [beq_eq_false_iff_ne]; exact fun e => h e.symm
    rw [this]
theorem nodup_len : ∀ (N : Nat) (P : List Nat), P.Nodup → (∀ m ∈ P, m < N) → P.length ≤ N
  | 0, P, _, h => by
    cases P with
    | nil => exact Nat.le_refl _
    | cons a r => exact absurd (h a (List.mem_cons_self ..)) (by omega)
  | N + 1, P, hn, h => by
    have h1 := nodup_len N (P.erase N) (hn.erase N) (fun m hm => by
      have h2 := (List.Nodup.mem_erase_iff hn).1 hm
      have := h m h2.2
      omega)
    have := List.length_erase_le (a := N) (l := P)
    by_cases hm : N ∈ P
    · rw [List.length_erase_of_mem hm] at h1
      omega
    · rw [List.erase_of_not_mem hm] at h1
      omega

/-- the pairs of P are laid in the two maps -/
structure Pairs (w0 w : World) (bt bf : Nat) (β γ : Nat → Nat) (V U : Nat → Prop) (P : List Nat) : Prop where
  mt : PMap w bt P.length (pairQ P β γ)
  mf : PMap w bf P.length (pairQ P γ β)
  ne : bt ≠ bf
  lt : w0.heap.size ≤ bt
  lf : w0.heap.size ≤ bf
  nd : P.Nodup
  mem : ∀ m ∈ P, V m ∧ U m
  below : Below w0.heap.size w0 w
theorem Pairs.keep {w0 w w' : World} {bt bf : Nat} {β γ : Nat → Nat} {V U : Nat → Prop} {P : List Nat} (h : Pairs w0 w bt bf β γ V U P) (hb : Below w.heap.size w w') : Pairs w0 w' bt bf β γ V U P :=
  { h with
    mt := h.mt.keep (hb.block _ h.mt.lt)
    mf := h.mf.keep (hb.block _ h.mf.lt)
    below := h.below.trans (hb.mono h.below.size) }

theorem ranges_keep {P : Program} {k : TypeId} {R : Value → Option (DataW Unit × List MemPlace)} {w w' : World} {b r n : Nat} {D : DataW Unit} {left : Lit → Bool} {cnt : Nat} (h : w.ranges P k R b r n D left cnt) (hb : w'.heap[b]? = w.heap[b]?) (hr : w'.heap[r]? = w.heap[r]?) : w'.ranges P k R b r n D left cnt := by
  obtain ⟨es, clock, since, seen, c0, h1, F, hs, hD, h2, rest⟩ := h
  exact ⟨es, clock, since, seen, c0, hb.trans h1, F, hs, hD, hr.trans h2, rest⟩
theorem run_range_nil {P : Program} {t k e : TypeId} (ht : P.underlying t = some (.map k e)) (w : World) : (Instr.range t (.map none)).run P w = .ok (.pointer (some ⟨w.heap.size, 0, none⟩)) (w.alloc (.mapIter none 0 #[] 0)) := by
  simp [Instr.range, run_underlying ht, newObj, Sem.run, Result.andThen]
theorem run_next_nil {P : Program} {ty : TypeId} {w : World} {r : Nat} (h : w.heap[r]? = some (.mapIter none 0 #[] 0)) : (Instr.next (.pointer (some ⟨r, 0, none⟩)) false ty).run P w = .ok (.tuple #[.bool false]) w := by
  have hg : (getObj r).run P w = .ok (.mapIter none 0 #[] 0) w := by simp [getObj, Sem.run, h]
  simp [Instr.next, hg, Result.andThen]

/-- only some blocks turned, and new ones -/
theorem Only.below2 {w w' : World} {bt bf B : Nat} (h : Only (fun k => k = bt ∨ k = bf) w w') (h1 : B ≤ bt) (h2 : B ≤ bf) (hB : B ≤ w.heap.size) : Below B w w' :=
  ⟨h.os, h.tape, h.output, h.size, fun k hk => h.block k (Nat.lt_of_lt_of_le hk hB) (fun e => by omega)⟩

end Go.Proofs.YtbpejjmfdhkfhaaGreatDoor
