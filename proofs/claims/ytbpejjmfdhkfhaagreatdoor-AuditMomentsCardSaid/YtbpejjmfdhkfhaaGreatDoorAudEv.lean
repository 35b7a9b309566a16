/- Events: plain, and in rows of memory. What the program's audit tells of them. -/
import Derived.Test.YtbpejjmfdhkfhaaGreatDoorPosFacts
import Derived.Test.YtbpejjmfdhkfhaaGreatDoorAudSort
set_option linter.unusedVariables false
set_option linter.unusedSimpArgs false
namespace Go.Proofs.YtbpejjmfdhkfhaaGreatDoor
open Go.RowKit

/-- an event: what was asked, when it was asked, done and told, and its answer, whose names lie at A -/
structure Ev where
  cl : Int
  num : Int
  kind : Int
  p : ByteArray
  p2 : ByteArray
  flags : Int
  fd : Int
  off : Int
  n : Int
  data : ByteArray
  asked : Int
  done : Int
  told : Int
  q : Pz.Rep
  A : Option Addr
  c : Nat
def evC (x : Ev) : Array Value := #[.int .i64 x.cl, .int .i64 x.num, .int .i64 x.kind, .string x.p, .string x.p2, .int .i64 x.flags, .int .i64 x.fd, .int .i64 x.off, .int .i64 x.n, .string x.data, .int .i64 x.asked, .int .i64 x.done, .int .i64 x.told, .int .i64 x.q.errno, .int .i64 x.q.fd, .string ⟨x.q.data.toArray⟩, .slice x.A x.q.names.length x.c, .int .i64 x.q.kind, .int .i64 x.q.links, .int .i64 x.q.size]
def evV (x : Ev) : Value := .agg (evC x)
/-- an event's cells stand at a place -/
def EvAt (w : World) (b o : Nat) (x : Ev) : Prop :=
  w.cell? ⟨b, o, none⟩ = some (.int .i64 x.cl) ∧ w.cell? ⟨b, o + 1, none⟩ = some (.int .i64 x.num) ∧ w.cell? ⟨b, o + 2, none⟩ = some (.int .i64 x.kind) ∧ w.cell? ⟨b, o + 3, none⟩ = some (.string x.p) ∧ w.cell? ⟨b, o + 4, none⟩ = some (.string x.p2) ∧ w.cell? ⟨b, o + 5, none⟩ = some (.int .i64 x.flags) ∧ w.cell? ⟨b, o + 6, none⟩ = some (.int .i64 x.fd) ∧ w.cell? ⟨b, o + 7, none⟩ = some (.int .i64 x.off) ∧ w.cell? ⟨b, o + 8, none⟩ = some (.int .i64 x.n) ∧ w.cell? ⟨b, o + 9, none⟩ = some (.string x.data) ∧ w.cell? ⟨b, o + 10, none⟩ = some (.int .i64 x.asked) ∧ w.cell? ⟨b, o + 11, none⟩ = some (.int .i64 x.done) ∧ w.cell? ⟨b, o + 12, none⟩ = some (.int .i64 x.told) ∧ w.cell? ⟨b, o + 13, none⟩ = some (.int .i64 x.q.errno) ∧ w.cell? ⟨b, o + 14, none⟩ = some (.int .i64 x.q.fd) ∧ w.cell? ⟨b, o + 15, none⟩ = some (.string ⟨x.q.data.toArray⟩) ∧ w.cell? ⟨b, o + 16, none⟩ = some (.slice x.A x.q.names.length x.c) ∧ w.cell? ⟨b, o + 17, none⟩ = some (.int .i64 x.q.kind) ∧ w.cell? ⟨b, o + 18, none⟩ = some (.int .i64 x.q.links) ∧ w.cell? ⟨b, o + 19, none⟩ = some (.int .i64 x.q.size)
theorem EvAt.of {w w' : World} {b o : Nat} {x : Ev} (h : EvAt w b o x) (e : ∀ i, w'.cell? ⟨b, i, none⟩ = w.cell? ⟨b, i, none⟩) : EvAt w' b o x := by
  unfold EvAt at h ⊢
  simp only [e]
  exact h
theorem evAt_row {w : World} {g t : Nat} {x : Ev} (h : w.heap[g]? = some (.cells (evC x) t (0, 0))) : EvAt w g 0 x := by
  unfold EvAt
  simp only [Nat.zero_add]
  exact ⟨cell_of_row w g 0 _ t _ h, cell_of_row w g 1 _ t _ h, cell_of_row w g 2 _ t _ h, cell_of_row w g 3 _ t _ h, cell_of_row w g 4 _ t _ h, cell_of_row w g 5 _ t _ h, cell_of_row w g 6 _ t _ h, cell_of_row w g 7 _ t _ h, cell_of_row w g 8 _ t _ h, cell_of_row w g 9 _ t _ h, cell_of_row w g 10 _ t _ h, cell_of_row w g 11 _ t _ h, cell_of_row w g 12 _ t _ h, cell_of_row w g 13 _ t _ h, cell_of_row w g 14 _ t _ h, cell_of_row w g 15 _ t _ h, cell_of_row w g 16 _ t _ h, cell_of_row w g 17 _ t _ h, cell_of_row w g 18 _ t _ h, cell_of_row w g 19 _ t _ h⟩
def Evs (w : World) (A : Option Addr) (L : List Ev) : Prop :=
  L = [] ∨ ∃ b o, A = some ⟨b, o, none⟩ ∧ b < w.heap.size ∧ ∀ (j : Nat) (x : Ev), L[j]? = some x → EvAt w b (o + j * 20) x
theorem Evs.keep {w w' : World} {A : Option Addr} {L : List Ev} (h : Evs w A L) (hb : Below w.heap.size w w') : Evs w' A L := by
  rcases h with h | ⟨b, o, h1, h2, h3⟩
  · exact Or.inl h
  · exact Or.inr ⟨b, o, h1, Nat.lt_of_lt_of_le h2 hb.size, fun j x hx => (h3 j x hx).of fun i => hb.cell (p := ⟨b, i, none⟩) h2⟩

/-- what an event's call does, by chapter 6 -/
def evDo (S : Pz.Fil) (x : Ev) : Pz.Fil × Pz.Rep := Pz.doA S x.cl x.kind x.p.data.toList x.p2.data.toList x.flags x.fd x.off x.n x.data.data.toList
def Fits (S : Pz.Fil) (x : Ev) : Prop := 0 < x.told → x.asked ≤ x.done ∧ x.done ≤ x.told ∧ (evDo S x).2 = x.q
noncomputable def fitB (S : Pz.Fil) (x : Ev) : Bool := @decide (Fits S x) (Classical.propDecidable _)
theorem fitB_iff {S : Pz.Fil} {x : Ev} : fitB S x = true ↔ Fits S x := by
  unfold fitB
  exact @decide_eq_true_iff _ (Classical.propDecidable _)
/-- the file system behind events -/
def evRun (S : Pz.Fil) (L : List Ev) : Pz.Fil := L.foldl (fun S x => (evDo S x).1) S
noncomputable def evBad (S : Pz.Fil) : List Ev → Int → Int
  | [], b => b
  | x :: r, b => evBad (evDo S x).1 r (if fitB S x = false ∧ b = 0 then x.num else b)
theorem evBad_snoc {x : Ev} : ∀ {L : List Ev} {S : Pz.Fil} {b : Int}, evBad S (L ++ [x]) b = if fitB (evRun S L) x = false ∧ evBad S L b = 0 then x.num else evBad S L b
  | [], S, b => rfl
  | y :: r, S, b => by
    rw [List.cons_append, evBad, evBad, evBad_snoc]
    rfl
theorem evRun_snoc {S : Pz.Fil} {L : List Ev} {x : Ev} : evRun S (L ++ [x]) = (evDo (evRun S L) x).1 := by
  unfold evRun
  rw [List.foldl_append]
  rfl
theorem ev_take {α : Type} {L : List α} {k : Nat} {x : α} (h : L[k]? = some x) : L.take (k + 1) = L.take k ++ [x] := by
  rw [List.take_add_one, h]
  rfl
/-- what happened, in its order -/
def itemsFrom : Nat → List Ev → List It
  | _, [] => []
  | k, x :: r => if 0 < x.done then ⟨x.done, 0, k⟩ :: itemsFrom (k + 1) r else itemsFrom (k + 1) r
theorem items_snoc {x : Ev} : ∀ {L : List Ev} {k : Nat}, itemsFrom k (L ++ [x]) = itemsFrom k L ++ if 0 < x.done then [⟨x.done, 0, (k + L.length : Nat)⟩] else []
  | [], k => by
    rw [List.nil_append, itemsFrom, itemsFrom]
    split <;> rfl
  | y :: r, k => by
    rw [List.cons_append, itemsFrom, itemsFrom, items_snoc, List.length_cons, show k + 1 + r.length = k + (r.length + 1) by omega]
    by_cases h : 0 < y.done
    · rw [if_pos h, if_pos h, List.cons_append]
    · rw [if_neg h, if_neg h]
theorem items_len : ∀ {L : List Ev} {k : Nat}, (itemsFrom k L).length = (L.filter fun x => decide (0 < x.done)).length
  | [], k => rfl
  | y :: r, k => by
    rw [itemsFrom]
    by_cases h : 0 < y.done
    · rw [if_pos h, List.filter_cons_of_pos (by simpa using h), List.length_cons, List.length_cons, items_len]
    · rw [if_neg h, List.filter_cons_of_neg (by simpa using h), items_len]
theorem items_at : ∀ {L : List Ev} {k j : Nat} {y : It}, (itemsFrom k L)[j]? = some y → ∃ m x, (L.filter fun x => decide (0 < x.done))[j]? = some x ∧ L[m]? = some x ∧ y = ⟨x.done, 0, (k + m : Nat)⟩
  | [], k, j, y, h => by
    rw [itemsFrom] at h
    simp at h
  | z :: r, k, j, y, h => by
    rw [itemsFrom] at h
    by_cases hz : 0 < z.done
    · rw [if_pos hz] at h
      rw [List.filter_cons_of_pos (by simpa using hz)]
      cases j with
      | zero =>
        refine ⟨0, z, rfl, rfl, ?_⟩
        simp at h
        rw [← h]
        rfl
      | succ j =>
        rw [List.getElem?_cons_succ] at h
        obtain ⟨m, x, h1, h2, h3⟩ := items_at h
        refine ⟨m + 1, x, h1, h2, ?_⟩
        rw [h3, show k + 1 + m = k + (m + 1) by omega]
    · rw [if_neg hz] at h
      rw [List.filter_cons_of_neg (by simpa using hz)]
      obtain ⟨m, x, h1, h2, h3⟩ := items_at h
      refine ⟨m + 1, x, h1, h2, ?_⟩
      rw [h3, show k + 1 + m = k + (m + 1) by omega]
theorem items_rise : ∀ {L : List Ev} {k : Nat}, (L.filter fun x => decide (0 < x.done)).Pairwise (fun a b => a.done < b.done) → (itemsFrom k L).Pairwise fun a b => a.at_ < b.at_
  | [], k, _ => by
    rw [itemsFrom]
    exact List.Pairwise.nil
  | y :: r, k, h => by
    rw [itemsFrom]
    by_cases hy : 0 < y.done
    · rw [List.filter_cons_of_pos (by simpa using hy), List.pairwise_cons] at h
      rw [if_pos hy, List.pairwise_cons]
      refine ⟨fun z hz => ?_, items_rise h.2⟩
      obtain ⟨j, hj⟩ := List.getElem?_of_mem hz
      obtain ⟨m, x, h1, h2, h3⟩ := items_at hj
      rw [h3]
      exact h.1 x (List.mem_of_getElem? h1)
    · rw [List.filter_cons_of_neg (by simpa using hy)] at h
      rw [if_neg hy]
      exact items_rise h

/-- rows of k cells each -/
def flat (f : Ev → Array Value) (L : List Ev) : List Value := L.flatMap fun x => (f x).toList
theorem flat_len (L : List Ev) : (flat evC L).length = L.length * 20 := by
  unfold flat
  induction L with
  | nil => rfl
  | cons x r ih =>
    rw [List.flatMap_cons, List.length_append, ih, List.length_cons]
    show 20 + _ = _
    omega
theorem flat_get : ∀ {L : List Ev} {k : Nat} {x : Ev} (i : Nat), L[k]? = some x → i < 20 → (flat evC L)[k * 20 + i]? = (evC x)[i]?
  | [], k, x, i, hx, _ => by simp at hx
  | a :: r, 0, x, i, hx, hi => by
    simp at hx
    subst hx
    unfold flat
    rw [List.flatMap_cons, List.getElem?_append_left (by show 0 * 20 + i < 20; omega), Nat.zero_mul, Nat.zero_add, Array.getElem?_toList]
  | a :: r, k + 1, x, i, hx, hi => by
    unfold flat
    rw [List.flatMap_cons, List.getElem?_append_right (by show 20 ≤ _; omega)]
    have := flat_get (L := r) (k := k) (x := x) i (by simpa using hx) hi
    unfold flat at this
    rw [← this]
    congr 1
    show (k + 1) * 20 + i - 20 = _
    omega
theorem flat_snoc (L : List Ev) (x : Ev) : flat evC L ++ (evC x).toList = flat evC (L ++ [x]) := by
  unfold flat
  rw [List.flatMap_append]
  simp
theorem evs_of_row {w : World} {B e : Nat} {v : Value} {L : List Ev} (h : w.ownsRow B e 20 v L.length (flat evC L)) : ∃ A c, v = .slice A L.length c ∧ Evs w A L := by
  have hr := h
  rcases h.2 with ⟨rfl, h0⟩ | ⟨b, cap, cur, rfl, hb, hg, hc, _, _, _⟩
  · exact ⟨none, 0, by rw [h0], Or.inl (List.eq_nil_of_length_eq_zero h0)⟩
  · refine ⟨_, cap, rfl, Or.inr ⟨b, 0, rfl, (Array.getElem?_eq_some_iff.1 hg).1, fun j x hx => ?_⟩⟩
    have hj := (List.getElem?_eq_some_iff.1 hx).1
    have g : ∀ i u, i < 20 → (evC x)[i]? = some u → w.cell? ⟨b, 0 + j * 20 + i, none⟩ = some u := fun i u hi hu => by
      rw [Nat.zero_add]
      exact (hr.cellAt _ (by omega)).trans ((flat_get i hx hi).trans hu)
    exact ⟨g 0 _ (by omega) rfl, g 1 _ (by omega) rfl, g 2 _ (by omega) rfl, g 3 _ (by omega) rfl, g 4 _ (by omega) rfl, g 5 _ (by omega) rfl, g 6 _ (by omega) rfl, g 7 _ (by omega) rfl, g 8 _ (by omega) rfl, g 9 _ (by omega) rfl, g 10 _ (by omega) rfl, g 11 _ (by omega) rfl, g 12 _ (by omega) rfl, g 13 _ (by omega) rfl, g 14 _ (by omega) rfl, g 15 _ (by omega) rfl, g 16 _ (by omega) rfl, g 17 _ (by omega) rfl, g 18 _ (by omega) rfl, g 19 _ (by omega) rfl⟩

end Go.Proofs.YtbpejjmfdhkfhaaGreatDoor
