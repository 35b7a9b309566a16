/- Events: plain, and in rows of memory. What the program's audit tells of them. -/
import Derived.Test.YtbpejjmfdhkfhaaGreatDoorPosFacts
import Derived.Test.YtbpejjmfdhkfhaaGreatDoorAudSort
import Derived.Deep.MidRow
import Derived.Test.YtbpejjmfdhkfhaaGreatDoorPosBoth
set_option linter.unusedVariables false
set_option linter.unusedSimpArgs false
namespace Go.Proofs.YtbpejjmfdhkfhaaGreatDoor
open Go.RowKit

/-- an event: what was asked, when it was asked, done and told, and its answer, whose names lie at A -/
structure Ev where
  cl : Int
  num : Int
  kind : Int
  p : ByteArray
  p2 : ByteArray
  flags : Int
  fd : Int
  off : Int
  n : Int
  data : ByteArray
  asked : Int
  done : Int
  told : Int
  q : Pz.Rep
  A : Option Addr
  c : Nat
def evC (x : Ev) : Array Value := #[.int .i64 x.cl, .int .i64 x.num, .int .i64 x.kind, .string x.p, .string x.p2, .int .i64 x.flags, .int .i64 x.fd, .int .i64 x.off, .int .i64 x.n, .string x.data, .int .i64 x.asked, .int .i64 x.done, .int .i64 x.told, .int .i64 x.q.errno, .int .i64 x.q.fd, .string ⟨x.q.data.toArray⟩, .slice x.A x.q.names.length x.c, .int .i64 x.q.kind, .int .i64 x.q.links, .int .i64 x.q.size]
def evV (x : Ev) : Value := .agg (evC x)
/-- an event's cells stand at a place -/
def EvAt (w : World) (b o : Nat) (x : Ev) : Prop :=
  w.cell? ⟨b, o, none⟩ = some (.int .i64 x.cl) ∧ w.cell? ⟨b, o + 1, none⟩ = some (.int .i64 x.num) ∧ w.cell? ⟨b, o + 2, none⟩ = some (.int .i64 x.kind) ∧ w.cell? ⟨b, o + 3, none⟩ = some (.string x.p) ∧ w.cell? ⟨b, o + 4, none⟩ = some (.string x.p2) ∧ w.cell? ⟨b, o + 5, none⟩ = some (.int .i64 x.flags) ∧ w.cell? ⟨b, o + 6, none⟩ = some (.int .i64 x.fd) ∧ w.cell? ⟨b, o + 7, none⟩ = some (.int .i64 x.off) ∧ w.cell? ⟨b, o + 8, none⟩ = some (.int .i64 x.n) ∧ w.cell? ⟨b, o + 9, none⟩ = some (.string x.data) ∧ w.cell? ⟨b, o + 10, none⟩ = some (.int .i64 x.asked) ∧ w.cell? ⟨b, o + 11, none⟩ = some (.int .i64 x.done) ∧ w.cell? ⟨b, o + 12, none⟩ = some (.int .i64 x.told) ∧ w.cell? ⟨b, o + 13, none⟩ = some (.int .i64 x.q.errno) ∧ w.cell? ⟨b, o + 14, none⟩ = some (.int .i64 x.q.fd) ∧ w.cell? ⟨b, o + 15, none⟩ = some (.string ⟨x.q.data.toArray⟩) ∧ w.cell? ⟨b, o + 16, none⟩ = some (.slice x.A x.q.names.length x.c) ∧ w.cell? ⟨b, o + 17, none⟩ = some (.int .i64 x.q.kind) ∧ w.cell? ⟨b, o + 18, none⟩ = some (.int .i64 x.q.links) ∧ w.cell? ⟨b, o + 19, none⟩ = some (.int .i64 x.q.size)
theorem EvAt.of {w w' : World} {b o : Nat} {x : Ev} (h : EvAt w b o x) (e : ∀ i, w'.cell? ⟨b, i, none⟩ = w.cell? ⟨b, i, none⟩) : EvAt w' b o x := by
  unfold EvAt at h ⊢
  simp only [e]
  exact h
theorem evAt_row {w : World} {g t : Nat} {x : Ev} (h : w.heap[g]? = some (.cells (evC x) t (0, 0))) : EvAt w g 0 x := by
  unfold EvAt
  simp only [Nat.zero_add]
  exact ⟨cell_of_row w g 0 _ t _ h, cell_of_row w g 1 _ t _ h, cell_of_row w g 2 _ t _ h, cell_of_row w g 3 _ t _ h, cell_of_row w g 4 _ t _ h, cell_of_row w g 5 _ t _ h, cell_of_row w g 6 _ t _ h, cell_of_row w g 7 _ t _ h, cell_of_row w g 8 _ t _ h, cell_of_row w g 9 _ t _ h, cell_of_row w g 10 _ t _ h, cell_of_row w g 11 _ t _ h, cell_of_row w g 12 _ t _ h, cell_of_row w g 13 _ t _ h, cell_of_row w g 14 _ t _ h, cell_of_row w g 15 _ t _ h, cell_of_row w g 16 _ t _ h, cell_of_row w g 17 _ t _ h, cell_of_row w g 18 _ t _ h, cell_of_row w g 19 _ t _ h⟩
def Evs (w : World) (A : Option Addr) (L : List Ev) : Prop :=
  L = [] ∨ ∃ b o, A = some ⟨b, o, none⟩ ∧ b < w.heap.size ∧ ∀ (j : Nat) (x : Ev), L[j]? = some x → EvAt w b (o + j * 20) x
theorem Evs.keep {w w' : World} {A : Option Addr} {L : List Ev} (h : Evs w A L) (hb : Below w.heap.size w w') : Evs w' A L := by
  rcases h with h | ⟨b, o, h1, h2, h3⟩
  · exact Or.inl h
  · exact Or.inr ⟨b, o, h1, Nat.lt_of_lt_of_le h2 hb.size, fun j x hx => (h3 j x hx).of fun i => hb.cell (p := ⟨b, i, none⟩) h2⟩

/-- what an event's call does, by chapter 6 -/
def evDo (S : Pz.Fil) (x : Ev) : Pz.Fil × Pz.Rep := Pz.doA S x.cl x.kind x.p.data.toList x.p2.data.toList x.flags x.fd x.off x.n x.data.data.toList
def Fits (S : Pz.Fil) (x : Ev) : Prop := 0 < x.told → x.asked ≤ x.done ∧ x.done ≤ x.told ∧ (evDo S x).2 = x.q
noncomputable def fitB (S : Pz.Fil) (x : Ev) : Bool := @decide (Fits S x) (Classical.propDecidable _)
theorem fitB_iff {S : Pz.Fil} {x : Ev} : fitB S x = true ↔ Fits S x := by
  unfold fitB
  exact @decide_eq_true_iff _ (Classical.propDecidable _)
/-- the file system behind events -/
def evRun (S : Pz.Fil) (L : List Ev) : Pz.Fil := L.foldl (fun S x => (evDo S x).1) S
noncomputable def evBad (S : Pz.Fil) : List Ev → Int → Int
  | [], b => b
  | x :: r, b => evBad (evDo S x).1 r (if fitB S x = false ∧ b = 0 then x.num else b)
theorem evBad_snoc {x : Ev} : ∀ {L : List Ev} {S : Pz.Fil} {b : Int}, evBad S (L ++ [x]) b = if fitB (evRun S L) x = false ∧ evBad S L b = 0 then x.num else evBad S L b
  | [], S, b => rfl
  | y :: r, S, b => by
    rw [List.cons_append, evBad, evBad, evBad_snoc]
    rfl
theorem evRun_snoc {S : Pz.Fil} {L : List Ev} {x : Ev} : evRun S (L ++ [x]) = (evDo (evRun S L) x).1 := by
  unfold evRun
  rw [List.foldl_append]
  rfl
theorem ev_take {α : Type} {L : List α} {k : Nat} {x : α} (h : L[k]? = some x) : L.take (k + 1) = L.take k ++ [x] := by
  rw [List.take_add_one, h]
  rfl
/-- what happened, in its order -/
def itemsFrom : Nat → List Ev → List It
  | _, [] => []
  | k, x :: r => if 0 < x.done then ⟨x.done, 0, k⟩ :: itemsFrom (k + 1) r else itemsFrom (k + 1) r
theorem items_snoc {x : Ev} : ∀ {L : List Ev} {k : Nat}, itemsFrom k (L ++ [x]) = itemsFrom k L ++ if 0 < x.done then [⟨x.done, 0, (k + L.length : Nat)⟩] else []
  | [], k => by
    rw [List.nil_append, itemsFrom, itemsFrom]
    split <;> rfl
  | y :: r, k => by
    rw [List.cons_append, itemsFrom, itemsFrom, items_snoc, List.length_cons, show k + 1 + r.length = k + (r.length + 1) by omega]
    by_cases h : 0 < y.done
    · rw [if_pos h, if_pos h, List.cons_append]
    · rw [if_neg h, if_neg h]
theorem items_len : ∀ {L : List Ev} {k : Nat}, (itemsFrom k L).length = (L.filter fun x => decide (0 < x.done)).length
  | [], k => rfl
  | y :: r, k => by
    rw [itemsFrom]
    by_cases h : 0 < y.done
    · rw [if_pos h, List.filter_cons_of_pos (by simpa using h), List.length_cons, List.length_cons, items_len]
    · rw [if_neg h, List.filter_cons_of_neg (by simpa using h), items_len]
theorem items_at : ∀ {L : List Ev} {k j : Nat} {y : It}, (itemsFrom k L)[j]? = some y → ∃ m x, (L.filter fun x => decide (0 < x.done))[j]? = some x ∧ L[m]? = some x ∧ y = ⟨x.done, 0, (k + m : Nat)⟩
  | [], k, j, y, h => by
    rw [itemsFrom] at h
    simp at h
  | z :: r, k, j, y, h => by
    rw [itemsFrom] at h
    by_cases hz : 0 < z.done
    · rw [if_pos hz] at h
      rw [List.filter_cons_of_pos (by simpa using hz)]
      cases j with
      | zero =>
        refine ⟨0, z, rfl, rfl, ?_⟩
        simp at h
        rw [← h]
        rfl
      | succ j =>
        rw [List.getElem?_cons_succ] at h
        obtain ⟨m, x, h1, h2, h3⟩ := items_at h
        refine ⟨m + 1, x, h1, h2, ?_⟩
        rw [h3, show k + 1 + m = k + (m + 1) by omega]
    · rw [if_neg hz] at h
      rw [List.filter_cons_of_neg (by simpa using hz)]
      obtain ⟨m, x, h1, h2, h3⟩ := items_at h
      refine ⟨m + 1, x, h1, h2, ?_⟩
      rw [h3, show k + 1 + m = k + (m + 1) by omega]
theorem items_rise : ∀ {L : List Ev} {k : Nat}, (L.filter fun x => decide (0 < x.done)).Pairwise (fun a b => a.done < b.done) → (itemsFrom k L).Pairwise fun a b => a.at_ < b.at_
  | [], k, _ => by
    rw [itemsFrom]
    exact List.Pairwise.nil
  | y :: r, k, h => by
    rw [itemsFrom]
    by_cases hy : 0 < y.done
    · rw [List.filter_cons_of_pos (by simpa using hy), List.pairwise_cons] at h
      rw [if_pos hy, List.pairwise_cons]
      refine ⟨fun z hz => ?_, items_rise h.2⟩
      obtain ⟨j, hj⟩ := List.getElem?_of_mem hz
      obtain ⟨m, x, h1, h2, h3⟩ := items_at hj
      rw [h3]
      exact h.1 x (List.mem_of_getElem? h1)
    · rw [List.filter_cons_of_neg (by simpa using hy)] at h
      rw [if_neg hy]
      exact items_rise h

/-- rows of k cells each -/
def flat (f : Ev → Array Value) (L : List Ev) : List Value := L.flatMap fun x => (f x).toList
theorem flat_len (L : List Ev) : (flat evC L).length = L.length * 20 := by
  unfold flat
  induction L with
  | nil => rfl
  | cons x r ih =>
    rw [List.flatMap_cons, List.length_append, ih, List.length_cons]
    show 20 + _ = _
    omega
theorem flat_get : ∀ {L : List Ev} {k : Nat} {x : Ev} (i : Nat), L[k]? = some x → i < 20 → (flat evC L)[k * 20 + i]? = (evC x)[i]?
  | [], k, x, i, hx, _ => by simp at hx
  | a :: r, 0, x, i, hx, hi => by
    simp at hx
    subst hx
    unfold flat
    rw [List.flatMap_cons, List.getElem?_append_left (by show 0 * 20 + i < 20; omega), Nat.zero_mul, Nat.zero_add, Array.getElem?_toList]
  | a :: r, k + 1, x, i, hx, hi => by
    unfold flat
    rw [List.flatMap_cons, List.getElem?_append_right (by show 20 ≤ _; omega)]
    have := flat_get (L := r) (k := k) (x := x) i (by simpa using hx) hi
    unfold flat at this
    rw [← this]
    congr 1
    show (k + 1) * 20 + i - 20 = _
    omega
theorem flat_snoc (L : List Ev) (x : Ev) : flat evC L ++ (evC x).toList = flat evC (L ++ [x]) := by
  unfold flat
  rw [List.flatMap_append]
  simp
theorem evs_of_row {w : World} {B e : Nat} {v : Value} {L : List Ev} (h : w.ownsRow B e 20 v L.length (flat evC L)) : ∃ A c, v = .slice A L.length c ∧ Evs w A L := by
  have hr := h
  rcases h.2 with ⟨rfl, h0⟩ | ⟨b, cap, cur, rfl, hb, hg, hc, _, _, _⟩
  · exact ⟨none, 0, by rw [h0], Or.inl (List.eq_nil_of_length_eq_zero h0)⟩
  · refine ⟨_, cap, rfl, Or.inr ⟨b, 0, rfl, (Array.getElem?_eq_some_iff.1 hg).1, fun j x hx => ?_⟩⟩
    have hj := (List.getElem?_eq_some_iff.1 hx).1
    have g : ∀ i u, i < 20 → (evC x)[i]? = some u → w.cell? ⟨b, 0 + j * 20 + i, none⟩ = some u := fun i u hi hu => by
      rw [Nat.zero_add]
      exact (hr.cellAt _ (by omega)).trans ((flat_get i hx hi).trans hu)
    exact ⟨g 0 _ (by omega) rfl, g 1 _ (by omega) rfl, g 2 _ (by omega) rfl, g 3 _ (by omega) rfl, g 4 _ (by omega) rfl, g 5 _ (by omega) rfl, g 6 _ (by omega) rfl, g 7 _ (by omega) rfl, g 8 _ (by omega) rfl, g 9 _ (by omega) rfl, g 10 _ (by omega) rfl, g 11 _ (by omega) rfl, g 12 _ (by omega) rfl, g 13 _ (by omega) rfl, g 14 _ (by omega) rfl, g 15 _ (by omega) rfl, g 16 _ (by omega) rfl, g 17 _ (by omega) rfl, g 18 _ (by omega) rfl, g 19 _ (by omega) rfl⟩

end Go.Proofs.YtbpejjmfdhkfhaaGreatDoor

/- Great structs: a new variable is stored whole; an event is loaded. -/
namespace Go.Proofs.YtbpejjmfdhkfhaaGreatDoor
open Go.RowKit

/-- so many cells of a row, from a place on -/
def putCells : Array Value → Nat → List Value → Array Value
  | C, _, [] => C
  | C, o, v :: r => putCells (C.setIfInBounds o v) (o + 1) r
theorem setCells_heap (b : Nat) (t : TypeId) : ∀ (vs : List Value) (o : Nat) (w : World) (C : Array Value), w.heap[b]? = some (.cells C t (0, 0)) → (w.setCells b o vs).heap[b]? = some (.cells (putCells C o vs) t (0, 0))
  | [], _, _, _, h => h
  | v :: r, o, w, C, h => by
    rw [World.setCells, putCells]
    exact setCells_heap b t r (o + 1) _ _ (Go.heap_setCell_same w b o C t v h)
theorem setCells_below {B b : Nat} (hb : B ≤ b) : ∀ (vs : List Value) (o : Nat) (a w : World), Below B a w → Below B a (w.setCells b o vs)
  | [], _, _, _, h => h
  | v :: r, o, a, w, h => by
    rw [World.setCells]
    exact setCells_below hb r (o + 1) a _ (h.setCell hb v)
theorem putCells_toList : ∀ (vs : List Value) (o : Nat) (C : Array Value), o + vs.length ≤ C.size → (putCells C o vs).toList = C.toList.take o ++ vs ++ C.toList.drop (o + vs.length)
  | [], o, C, _ => by
    rw [putCells, List.append_nil]
    exact (List.take_append_drop o C.toList).symm
  | v :: r, o, C, h => by
    rw [List.length_cons] at h
    have hl : o < C.toList.length := by simp; omega
    rw [putCells, putCells_toList r (o + 1) _ (by rw [Array.size_setIfInBounds]; omega), Array.toList_setIfInBounds, List.length_cons]
    rw [List.drop_set_of_lt (by omega), show o + 1 + r.length = o + (r.length + 1) by omega, List.take_set, List.take_add_one, List.getElem?_eq_getElem hl]
    rw [List.set_append_right _ _ (by rw [List.length_take]; omega)]
    rw [List.length_take, Nat.min_eq_left (Nat.le_of_lt hl), Nat.sub_self]
    simp
theorem putCells_all {C : Array Value} {vs : List Value} (h : C.size = vs.length) : putCells C 0 vs = vs.toArray := by
  have := putCells_toList vs 0 C (by omega)
  rw [List.take_zero, List.nil_append, Nat.zero_add, List.drop_eq_nil_of_le (by simp; omega), List.append_nil] at this
  rw [← Array.toList_inj, this]
theorem there_new (w : World) (Z : Array Value) (t : TypeId) (n : Nat) (h : Z.size = n) : (w.alloc (.cells Z t)).there w.heap.size 0 n := fun j hj => by
  have hg := heap_alloc_new w (.cells Z t)
  rw [Nat.zero_add]
  refine ⟨?_, frozen_of_row _ _ _ _ t hg⟩
  have : Z[j]? = some Z[j] := Array.getElem?_eq_getElem (by omega)
  rw [cell_of_row _ _ j Z t _ hg, this]
  rfl
/-- a new variable, stored whole -/
theorem new_whole (w : World) (Z : Array Value) (t : TypeId) (vs : List Value) (h : Z.size = vs.length) :
    Below w.heap.size w ((w.alloc (.cells Z t)).setCells w.heap.size 0 vs) ∧ ((w.alloc (.cells Z t)).setCells w.heap.size 0 vs).heap[w.heap.size]? = some (.cells vs.toArray t (0, 0)) := by
  refine ⟨setCells_below (Nat.le_refl _) vs 0 w _ ((Below.refl _ w).alloc (Nat.le_refl _) _), ?_⟩
  rw [setCells_heap _ t vs 0 _ Z (heap_alloc_new w _), putCells_all h]

theorem Tryz.sizeEv : (Tryz.prog.info? 53).map (fun i => i.size) = some 20 := by kernel_rfl
theorem EvAt.range {w : World} {b o : Nat} {x : Ev} (h : EvAt w b o x) : w.rangeAt b o (evC x).toList := by
  obtain ⟨c0, c1, c2, c3, c4, c5, c6, c7, c8, c9, c10, c11, c12, c13, c14, c15, c16, c17, c18, c19⟩ := h
  intro j v hj
  match j, hj with
  | 0, hj => cases hj; exact c0
  | 1, hj => cases hj; exact c1
  | 2, hj => cases hj; exact c2
  | 3, hj => cases hj; exact c3
  | 4, hj => cases hj; exact c4
  | 5, hj => cases hj; exact c5
  | 6, hj => cases hj; exact c6
  | 7, hj => cases hj; exact c7
  | 8, hj => cases hj; exact c8
  | 9, hj => cases hj; exact c9
  | 10, hj => cases hj; exact c10
  | 11, hj => cases hj; exact c11
  | 12, hj => cases hj; exact c12
  | 13, hj => cases hj; exact c13
  | 14, hj => cases hj; exact c14
  | 15, hj => cases hj; exact c15
  | 16, hj => cases hj; exact c16
  | 17, hj => cases hj; exact c17
  | 18, hj => cases hj; exact c18
  | 19, hj => cases hj; exact c19
  | n + 20, hj => simp [evC] at hj
theorem evC_one (x : Ev) : ((evC x).toList.toArray).all (·.oneCell') = true := by
  simp [evC, Value.oneCell']

end Go.Proofs.YtbpejjmfdhkfhaaGreatDoor

/- Walks: the audit's order, of events that stand in their order already. -/
namespace Go.Proofs.YtbpejjmfdhkfhaaGreatDoor
open Go.RowKit

theorem Tryz.infoIt : (Tryz.prog.info? 92).map (fun i => (i.zero, i.size, i.bytes)) = some (some (.agg #[.int .i64 0, .int .i64 0, .int .i64 0]), 3, 24) := by kernel_rfl
def cI (L : List It) : List Value := Pz.three (fun x => .int .i64 x.at_) (fun x => .int .i64 x.cl) (fun x => .int .i64 x.ev) L
theorem its_of_row {w : World} {B e : Nat} {v : Value} {L : List It} (h : w.ownsRow B e 3 v L.length (cI L)) : ∃ A c, v = .slice A L.length c ∧ Its w A L := by
  have h0 := h
  obtain ⟨A, c, hv, _, hrow⟩ := row3 h
  refine ⟨A, c, hv, ?_⟩
  cases L with
  | nil => exact Or.inl rfl
  | cons y r =>
    obtain ⟨b, hA, _, hb, _⟩ := hrow 0 y rfl
    refine Or.inr ⟨b, 0, hA, hb, fun j x hx => ?_⟩
    obtain ⟨b', hA', _, _, h1, h2, h3, _⟩ := hrow j x hx
    rw [hA] at hA'
    cases hA'
    rw [Nat.zero_add]
    exact ⟨h1, h2, h3⟩

set_option maxHeartbeats 4000000 in
set_option maxRecDepth 100000 in
theorem order_any (A : Option Addr) (L : List Ev) (c : Nat) (w : World) (hlen : L.length ≤ 30) (hE : Evs w A L) (hs : (L.filter fun x => decide (0 < x.done)).Pairwise fun a b => a.done < b.done) :
    Calls Tryz.prog 49 #[.slice A L.length c, .slice none 0 0] w fun e w' => ∃ A' c', e = .returned (.slice A' (itemsFrom 0 L).length c') ∧ Its w' A' (itemsFrom 0 L) ∧ (∀ ad, A' = some ad → w.heap.size ≤ ad.block) ∧ Below w.heap.size w w' := by
  obtain ⟨i0, hi, hz0, hz1, hz2⟩ := info_parts Tryz.infoIt
  have HE := Lib.hid hE
  have HS := Lib.hid (items_rise (k := 0) hs)
  obtain ⟨n, hn⟩ : ∃ n, n = L.length := ⟨_, rfl⟩
  rw [← hn]
  rw [← hn] at hlen
  have Hn := Lib.hid hn
  clear hE hs hn
  go_enter Tryz.func49, Tryz.ntmps49
  go_wp2
  refine wp_loop_rounds 1 ?_
  rw [rounds_succ]
  go_wp2
  go_loopw [5, 37] (fun u v wr => ∃ (k : Nat) (T : List It), k ≤ n ∧ T.length ≤ k ∧ v = .int .i64 k ∧ wr.ownsRow w.heap.size 92 3 u T.length (cI T) ∧ Hid (T = itemsFrom 0 (L.take k)) ∧ Below w.heap.size w wr) (fun _ v _ => n - (intOf v).toNat)
  case atStart => exact ⟨0, [], by omega, by simp, rfl, World.ownsRow_nil _ _ _ _, by show [] = itemsFrom 0 (L.take 0); rfl, Below.refl _ _⟩
  case round =>
    obtain ⟨k, T, hk, hT, rfl, hown, hok, hbw⟩ := hrel
    obtain ⟨A', c', hv, hc', _⟩ := row3 hown
    rw [hv] at hown
    rw [hv]
    by_cases hkn : k < n
    · obtain ⟨x, hx⟩ : ∃ x, L[k]? = some x := ⟨_, List.getElem?_eq_getElem (by have := Hn.out; omega)⟩
      rcases HE.out with h | ⟨b, o, rfl, hb, hcells⟩
      · rw [h] at hx; simp at hx
      have hrg := ((hcells k x hx).of fun i => hbw.cell (p := ⟨b, i, none⟩) hb).range
      have hsn := items_snoc (x := x) (L := L.take k) (k := 0)
      rw [← ev_take hx, ← hok.out, List.length_take, Nat.zero_add, Nat.min_eq_left (by have := Hn.out; omega)] at hsn
      have Hsn := Lib.hid hsn
      have HAft : Hid (∀ we, Below wr.heap.size wr we ∧ we.heap[wr.heap.size]? = some (.cells (evC x) 53 (0, 0)) → we.cell? ⟨wr.heap.size, 11, none⟩ = some (.int .i64 x.done) ∧ we.ownsRow w.heap.size 92 3 (.slice A' T.length c') T.length (cI T) ∧ Below w.heap.size w we) := Lib.hid fun we h => ⟨(evAt_row h.2).2.2.2.2.2.2.2.2.2.2.2.1, hown.kept (grown_of h.1) (by cases hv : (Value.slice A' T.length c').ownBlock <;> simp), hbw.trans (h.1.mono hbw.size)⟩
      have hkk : (k : Int) < n := by omega
      have hk0 : (0 : Int) ≤ k := by omega
      clear hcells hx hsn hown
      by_cases hd : 0 < x.done
      · have Hd := Lib.hid hd
        have hsn2 : Hid (cI T ++ [.int .i64 x.done, .int .i64 0, .int .i64 k] = cI (T ++ [⟨x.done, 0, k⟩])) := Lib.hid (by
          unfold cI
          rw [Pz.three_snoc])
        go_wp2_with (first | (refine wpList_load_mid rfl 53 _ rfl b (o + k * 20) rfl (evC x).toList _ hrg Tryz.underlying53 rfl Tryz.sizeEv ?_) | (refine wpList_store_mid rfl 53 _ _ rfl wr.heap.size 0 (evC x).toList.toArray rfl rfl (there_new _ _ _ _ rfl) Tryz.sizeEv (evC_one x) ?_; generalize hwe : (World.setCells _ _ _ _) = we; obtain ⟨hd11, howe, hbwe⟩ := HAft.out we (by rw [← hwe]; exact new_whole wr _ _ _ rfl); clear hwe) | (at_builtin; refine wpList_append_own _ rfl _ _ 89 rfl w.heap.size 92 i0 _ 3 24 Tryz.underlying89 hi hz0 hz1 hz2 rfl (by decide) (.slice A' T.length c') T.length (cI T) rfl (howe.alloc _) ⟨we.heap.size, 0, none⟩ 1 1 [.int .i64 x.done, .int .i64 0, .int .i64 k] rfl rfl (cells_new3 _ _ _ _ _) (by intro u hu; simp at hu; rcases hu with rfl | rfl | rfl <;> rfl) (by unfold maxLen; omega) (by omega) (by have := hbwe.size; simp; omega) ?_; intro v' w1 hown' hgrow _))
        rw [hsn2.out, show T.length + 1 = (T ++ [(⟨x.done, 0, k⟩ : It)]).length by simp] at hown'
        have hB1 : Below w.heap.size w w1 := (hbwe.alloc hbwe.size _).grown hgrow (by have := hbwe.size; simp; omega) (fun q hq => (howe.lt q hq).1)
        obtain ⟨A2, c2, hv', _, _⟩ := row3 hown'
        rw [hv'] at hown'
        rw [hv']
        have HO := Lib.hid hown'
        have HT2 : Hid (T ++ [(⟨x.done, 0, k⟩ : It)] = itemsFrom 0 (L.take (k + 1))) := Lib.hid (by rw [Hsn.out, if_pos Hd.out])
        clear hown' howe hv' hv
        go_wp2
        go_roundw
        case rel => exact ⟨k + 1, T ++ [⟨x.done, 0, k⟩], by omega, by simp; omega, by go_num, HO.out, HT2, hB1⟩
        case measure => simp [intOf]; omega
      · have hd' : x.done ≤ (0 : Int) := by omega
        have HT2 : Hid (T = itemsFrom 0 (L.take (k + 1))) := Lib.hid (by rw [Hsn.out, if_neg hd, List.append_nil])
        clear hd hv
        go_wp2_with (first | (refine wpList_load_mid rfl 53 _ rfl b (o + k * 20) rfl (evC x).toList _ hrg Tryz.underlying53 rfl Tryz.sizeEv ?_) | (refine wpList_store_mid rfl 53 _ _ rfl wr.heap.size 0 (evC x).toList.toArray rfl rfl (there_new _ _ _ _ rfl) Tryz.sizeEv (evC_one x) ?_; generalize hwe : (World.setCells _ _ _ _) = we; obtain ⟨hd11, howe, hbwe⟩ := HAft.out we (by rw [← hwe]; exact new_whole wr _ _ _ rfl); clear hwe))
        go_roundw
        case rel => exact ⟨k + 1, T, by omega, by omega, by go_num, howe, HT2, hbwe⟩
        case measure => simp [intOf]; omega
    · have hk2 : (n : Int) ≤ k := by omega
      have hTE : T = itemsFrom 0 L := by rw [hok.out, List.take_of_length_le (by have := Hn.out; omega)]
      obtain ⟨A2, c2, hv2, hit⟩ := its_of_row hown
      simp only [Value.slice.injEq] at hv2
      obtain ⟨rfl, -, rfl⟩ := hv2
      have HIt := Lib.hid hit
      have HLo : Hid (∀ ad, A' = some ad → w.heap.size ≤ ad.block) := Lib.hid fun ad h => (hown.lt ad.block (by rw [h]; rfl)).1
      have HSo := Lib.hid (sort_any A' T c' (by rw [hTE]; exact HS.out) (by omega) wr hit)
      have HTE := Lib.hid hTE
      clear hit hTE hown hv hkn
      go_wp2_with fail
      refine HSo.out.mono ?_
      rintro e w2 ⟨rfl, hb2⟩
      go_wp2
      go_ret
      rw [← HTE.out]
      exact ⟨A', c', rfl, HIt.out.keep hb2, HLo.out, hbw.trans (hb2.mono hbw.size)⟩

end Go.Proofs.YtbpejjmfdhkfhaaGreatDoor

/- Walks: the document's SameReply and the audit's same, at any two answers. -/
namespace Go.Proofs.YtbpejjmfdhkfhaaGreatDoor
open Go.RowKit

/-- texts stand at a place, whoever owns them -/
def Nmz (w : World) (A : Option Addr) (L : List (List UInt8)) : Prop :=
  L = [] ∨ ∃ b o, A = some ⟨b, o, none⟩ ∧ b < w.heap.size ∧ ∀ j x, L[j]? = some x → w.cell? ⟨b, o + j, none⟩ = some (.string ⟨x.toArray⟩)
theorem Nmz.keep {w w' : World} {A : Option Addr} {L : List (List UInt8)} (h : Nmz w A L) (hb : Below w.heap.size w w') : Nmz w' A L := by
  rcases h with h | ⟨b, o, h1, h2, h3⟩
  · exact Or.inl h
  · exact Or.inr ⟨b, o, h1, Nat.lt_of_lt_of_le h2 hb.size, fun j x hx => (hb.cell (p := ⟨b, o + j, none⟩) h2).trans (h3 j x hx)⟩
theorem Strs.nmz {w : World} {B : Nat} {A : Option Addr} {L : List (List UInt8)} (h : Strs w B A L) : Nmz w A L := by
  rcases h with h | ⟨b, o, h1, _, h2, h3, _⟩
  · exact Or.inl h
  · exact Or.inr ⟨b, o, h1, h2, h3⟩
/-- an answer of one truth -/
def Told (w : World) (p : Prop) (e : Ending) (w' : World) : Prop := ∃ b : Bool, e = .returned (.bool b) ∧ (b = true ↔ p) ∧ Below w.heap.size w w'
theorem ret_boolN {b c : Bool} (h : b = c) : (Ending.returned (.bool b)) = .returned (.bool c) := by rw [h]

set_option maxHeartbeats 2000000 in
theorem sameN_any (A A' : Option Addr) (L M : List (List UInt8)) (c c' : Nat) (w : World) (hL : L.length ≤ 9223372036854775807) (hM : M.length ≤ 9223372036854775807) (hS : Nmz w A L) (hS' : Nmz w A' M) :
    Calls Tryz.prog 47 #[.slice A L.length c, .slice A' M.length c'] w fun e w' => e = .returned (.bool (decide (L = M))) ∧ Below w.heap.size w w' := by
  have HS := Lib.hid hS; clear hS
  have HS' := Lib.hid hS'; clear hS'
  by_cases hne : L.length = M.length
  · obtain ⟨n, hn⟩ : ∃ n, n = L.length := ⟨_, rfl⟩
    rw [← hne, ← hn]
    have Hn := Lib.hid hn
    have Hm := Lib.hid (hn.trans hne)
    have hn1 : n ≤ 9223372036854775807 := by omega
    clear hn hne hL hM
    obtain ⟨r, hr⟩ : ∃ r, r = decide (L = M) := ⟨_, rfl⟩
    rw [← hr]
    have Hr := Lib.hid hr; clear hr
    go_enter Tryz.func47, Tryz.ntmps47
    go_wp2
    go_loopw [5] (fun i wr => ∃ k : Nat, k ≤ n ∧ i = .int .i64 k ∧ Hid (L.take k = M.take k) ∧ Below w.heap.size w wr) (fun i _ => n - (intOf i).toNat)
    case atStart => exact ⟨0, by omega, rfl, by show L.take 0 = M.take 0; simp, Below.refl _ _⟩
    case round =>
      obtain ⟨k, hk, rfl, hok, hbw⟩ := hrel
      by_cases hlt : k < n
      · have hkL : k < L.length := by have := Hn.out; omega
        have hkM : k < M.length := by have := Hm.out; omega
        obtain ⟨x, hx⟩ : ∃ x, L[k]? = some x := ⟨_, List.getElem?_eq_getElem hkL⟩
        obtain ⟨y, hy⟩ : ∃ y, M[k]? = some y := ⟨_, List.getElem?_eq_getElem hkM⟩
        rcases HS.out with h | ⟨b, o, rfl, h3, h4⟩
        · subst h; simp at hkL
        rcases HS'.out with h | ⟨b', o', rfl, h3', h4'⟩
        · subst h; simp at hkM
        have hc : wr.cell? ⟨b, o + k, none⟩ = some (.string ⟨x.toArray⟩) := (hbw.cell (p := ⟨b, o + k, none⟩) h3).trans (h4 k x hx)
        have hc' : wr.cell? ⟨b', o' + k, none⟩ = some (.string ⟨y.toArray⟩) := (hbw.cell (p := ⟨b', o' + k, none⟩) h3').trans (h4' k y hy)
        have hiff := take_both hok.out hx hy
        have Hiff := Lib.hid hiff
        have Hx := Lib.hid hx
        have Hy := Lib.hid hy
        clear h4 h4' hx hy hiff hkL hkM
        have hk1 : (0 : Int) ≤ k := by omega
        have hk2 : (k : Int) < n := by omega
        go_wp2
        go_quiet (fail)
        go_wp2
        · have hne : (!x == y) = true := by assumption
          have hxy : ¬ x = y := by simpa using hne
          go_ret
          refine ⟨ret_bool ?_, below_drewN hbw _⟩
          rw [Hr.out]
          symm
          exact decide_eq_false fun h => hxy (Hiff.out.1 (by rw [h]))
        · have hne : (!x == y) = false := by assumption
          have hxy : x = y := by simpa using hne
          go_roundw
          case rel => exact ⟨k + 1, by omega, by go_num, Hiff.out.2 hxy, below_drewN hbw _⟩
          case measure => simp [intOf]; omega
      · go_wp2
        go_ret
        refine ⟨ret_bool ?_, hbw⟩
        have := hok.out
        rw [List.take_of_length_le (by have := Hn.out; omega), List.take_of_length_le (by have := Hm.out; omega)] at this
        rw [Hr.out, decide_eq_true this]
  · have hne' : ((L.length : Int) != M.length) = true := by rw [bne_iff_ne]; omega
    have hd : decide (L = M) = false := decide_eq_false fun h => hne (by rw [h])
    rw [hd]
    clear hd hne
    go_enter Tryz.func47, Tryz.ntmps47
    go_wp2
    go_ret
    exact ⟨rfl, Below.refl _ _⟩


/-- slices.Equal at two lists of texts -/
theorem equalN_any (A A' : Option Addr) (L M : List (List UInt8)) (c c' : Nat) (w : World) (hL : L.length ≤ 9223372036854775807) (hM : M.length ≤ 9223372036854775807) (hS : Nmz w A L) (hS' : Nmz w A' M) :
    Calls Tryz.prog 78 #[.slice A L.length c, .slice A' M.length c'] w fun e w' => e = .returned (.bool (decide (L = M))) ∧ Below w.heap.size w w' := by
  by_cases hne : L.length = M.length
  · rcases hS with h | ⟨b, o, rfl, h3, h4⟩
    · subst h
      obtain rfl : M = [] := List.length_eq_zero_iff.1 (by rw [← hne]; rfl)
      refine (Tryz.slices_Equal_string_empty A A' c 0 c' w (by omega)).mono fun e w' ⟨he, hw⟩ => ?_
      subst hw
      exact ⟨by rw [he]; rfl, Below.refl _ _⟩
    · rcases hS' with h | ⟨b', o', rfl, h3', h4'⟩
      · subst h
        obtain rfl : L = [] := List.length_eq_zero_iff.1 hne
        refine (Tryz.slices_Equal_string_empty (some ⟨b, o, none⟩) A' c 0 c' w (by omega)).mono fun e w' ⟨he, hw⟩ => ?_
        subst hw
        exact ⟨by rw [he]; rfl, Below.refl _ _⟩
      · have hg : ∀ (K : List (List UInt8)) (j : Nat), j < (K.map fun x => (⟨x.toArray⟩ : ByteArray)).length → ∃ x, K[j]? = some x ∧ (K.map fun x => (⟨x.toArray⟩ : ByteArray)).getD j ByteArray.empty = ⟨x.toArray⟩ := fun K j hj => by
          rw [List.length_map] at hj
          refine ⟨K[j], List.getElem?_eq_getElem hj, ?_⟩
          rw [List.getD_eq_getElem?_getD, List.getElem?_map, List.getElem?_eq_getElem hj]
          rfl
        have h := Tryz.slices_Equal_string b o L.length c b' o' M.length c' (L.map fun x => ⟨x.toArray⟩) (M.map fun x => ⟨x.toArray⟩) w (by simp) (by simp) (by omega) (by omega)
          (fun j hj => by obtain ⟨x, hx, hd⟩ := hg L j hj; rw [hd]; exact h4 j x hx) (fun j hj => by obtain ⟨x, hx, hd⟩ := hg M j hj; rw [hd]; exact h4' j x hx)
        refine h.mono fun e w' ⟨he, q, hw⟩ => ?_
        subst hw
        refine ⟨?_, below_drewN (Below.refl _ _) _⟩
        rw [he]
        apply ret_bool
        rw [List.take_of_length_le (by simp), List.take_of_length_le (by simp)]
        have hinj : ∀ K N : List (List UInt8), (K.map fun x => (⟨x.toArray⟩ : ByteArray)) = (N.map fun x => (⟨x.toArray⟩ : ByteArray)) ↔ K = N := fun K N => by
          constructor
          · intro h
            have := congrArg (List.map fun b : ByteArray => b.data.toList) h
            simpa [Function.comp_def] using this
          · intro h; rw [h]
        simp only [hinj]
  · refine (Tryz.slices_Equal_string_lens A A' L.length c M.length c' w hne).mono fun e w' ⟨he, hw⟩ => ?_
    subst hw
    exact ⟨by rw [he, decide_eq_false (fun h => hne (by rw [h]))], Below.refl _ _⟩


set_option maxHeartbeats 4000000 in
set_option maxRecDepth 8192 in
theorem samereplyN_any (q p : Pz.Rep) (A A' : Option Addr) (c c' : Nat) (w : World) (hl : q.names.length ≤ 9223372036854775807) (hl2 : p.names.length ≤ 9223372036854775807) (hS : Nmz w A q.names) (hS' : Nmz w A' p.names) :
    Calls Tryz.prog 13 #[repV q A c, repV p A' c'] w (Told w (q = p)) := by
  obtain ⟨e0, e1, e2, e3, e4, e5, e6⟩ := q
  obtain ⟨f0, f1, f2, f3, f4, f5, f6⟩ := p
  unfold repV
  obtain ⟨w2, hw2⟩ : ∃ w2, w2 = ((w.alloc (.cells #[.int .i64 e0, .int .i64 e1, .string ⟨e2.toArray⟩, .slice A e3.length c, .int .i64 e4, .int .i64 e5, .int .i64 e6] 36)).alloc (.cells #[.int .i64 f0, .int .i64 f1, .string ⟨f2.toArray⟩, .slice A' f3.length c', .int .i64 f4, .int .i64 f5, .int .i64 f6] 36)) := ⟨_, rfl⟩
  have hb2 : Below w.heap.size w w2 := by rw [hw2]; exact ((Below.refl _ _).alloc (Nat.le_refl _) _).alloc (by simp) _
  have h1 : w2.heap[w.heap.size]? = some (.cells #[.int .i64 e0, .int .i64 e1, .string ⟨e2.toArray⟩, .slice A e3.length c, .int .i64 e4, .int .i64 e5, .int .i64 e6] 36 (0, 0)) := by
    rw [hw2, Below.heap_alloc _ _ _ (by simp)]
    exact heap_alloc_new _ _
  have h2 : w2.heap[w.heap.size + 1]? = some (.cells #[.int .i64 f0, .int .i64 f1, .string ⟨f2.toArray⟩, .slice A' f3.length c', .int .i64 f4, .int .i64 f5, .int .i64 f6] 36 (0, 0)) := by
    rw [hw2]
    exact heap_alloc2_new _ _ _
  have hs2 : w2.heap.size = w.heap.size + 2 := by rw [hw2]; simp
  have hq := sameN_any A A' e3 f3 c c' w2 hl hl2 (hS.keep hb2) (hS'.keep hb2)
  have HQ := Lib.hid hq
  have HW2 := Lib.hid hw2
  have HB := Lib.hid (fun (W : World) (hb : Below w2.heap.size w2 W) => And.intro ((hb.block w.heap.size (by omega)).trans h1) (And.intro ((hb.block (w.heap.size + 1) (by omega)).trans h2) (hb2.trans (hb.mono (by omega)))))
  clear hl hl2 hS hS' hq hw2 h1 h2 hb2 hs2
  go_enter Tryz.func13, Tryz.ntmps13
  go_wp2_with fail
  rw [← HW2.out]
  refine HQ.out.mono ?_
  rintro e w3 ⟨rfl, hb3⟩
  obtain ⟨h1, h2, h3⟩ := HB.out _ hb3
  have HB3 := Lib.hid h3
  have a0 := cell_of_row w3 _ 0 _ _ _ h1
  have b0 := cell_of_row w3 _ 0 _ _ _ h2
  have a1 := cell_of_row w3 _ 1 _ _ _ h1
  have b1 := cell_of_row w3 _ 1 _ _ _ h2
  have a2 := cell_of_row w3 _ 2 _ _ _ h1
  have b2 := cell_of_row w3 _ 2 _ _ _ h2
  have a4 := cell_of_row w3 _ 4 _ _ _ h1
  have b4 := cell_of_row w3 _ 4 _ _ _ h2
  have a5 := cell_of_row w3 _ 5 _ _ _ h1
  have b5 := cell_of_row w3 _ 5 _ _ _ h2
  have a6 := cell_of_row w3 _ 6 _ _ _ h1
  have b6 := cell_of_row w3 _ 6 _ _ _ h2
  clear h1 h2 h3 hb3
  by_cases hn : e3 = f3
  · rw [decide_eq_true hn]
    subst hn
    by_cases h0 : e0 = f0
    · subst h0
      by_cases h1 : e1 = f1
      · subst h1
        by_cases h2 : e2 = f2
        · subst h2
          by_cases h4 : e4 = f4
          · subst h4
            by_cases h5 : e5 = f5
            · subst h5
              by_cases h6 : e6 = f6
              · subst h6
                go_wp2
                go_ret
                exact ⟨true, rfl, (by simp), HB3.out⟩
              · have hb : ((e6 : Int) == f6) = false := by rw [beq_eq_false_iff_ne]; exact h6
                have HNe := Lib.hid h6
                clear h6
                go_wp2
                go_ret
                exact ⟨false, rfl, ⟨fun h => (by cases h), fun h => absurd h (by simp only [Pz.Rep.mk.injEq]; intro h; exact HNe.out (by simp only [h]))⟩, HB3.out⟩
            · have hb : ((e5 : Int) == f5) = false := by rw [beq_eq_false_iff_ne]; exact h5
              have HNe := Lib.hid h5
              clear h5
              go_wp2
              go_ret
              exact ⟨false, rfl, ⟨fun h => (by cases h), fun h => absurd h (by simp only [Pz.Rep.mk.injEq]; intro h; exact HNe.out (by simp only [h]))⟩, HB3.out⟩
          · have hb : ((e4 : Int) == f4) = false := by rw [beq_eq_false_iff_ne]; exact h4
            have HNe := Lib.hid h4
            clear h4
            go_wp2
            go_ret
            exact ⟨false, rfl, ⟨fun h => (by cases h), fun h => absurd h (by simp only [Pz.Rep.mk.injEq]; intro h; exact HNe.out (by simp only [h]))⟩, HB3.out⟩
        · have hb : ((e2 : List UInt8) == f2) = false := by rw [beq_eq_false_iff_ne]; exact h2
          have HNe := Lib.hid h2
          clear h2
          go_wp2
          go_ret
          exact ⟨false, rfl, ⟨fun h => (by cases h), fun h => absurd h (by simp only [Pz.Rep.mk.injEq]; intro h; exact HNe.out (by simp only [h]))⟩, HB3.out⟩
      · have hb : ((e1 : Int) == f1) = false := by rw [beq_eq_false_iff_ne]; exact h1
        have HNe := Lib.hid h1
        clear h1
        go_wp2
        go_ret
        exact ⟨false, rfl, ⟨fun h => (by cases h), fun h => absurd h (by simp only [Pz.Rep.mk.injEq]; intro h; exact HNe.out (by simp only [h]))⟩, HB3.out⟩
    · have hb : ((e0 : Int) == f0) = false := by rw [beq_eq_false_iff_ne]; exact h0
      have HNe := Lib.hid h0
      clear h0
      go_wp2
      go_ret
      exact ⟨false, rfl, ⟨fun h => (by cases h), fun h => absurd h (by simp only [Pz.Rep.mk.injEq]; intro h; exact HNe.out (by simp only [h]))⟩, HB3.out⟩
  · rw [decide_eq_false hn]
    have HNe := Lib.hid hn
    clear hn
    go_wp2
    go_ret
    exact ⟨false, rfl, ⟨fun h => (by cases h), fun h => absurd h (by simp only [Pz.Rep.mk.injEq]; intro h; exact HNe.out (by simp only [h]))⟩, HB3.out⟩

set_option maxHeartbeats 4000000 in
set_option maxRecDepth 8192 in
theorem asame_any (q p : Pz.Rep) (A A' : Option Addr) (c c' : Nat) (w : World) (hl : q.names.length ≤ 9223372036854775807) (hl2 : p.names.length ≤ 9223372036854775807) (hS : Nmz w A q.names) (hS' : Nmz w A' p.names) :
    Calls Tryz.prog 73 #[repV q A c, repV p A' c'] w (Told w (q = p)) := by
  obtain ⟨e0, e1, e2, e3, e4, e5, e6⟩ := q
  obtain ⟨f0, f1, f2, f3, f4, f5, f6⟩ := p
  unfold repV
  obtain ⟨w2, hw2⟩ : ∃ w2, w2 = ((w.alloc (.cells #[.int .i64 e0, .int .i64 e1, .string ⟨e2.toArray⟩, .slice A e3.length c, .int .i64 e4, .int .i64 e5, .int .i64 e6] 36)).alloc (.cells #[.int .i64 f0, .int .i64 f1, .string ⟨f2.toArray⟩, .slice A' f3.length c', .int .i64 f4, .int .i64 f5, .int .i64 f6] 36)) := ⟨_, rfl⟩
  have hb2 : Below w.heap.size w w2 := by rw [hw2]; exact ((Below.refl _ _).alloc (Nat.le_refl _) _).alloc (by simp) _
  have h1 : w2.heap[w.heap.size]? = some (.cells #[.int .i64 e0, .int .i64 e1, .string ⟨e2.toArray⟩, .slice A e3.length c, .int .i64 e4, .int .i64 e5, .int .i64 e6] 36 (0, 0)) := by
    rw [hw2, Below.heap_alloc _ _ _ (by simp)]
    exact heap_alloc_new _ _
  have h2 : w2.heap[w.heap.size + 1]? = some (.cells #[.int .i64 f0, .int .i64 f1, .string ⟨f2.toArray⟩, .slice A' f3.length c', .int .i64 f4, .int .i64 f5, .int .i64 f6] 36 (0, 0)) := by
    rw [hw2]
    exact heap_alloc2_new _ _ _
  have hs2 : w2.heap.size = w.heap.size + 2 := by rw [hw2]; simp
  have HQ := Lib.hid fun W (hW : Below w2.heap.size w2 W) => equalN_any A A' e3 f3 c c' W hl hl2 ((hS.keep hb2).keep hW) ((hS'.keep hb2).keep hW)
  have HW2 := Lib.hid hw2
  have HB3 := Lib.hid hb2
  have a3 := cell_of_row w2 _ 3 _ _ _ h1
  have b3 := cell_of_row w2 _ 3 _ _ _ h2
  have a0 := cell_of_row w2 _ 0 _ _ _ h1
  have b0 := cell_of_row w2 _ 0 _ _ _ h2
  have a1 := cell_of_row w2 _ 1 _ _ _ h1
  have b1 := cell_of_row w2 _ 1 _ _ _ h2
  have a2 := cell_of_row w2 _ 2 _ _ _ h1
  have b2 := cell_of_row w2 _ 2 _ _ _ h2
  have a4 := cell_of_row w2 _ 4 _ _ _ h1
  have b4 := cell_of_row w2 _ 4 _ _ _ h2
  have a5 := cell_of_row w2 _ 5 _ _ _ h1
  have b5 := cell_of_row w2 _ 5 _ _ _ h2
  have a6 := cell_of_row w2 _ 6 _ _ _ h1
  have b6 := cell_of_row w2 _ 6 _ _ _ h2
  clear hl hl2 hS hS' hw2 h1 h2 hb2 hs2
  go_enter Tryz.func73, Tryz.ntmps73
  go_upto_region 1 with fail
  rw [← HW2.out]
  by_cases h0 : e0 = f0
  · subst h0
    by_cases h1 : e1 = f1
    · subst h1
      by_cases h2 : e2 = f2
      · subst h2
        by_cases h4 : e4 = f4
        · subst h4
          by_cases h5 : e5 = f5
          · subst h5
            by_cases h6 : e6 = f6
            · subst h6
              go_wp2_with fail
              refine (HQ.out _ (Below.refl _ _)).mono ?_
              rintro e w3 ⟨rfl, hb3⟩
              have HB4 := Lib.hid (HB3.out.trans (hb3.mono HB3.out.size))
              clear hb3 a0 a1 a2 a3 a4 a5 a6 b0 b1 b2 b3 b4 b5 b6
              go_wp2
              go_ret
              exact ⟨decide (e3 = f3), rfl, by simp, HB4.out⟩
            · have hb : ((e6 : Int) == f6) = false := by rw [beq_eq_false_iff_ne]; exact h6
              have HNe := Lib.hid h6
              clear h6
              go_wp2
              go_ret
              exact ⟨false, rfl, ⟨fun h => (by cases h), fun h => absurd h (by simp only [Pz.Rep.mk.injEq]; intro h; exact HNe.out (by simp only [h]))⟩, HB3.out⟩
          · have hb : ((e5 : Int) == f5) = false := by rw [beq_eq_false_iff_ne]; exact h5
            have HNe := Lib.hid h5
            clear h5
            go_wp2
            go_ret
            exact ⟨false, rfl, ⟨fun h => (by cases h), fun h => absurd h (by simp only [Pz.Rep.mk.injEq]; intro h; exact HNe.out (by simp only [h]))⟩, HB3.out⟩
        · have hb : ((e4 : Int) == f4) = false := by rw [beq_eq_false_iff_ne]; exact h4
          have HNe := Lib.hid h4
          clear h4
          go_wp2
          go_ret
          exact ⟨false, rfl, ⟨fun h => (by cases h), fun h => absurd h (by simp only [Pz.Rep.mk.injEq]; intro h; exact HNe.out (by simp only [h]))⟩, HB3.out⟩
      · have hb : ((e2 : List UInt8) == f2) = false := by rw [beq_eq_false_iff_ne]; exact h2
        have HNe := Lib.hid h2
        clear h2
        go_wp2
        go_ret
        exact ⟨false, rfl, ⟨fun h => (by cases h), fun h => absurd h (by simp only [Pz.Rep.mk.injEq]; intro h; exact HNe.out (by simp only [h]))⟩, HB3.out⟩
    · have hb : ((e1 : Int) == f1) = false := by rw [beq_eq_false_iff_ne]; exact h1
      have HNe := Lib.hid h1
      clear h1
      go_wp2
      go_ret
      exact ⟨false, rfl, ⟨fun h => (by cases h), fun h => absurd h (by simp only [Pz.Rep.mk.injEq]; intro h; exact HNe.out (by simp only [h]))⟩, HB3.out⟩
  · have hb : ((e0 : Int) == f0) = false := by rw [beq_eq_false_iff_ne]; exact h0
    have HNe := Lib.hid h0
    clear h0
    go_wp2
    go_ret
    exact ⟨false, rfl, ⟨fun h => (by cases h), fun h => absurd h (by simp only [Pz.Rep.mk.injEq]; intro h; exact HNe.out (by simp only [h]))⟩, HB3.out⟩

end Go.Proofs.YtbpejjmfdhkfhaaGreatDoor
