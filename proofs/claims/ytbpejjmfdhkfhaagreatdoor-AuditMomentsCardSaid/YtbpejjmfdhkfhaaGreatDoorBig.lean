/- Great structs: a new variable is stored whole; an event is loaded. -/
import Derived.Test.YtbpejjmfdhkfhaaGreatDoorAudEv
import Derived.Deep.MidRow
set_option linter.unusedVariables false
set_option linter.unusedSimpArgs false
namespace Go.Proofs.YtbpejjmfdhkfhaaGreatDoor
open Go.RowKit

/-- so many cells of a row, from a place on -/
def putCells : Array Value → Nat → List Value → Array Value
  | C, _, [] => C
  | C, o, v :: r => putCells (C.setIfInBounds o v) (o + 1) r
theorem setCells_heap (b : Nat) (t : TypeId) : ∀ (vs : List Value) (o : Nat) (w : World) (C : Array Value), w.heap[b]? = some (.cells C t (0, 0)) → (w.setCells b o vs).heap[b]? = some (.cells (putCells C o vs) t (0, 0))
  | [], _, _, _, h => h
  | v :: r, o, w, C, h => by
    rw [World.setCells, putCells]
    exact setCells_heap b t r (o + 1) _ _ (Go.heap_setCell_same w b o C t v h)
theorem setCells_below {B b : Nat} (hb : B ≤ b) : ∀ (vs : List Value) (o : Nat) (a w : World), Below B a w → Below B a (w.setCells b o vs)
  | [], _, _, _, h => h
  | v :: r, o, a, w, h => by
    rw [World.setCells]
    exact setCells_below hb r (o + 1) a _ (h.setCell hb v)
theorem putCells_toList : ∀ (vs : List Value) (o : Nat) (C : Array Value), o + vs.length ≤ C.size → (putCells C o vs).toList = C.toList.take o ++ vs ++ C.toList.drop (o + vs.length)
  | [], o, C, _ => by
    rw [putCells, List.append_nil]
    exact (List.take_append_drop o C.toList).symm
  | v :: r, o, C, h => by
    rw [List.length_cons] at h
    have hl : o < C.toList.length := by simp; omega
    rw [putCells, putCells_toList r (o + 1) _ (by rw [Array.size_setIfInBounds]; omega), Array.toList_setIfInBounds, List.length_cons]
    rw [List.drop_set_of_lt (by omega), show o + 1 + r.length = o + (r.length + 1) by omega, List.take_set, List.take_add_one, List.getElem?_eq_getElem hl]
    rw [List.set_append_right _ _ (by rw [List.length_take]; omega)]
    rw [List.length_take, Nat.min_eq_left (Nat.le_of_lt hl), Nat.sub_self]
    simp
theorem putCells_all {C : Array Value} {vs : List Value} (h : C.size = vs.length) : putCells C 0 vs = vs.toArray := by
  have := putCells_toList vs 0 C (by omega)
  rw [List.take_zero, List.nil_append, Nat.zero_add, List.drop_eq_nil_of_le (by simp; omega), List.append_nil] at this
  rw [← Array.toList_inj, this]
theorem there_new (w : World) (Z : Array Value) (t : TypeId) (n : Nat) (h : Z.size = n) : (w.alloc (.cells Z t)).there w.heap.size 0 n := fun j hj => by
  have hg := heap_alloc_new w (.cells Z t)
  rw [Nat.zero_add]
  refine ⟨?_, frozen_of_row _ _ _ _ t hg⟩
  have : Z[j]? = some Z[j] := Array.getElem?_eq_getElem (by omega)
  rw [cell_of_row _ _ j Z t _ hg, this]
  rfl
/-- a new variable, stored whole -/
theorem new_whole (w : World) (Z : Array Value) (t : TypeId) (vs : List Value) (h : Z.size = vs.length) :
    Below w.heap.size w ((w.alloc (.cells Z t)).setCells w.heap.size 0 vs) ∧ ((w.alloc (.cells Z t)).setCells w.heap.size 0 vs).heap[w.heap.size]? = some (.cells vs.toArray t (0, 0)) := by
  refine ⟨setCells_below (Nat.le_refl _) vs 0 w _ ((Below.refl _ w).alloc (Nat.le_refl _) _), ?_⟩
  rw [setCells_heap _ t vs 0 _ Z (heap_alloc_new w _), putCells_all h]

theorem Tryz.sizeEv : (Tryz.prog.info? 53).map (fun i => i.size) = some 20 := by kernel_rfl
theorem EvAt.range {w : World} {b o : Nat} {x : Ev} (h : EvAt w b o x) : w.rangeAt b o (evC x).toList := by
  obtain ⟨c0, c1, c2, c3, c4, c5, c6, c7, c8, c9, c10, c11, c12, c13, c14, c15, c16, c17, c18, c19⟩ := h
  intro j v hj
  match j, hj with
  | 0, hj => cases hj; exact c0
  | 1, hj => cases hj; exact c1
  | 2, hj => cases hj; exact c2
  | 3, hj => cases hj; exact c3
  | 4, hj => cases hj; exact c4
  | 5, hj => cases hj; exact c5
  | 6, hj => cases hj; exact c6
  | 7, hj => cases hj; exact c7
  | 8, hj => cases hj; exact c8
  | 9, hj => cases hj; exact c9
  | 10, hj => cases hj; exact c10
  | 11, hj => cases hj; exact c11
  | 12, hj => cases hj; exact c12
  | 13, hj => cases hj; exact c13
  | 14, hj => cases hj; exact c14
  | 15, hj => cases hj; exact c15
  | 16, hj => cases hj; exact c16
  | 17, hj => cases hj; exact c17
  | 18, hj => cases hj; exact c18
  | 19, hj => cases hj; exact c19
  | n + 20, hj => simp [evC] at hj
theorem evC_one (x : Ev) : ((evC x).toList.toArray).all (·.oneCell') = true := by
  simp [evC, Value.oneCell']

end Go.Proofs.YtbpejjmfdhkfhaaGreatDoor
