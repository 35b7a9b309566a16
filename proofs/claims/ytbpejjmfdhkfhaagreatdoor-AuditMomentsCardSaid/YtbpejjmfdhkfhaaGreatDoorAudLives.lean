/- Walks: the audit's law's lives: the document's example. -/
import Derived.Test.YtbpejjmfdhkfhaaGreatDoorAudRun
set_option linter.unusedVariables false
set_option linter.unusedSimpArgs false
namespace Go.Proofs.YtbpejjmfdhkfhaaGreatDoor
open Go.RowKit

theorem mxx_grow [Inhabited XBox] {w w' : World} (h : MxX w) (hb : Below w.heap.size w w') : MxX w' := by
  refine ⟨h.1.keep hb, ?_⟩
  obtain ⟨m, hm⟩ := h.1
  exact (hb.block maxB (World.block_lt_of_cell? w ⟨maxB, 0, none⟩ hm)).trans h.2
/-- one event alone lies in a row of its own -/
theorem evs_one {w : World} {g t : Nat} {x : Ev} (h : w.heap[g]? = some (.cells (evC x) t (0, 0))) : Evs w (some ⟨g, 0, none⟩) [x] :=
  Or.inr ⟨g, 0, rfl, (Array.getElem?_eq_some_iff.1 h).1, fun j y hy => by
    match j, hy with
    | 0, hy =>
      cases hy
      rw [Nat.zero_mul]
      exact evAt_row h
    | j + 1, hy => simp at hy⟩
/-- a slice's one event, as it is laid -/
theorem laid_one (x : Ev) : Array.foldl (fun cs (x : Value × Nat) => cs.setIfInBounds x.snd x.fst) #[.int .i64 0, .int .i64 0, .int .i64 0, .string ⟨#[]⟩, .string ⟨#[]⟩, .int .i64 0, .int .i64 0, .int .i64 0, .int .i64 0, .string ⟨#[]⟩, .int .i64 0, .int .i64 0, .int .i64 0, .int .i64 0, .int .i64 0, .string ⟨#[]⟩, .slice none 0 0, .int .i64 0, .int .i64 0, .int .i64 0] (evC x).zipIdx 0 (evC x).size = evC x := by
  simp [evC]
def le1 : Ev := ⟨1, 5, 1, ⟨#[47, 97]⟩, ⟨#[]⟩, 1, 0, 0, 0, ⟨#[]⟩, 1, 2, 3, Pz.er 0, none, 0⟩
def le2 : Ev := { le1 with q := ⟨0, 1, [], [], 0, 0, 0⟩ }
theorem le1_may (w : World) : EvMay w le1 := ⟨i64_1, i64_0, by decide, by decide, Or.inl rfl, by decide, by decide, Or.inl (by decide)⟩
theorem le2_may (w : World) : EvMay w le2 := ⟨i64_1, i64_0, by decide, by decide, Or.inl rfl, by decide, by decide, Or.inl (by decide)⟩
theorem le1_do : evDo newFS le1 = Pz.l1 := rfl
theorem le1_bad : evBad newFS ([le1].filter fun x => decide (0 < x.done)) 0 = 0 := by
  have : ([le1].filter fun x => decide (0 < x.done)) = [le1] := rfl
  rw [this, evBad, evBad, if_neg]
  rintro ⟨h, _⟩
  have hf : Fits newFS le1 := fun _ => ⟨by decide, by decide, by rw [le1_do, Pz.l1_rep]; rfl⟩
  rw [fitB_iff.2 hf] at h
  cases h
theorem le2_bad : evBad newFS ([le2].filter fun x => decide (0 < x.done)) 0 = 5 := by
  have : ([le2].filter fun x => decide (0 < x.done)) = [le2] := rfl
  rw [this, evBad, evBad, if_pos]
  · rfl
  refine ⟨?_, rfl⟩
  cases h : fitB newFS le2 with
  | false => rfl
  | true =>
    have := (fitB_iff.1 h (by decide)).2.2
    rw [show evDo newFS le2 = Pz.l1 from rfl, Pz.l1_rep] at this
    exact absurd (congrArg Pz.Rep.fd this) (by decide)

set_option maxHeartbeats 4000000 in
set_option maxRecDepth 100000 in
theorem alives_any [Inhabited XBox] (w : World) (hx : MxX w) : Calls Tryz.prog 17 #[] w fun e w' => e = .returned (.bool true) ∧ Below w.heap.size w w' := by
  have HX := Lib.hid hx
  clear hx
  go_enter Tryz.func17, Tryz.ntmps17
  go_wp2_with (first | (refine wpList_store_mid rfl 53 _ _ rfl w.heap.size 0 (evC le1).toList.toArray rfl rfl (there_new _ _ _ _ rfl) Tryz.sizeEv (evC_one le1) ?_; generalize hwe : (World.setCells _ _ _ _) = we; obtain ⟨hbe, hee⟩ : Below w.heap.size w we ∧ we.heap[w.heap.size]? = some (.cells (evC le1) 53 (0, 0)) := (by rw [← hwe]; exact new_whole w _ _ _ rfl); clear hwe; have hrg := (evAt_row hee).range) | (refine wpList_load_mid rfl 53 _ rfl w.heap.size 0 rfl (evC le1).toList _ hrg Tryz.underlying53 rfl Tryz.sizeEv ?_))
  rw [laid_one]
  obtain ⟨w1, hw1⟩ : ∃ v, v = we.alloc (.cells (evC le1) 53) := ⟨_, rfl⟩
  rw [← hw1]
  have hb1 : Below we.heap.size we w1 := by rw [hw1]; exact (Below.refl _ _).alloc (Nat.le_refl _) _
  have h1 : w1.heap[we.heap.size]? = some (.cells (evC le1) 53 (0, 0)) := by rw [hw1]; exact heap_alloc_new _ _
  have hbw := hbe.trans (hb1.mono hbe.size)
  have HBw := Lib.hid hbw
  have hR := run_any (some ⟨we.heap.size, 0, none⟩) [le1] 1 w1 (mxx_grow HX.out hbw) (by simp) (evs_one h1) (fun x hx => by rw [List.mem_singleton.1 hx]; exact le1_may _) (by rw [show ([le1].filter fun x => decide (0 < x.done)) = [le1] from rfl]; simp)
  rw [le1_bad] at hR
  have HH : Hid (∀ W, Below w1.heap.size w1 W → W.heap[w.heap.size]? = some (.cells (evC le1) 53 (0, 0))) := Lib.hid fun W hW => (hW.block _ (Nat.lt_of_lt_of_le (lt_of_get hee) hb1.size)).trans ((hb1.block _ (lt_of_get hee)).trans hee)
  have HR := Lib.hid hR
  clear hw1 hb1 h1 hbw hbe hee hrg hR
  refine HR.out.mono ?_
  rintro e w2 ⟨pr, rfl, hb2⟩
  have h2 := HH.out w2 hb2
  have c14 := cell_of_row w2 _ 14 _ _ _ h2
  have f14 := frozen_of_row w2 _ 14 _ _ h2
  have HB2 := Lib.hid (HBw.out.trans (hb2.mono HBw.out.size))
  have H2 := Lib.hid h2
  clear h2 hb2
  go_upto_region 4 with fail
  obtain ⟨w3, hw3⟩ : ∃ v, v = w2.setCell ⟨w.heap.size, 14, none⟩ (.int .i64 1) := ⟨_, rfl⟩
  rw [← hw3]
  have h3 : w3.heap[w.heap.size]? = some (.cells (evC le2) 53 (0, 0)) := by
    rw [hw3]
    exact Go.heap_setCell_same w2 _ 14 _ _ _ H2.out
  have hb3 : Below w.heap.size w w3 := by rw [hw3]; exact HB2.out.setCell (Nat.le_refl _) _
  have hrg := (evAt_row h3).range
  have HB3 := Lib.hid hb3
  have HX3 := Lib.hid (mxx_grow HX.out hb3)
  clear hw3 h3 hb3 c14 f14 H2 HB2
  go_wp2_with (refine wpList_load_mid rfl 53 _ rfl w.heap.size 0 rfl (evC le2).toList _ hrg Tryz.underlying53 rfl Tryz.sizeEv ?_)
  rw [laid_one]
  obtain ⟨w4, hw4⟩ : ∃ v, v = w3.alloc (.cells (evC le2) 53) := ⟨_, rfl⟩
  rw [← hw4]
  have hb4 : Below w3.heap.size w3 w4 := by rw [hw4]; exact (Below.refl _ _).alloc (Nat.le_refl _) _
  have h4 : w4.heap[w3.heap.size]? = some (.cells (evC le2) 53 (0, 0)) := by rw [hw4]; exact heap_alloc_new _ _
  have hR := run_any (some ⟨w3.heap.size, 0, none⟩) [le2] 1 w4 (mxx_grow HX3.out hb4) (by simp) (evs_one h4) (fun x hx => by rw [List.mem_singleton.1 hx]; exact le2_may _) (by rw [show ([le2].filter fun x => decide (0 < x.done)) = [le2] from rfl]; simp)
  rw [le2_bad] at hR
  have HR2 := Lib.hid hR
  have HB4 := Lib.hid (HB3.out.trans (hb4.mono HB3.out.size))
  clear hw4 h4 hb4 hR hrg
  refine HR2.out.mono ?_
  rintro e w5 ⟨pr5, rfl, hb5⟩
  have HB5 := Lib.hid (HB4.out.trans (hb5.mono HB4.out.size))
  clear hb5
  go_wp2
  go_ret
  exact ⟨rfl, HB5.out⟩

end Go.Proofs.YtbpejjmfdhkfhaaGreatDoor
