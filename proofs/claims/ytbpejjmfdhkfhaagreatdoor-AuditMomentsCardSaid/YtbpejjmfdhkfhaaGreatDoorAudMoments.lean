/- Walks: the law AuditMoments: an event that is told must have taken effect between its being asked and its being told. -/
import Derived.Test.YtbpejjmfdhkfhaaGreatDoorAudLives
set_option linter.unusedVariables false
set_option linter.unusedSimpArgs false
namespace Go.Proofs.YtbpejjmfdhkfhaaGreatDoor
open Go.RowKit

theorem laid_cs (cs : Array Value) (h : cs.size = 20) : Array.foldl (fun cs (x : Value × Nat) => cs.setIfInBounds x.snd x.fst) #[.int .i64 0, .int .i64 0, .int .i64 0, .string ⟨#[]⟩, .string ⟨#[]⟩, .int .i64 0, .int .i64 0, .int .i64 0, .int .i64 0, .string ⟨#[]⟩, .int .i64 0, .int .i64 0, .int .i64 0, .int .i64 0, .int .i64 0, .string ⟨#[]⟩, .slice none 0 0, .int .i64 0, .int .i64 0, .int .i64 0] cs.zipIdx 0 20 = cs := by
  obtain ⟨l⟩ := cs
  match l, h with
  | [v0, v1, v2, v3, v4, v5, v6, v7, v8, v9, v10, v11, v12, v13, v14, v15, v16, v17, v18, v19], _ => simp
def em (a d t : Int) : Ev := ⟨1, 9, 7, ⟨#[47, 97]⟩, ⟨#[]⟩, 0, 0, 0, 0, ⟨#[]⟩, a, d, t, Pz.er 0, none, 0⟩
def emC (a d t : Int) : Array Value := #[.int .i64 1, .int .i64 9, .int .i64 7, .string ⟨#[47, 97]⟩, .string ⟨#[]⟩, .int .i64 0, .int .i64 0, .int .i64 0, .int .i64 0, .string ⟨#[]⟩, .int .i64 a, .int .i64 d, .int .i64 t, .int .i64 0, .int .i64 0, .string ⟨#[]⟩, .slice none 0 0, .int .i64 0, .int .i64 0, .int .i64 0]
theorem em_cells (a d t : Int) : evC (em a d t) = emC a d t := rfl
theorem emC_one (a d t : Int) : (emC a d t).all (·.oneCell') = true := by
  simp [emC, Value.oneCell']
theorem em_rep (a d t : Int) : (evDo newFS (em a d t)).2 = Pz.er 0 := by
  show (Pz.doA newFS 1 7 [47, 97] [] 0 0 0 0 []).2 = Pz.er 0
  kernel_rfl
theorem em_may (a d t : Int) (w : World) : EvMay w (em a d t) := ⟨i64_1, i64_0, by show (2 : Nat) ≤ _; omega, by show (0 : Nat) ≤ _; omega, Or.inl rfl, by show (0 : Nat) ≤ _; omega, by show (0 : Int) ≠ 18; omega, Or.inr rfl⟩
/-- the number of the event that does not fit -/
theorem em_bad (a d t : Int) : (evBad newFS ([em a d t].filter fun x => decide (0 < x.done)) 0 = 9 ∧ 0 < d ∧ 0 < t ∧ (d < a ∨ (a ≤ d ∧ t < d))) ∨ (evBad newFS ([em a d t].filter fun x => decide (0 < x.done)) 0 = 0 ∧ (d ≤ 0 ∨ (0 < d ∧ t ≤ 0) ∨ (0 < d ∧ 0 < t ∧ decide (d < a) = false ∧ decide (t < d) = false))) := by
  by_cases h1 : 0 < d
  · have hf : ([em a d t].filter fun x => decide (0 < x.done)) = [em a d t] := List.filter_cons_of_pos (by show decide (0 < d) = true; simpa using h1)
    rw [hf, evBad, evBad]
    by_cases hq : Fits newFS (em a d t)
    · rw [if_neg (fun h => by rw [fitB_iff.2 hq] at h; cases h.1)]
      refine Or.inr ⟨rfl, Or.inr ?_⟩
      by_cases h2 : 0 < t
      · obtain ⟨h3, h4, _⟩ := hq h2
        have h3' : a ≤ d := h3
        have h4' : d ≤ t := h4
        exact Or.inr ⟨h1, h2, decide_eq_false (by omega), decide_eq_false (by omega)⟩
      · exact Or.inl ⟨h1, by omega⟩
    · have hb : fitB newFS (em a d t) = false := by
        cases h : fitB newFS (em a d t) with
        | false => rfl
        | true => exact absurd (fitB_iff.1 h) hq
      rw [if_pos ⟨hb, rfl⟩]
      refine Or.inl ⟨rfl, h1, ?_⟩
      have h2 : 0 < t := Classical.byContradiction fun h => hq fun h' => absurd h' h
      refine ⟨h2, Classical.byContradiction fun h => hq fun _ => ⟨?_, ?_, em_rep a d t⟩⟩
      · show a ≤ d
        omega
      · show d ≤ t
        omega
  · have hf : ([em a d t].filter fun x => decide (0 < x.done)) = [] := List.filter_cons_of_neg (by show ¬ (decide (0 < d) = true); simpa using h1)
    rw [hf]
    exact Or.inr ⟨rfl, Or.inl (by omega)⟩

set_option maxHeartbeats 4000000 in
set_option maxRecDepth 100000 in
theorem law_moments [Inhabited XBox] (a d t : Int) (w : World) (hx : MxX w) : Calls Tryz.prog 5 #[.int .i64 a, .int .i64 d, .int .i64 t] w fun e w' => e = .returned (.bool true) ∧ Below w.heap.size w w' := by
  have HX := Lib.hid hx
  clear hx
  go_enter Tryz.func5, Tryz.ntmps5
  go_wp2_with (first | (refine wpList_store_mid rfl 53 _ _ rfl w.heap.size 0 _ rfl rfl (there_new _ _ _ _ rfl) Tryz.sizeEv (by simp [Value.oneCell']) ?_; generalize hwe : (World.setCells _ _ _ _) = we; obtain ⟨hbe, hee⟩ : Below w.heap.size w we ∧ we.heap[w.heap.size]? = some (.cells (evC (em a d t)) 53 (0, 0)) := (by rw [← hwe]; exact new_whole w _ _ _ rfl); clear hwe; obtain ⟨cs, hcs⟩ : ∃ cs, cs = evC (em a d t) := ⟨_, rfl⟩; have hrg := (evAt_row hee).range; have hsz : (Tryz.prog.info? 53).map (fun i => i.size) = some cs.toList.length := (by rw [hcs]; exact Tryz.sizeEv); rw [← hcs] at hrg hee; have hcz : cs.size = 20 := (by rw [hcs]; rfl); have HCs := Lib.hid hcs; clear hcs) | (refine wpList_load_mid rfl 53 _ rfl w.heap.size 0 rfl cs.toList _ hrg Tryz.underlying53 rfl hsz ?_))
  try rw [hcz]
  rw [laid_cs cs hcz]
  rw [HCs.out] at hee ⊢
  clear hrg hsz hcz
  obtain ⟨w1, hw1⟩ : ∃ v, v = we.alloc (.cells (evC (em a d t)) 53) := ⟨_, rfl⟩
  rw [← hw1]
  have hb1 : Below we.heap.size we w1 := by rw [hw1]; exact (Below.refl _ _).alloc (Nat.le_refl _) _
  have h1 : w1.heap[we.heap.size]? = some (.cells (evC (em a d t)) 53 (0, 0)) := by rw [hw1]; exact heap_alloc_new _ _
  have hbw := hbe.trans (hb1.mono hbe.size)
  have HBw := Lib.hid hbw
  have hR := run_any (some ⟨we.heap.size, 0, none⟩) [em a d t] 1 w1 (mxx_grow HX.out hbw) (by simp) (evs_one h1) (fun x hx => by rw [List.mem_singleton.1 hx]; exact em_may a d t _) (by
    by_cases h : 0 < d
    · rw [show ([em a d t].filter fun x => decide (0 < x.done)) = [em a d t] from List.filter_cons_of_pos (by show decide (0 < d) = true; simpa using h)]
      simp
    · rw [show ([em a d t].filter fun x => decide (0 < x.done)) = [] from List.filter_cons_of_neg (by show ¬ (decide (0 < d) = true); simpa using h)]
      exact List.Pairwise.nil)
  have HB := Lib.hid (em_bad a d t)
  obtain ⟨N, hN⟩ : ∃ N, N = evBad newFS ([em a d t].filter fun x => decide (0 < x.done)) 0 := ⟨_, rfl⟩
  rw [← hN] at hR HB
  have HR := Lib.hid hR
  clear hw1 hb1 h1 hbw hbe hee hR hN
  refine HR.out.mono ?_
  rintro e w2 ⟨pr, rfl, hb2⟩
  have HB2 := Lib.hid (HBw.out.trans (hb2.mono HBw.out.size))
  have HL := Lib.hid (alives_any w2 (mxx_grow HX.out HB2.out))
  clear hb2
  go_upto_region 3 with fail
  rcases HB.out with ⟨rfl, h1, h2, h3 | ⟨h3, h4⟩⟩ | ⟨rfl, h1 | ⟨h1, h2⟩ | ⟨h1, h2, h3, h4⟩⟩
  all_goals
    clear HB
    go_wp2_with fail
    refine HL.out.mono ?_
    rintro e w3 ⟨rfl, hb3⟩
    have HB3 := Lib.hid (HB2.out.trans (hb3.mono HB2.out.size))
    clear hb3
    go_wp2
    go_ret
    exact ⟨rfl, HB3.out⟩

end Go.Proofs.YtbpejjmfdhkfhaaGreatDoor
