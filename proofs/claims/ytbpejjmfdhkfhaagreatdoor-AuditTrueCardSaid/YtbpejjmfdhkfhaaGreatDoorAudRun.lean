/- Walks: the audit's rises and fits. -/
import Derived.Test.YtbpejjmfdhkfhaaGreatDoorAudEv
import Derived.Test.YtbpejjmfdhkfhaaGreatDoorPosLives
import Derived.Test.YtbpejjmfdhkfhaaGreatDoorPosPlayed
import Derived.IntWalk
set_option linter.unusedVariables false
set_option linter.unusedSimpArgs false
namespace Go.Proofs.YtbpejjmfdhkfhaaGreatDoor
open Go.RowKit

theorem less_any (x y : Int) (w : World) : Calls Tryz.prog 98 #[.int .i64 x, .int .i64 y] w fun e w' => e = .returned (.bool (decide (x < y))) ∧ Below w.heap.size w w' := by
  by_cases h : x < y
  · rw [decide_eq_true h]
    go_enter Tryz.func98, Tryz.ntmps98
    go_wp2_with fail
    refine (nan_any x w).mono ?_
    rintro e w1 ⟨rfl, hb1⟩
    have HB := Lib.hid hb1
    clear hb1
    go_wp2
    go_ret
    exact ⟨rfl, HB.out⟩
  · rw [decide_eq_false h]
    have h' : y ≤ x := by omega
    have hd := decide_eq_false h
    clear h
    go_enter Tryz.func98, Tryz.ntmps98
    go_wp2_with fail
    refine (nan_any x w).mono ?_
    rintro e w1 ⟨rfl, hb1⟩
    have HB := Lib.hid hb1
    clear hb1
    go_wp2
    go_ret
    exact ⟨rfl, HB.out⟩

set_option maxHeartbeats 1000000 in
theorem sorted_any (g : Nat) (x y z : Int) (w : World) (h0 : w.cell? ⟨g, 0, none⟩ = some (.int .i64 x)) (h1 : w.cell? ⟨g, 1, none⟩ = some (.int .i64 y)) (h2 : w.cell? ⟨g, 2, none⟩ = some (.int .i64 z)) :
    Calls Tryz.prog 83 #[.slice (some ⟨g, 0, none⟩) 3 3] w (Told w (x ≤ y ∧ y ≤ z)) := by
  have HC := Lib.hid fun W (hW : Below w.heap.size w W) => show W.cell? ⟨g, 0, none⟩ = some (.int .i64 x) ∧ W.cell? ⟨g, 1, none⟩ = some (.int .i64 y) ∧ W.cell? ⟨g, 2, none⟩ = some (.int .i64 z) from by
    have hg := World.block_lt_of_cell? w ⟨g, 0, none⟩ h0
    exact ⟨(hW.cell (p := ⟨g, 0, none⟩) hg).trans h0, (hW.cell (p := ⟨g, 1, none⟩) hg).trans h1, (hW.cell (p := ⟨g, 2, none⟩) hg).trans h2⟩
  have hs0 : w.drew.cell? ⟨g, 1, none⟩ = some (.int .i64 y) ∧ w.drew.cell? ⟨g, 2, none⟩ = some (.int .i64 z) := ⟨h1, h2⟩
  have hw1 : IntKind.i64.wrap ((2 : Int) - 1) = 1 := (IntWalk.i64_in _ (by omega)).trans rfl
  have hw0 : IntKind.i64.wrap ((1 : Int) - 1) = 0 := (IntWalk.i64_in _ (by omega)).trans rfl
  have hw2 : IntKind.i64.wrap (1 : Int) = 1 := IntWalk.i64_in _ (by omega)
  have hw3 : IntKind.i64.wrap (0 : Int) = 0 := IntWalk.i64_in _ (by omega)
  clear h0 h1 h2
  go_enter Tryz.func83, Tryz.ntmps83
  go_wp2
  refine wp_loop_rounds 3 ?_
  rw [rounds_succ]
  go_upto_region 4 with fail
  go_region_held3 (fun w' => w'.cell? ⟨g, 1, none⟩ = some (.int .i64 y) ∧ w'.cell? ⟨g, 2, none⟩ = some (.int .i64 z)) (first | exact hs0 | exact hs1 | go_keep) (first | (go_at_call 98; refine (less_any z y _).mono ?_; rintro e w1 ⟨rfl, hb1⟩; have HB1 := Lib.hid ((Below.refl w.heap.size w).drew.trans hb1); have hs1 := (HC.out w1 HB1.out).2))
  clear hs0 hs1 hb1
  by_cases h : z < y
  · rw [decide_eq_true h]
    have HN : Hid (¬ (x ≤ y ∧ y ≤ z)) := Lib.hid (by omega)
    clear h
    try simp only [Exit.then]
    go_wp2
    go_ret
    exact ⟨false, rfl, iff_of_false (by simp) HN.out, HB1.out⟩
  · rw [decide_eq_false h]
    have HY := Lib.hid h
    clear h
    try simp only [Exit.then]
    go_wp2
    rw [rounds_succ]
    have hs0 : w1.drew.cell? ⟨g, 0, none⟩ = some (.int .i64 x) ∧ w1.drew.cell? ⟨g, 1, none⟩ = some (.int .i64 y) := ⟨(HC.out w1 HB1.out).1, (HC.out w1 HB1.out).2.1⟩
    go_upto_region 4 with fail
    go_region_held3 (fun w' => w'.cell? ⟨g, 0, none⟩ = some (.int .i64 x) ∧ w'.cell? ⟨g, 1, none⟩ = some (.int .i64 y)) (first | exact hs0 | exact hs2 | go_keep) (first | (go_at_call 98; refine (less_any y x _).mono ?_; rintro e w2 ⟨rfl, hb2⟩; have HB2 := Lib.hid (HB1.out.trans (((Below.refl w1.heap.size w1).drew.trans hb2).mono HB1.out.size)); have hs2 := And.intro (HC.out w2 HB2.out).1 (HC.out w2 HB2.out).2.1))
    clear hs0 hs2 hb2
    by_cases h : y < x
    · rw [decide_eq_true h]
      have HN : Hid (¬ (x ≤ y ∧ y ≤ z)) := Lib.hid (by omega)
      clear h
      try simp only [Exit.then]
      go_wp2
      go_ret
      exact ⟨false, rfl, iff_of_false (by simp) HN.out, HB2.out⟩
    · rw [decide_eq_false h]
      have HN : Hid (x ≤ y ∧ y ≤ z) := Lib.hid (by have := HY.out; omega)
      clear h
      try simp only [Exit.then]
      go_wp2
      rw [rounds_succ]
      go_wp2
      go_ret
      exact ⟨true, rfl, iff_of_true rfl HN.out, HB2.out⟩

theorem rises_any (g : Nat) (x y z : Int) (w : World) (h0 : w.cell? ⟨g, 0, none⟩ = some (.int .i64 x)) (h1 : w.cell? ⟨g, 1, none⟩ = some (.int .i64 y)) (h2 : w.cell? ⟨g, 2, none⟩ = some (.int .i64 z)) :
    Calls Tryz.prog 72 #[.slice (some ⟨g, 0, none⟩) 3 3] w (Told w (x ≤ y ∧ y ≤ z)) := by
  have HS := Lib.hid (sorted_any g x y z w h0 h1 h2)
  clear h0 h1 h2
  go_enter Tryz.func72, Tryz.ntmps72
  go_wp2_with fail
  refine HS.out.mono ?_
  rintro e w1 ⟨b, rfl, hb, hw⟩
  have HB := Lib.hid (And.intro hb hw)
  clear hb hw
  go_wp2
  go_ret
  exact ⟨b, rfl, HB.out.1, HB.out.2⟩

/-- an event is done, and it is told whether it fits -/
theorem ev16 {w : World} {g t : Nat} {x : Ev} (h : w.heap[g]? = some (.cells (evC x) t (0, 0))) : w.cell? ⟨g, 0, none⟩ = some (.int .i64 x.cl) ∧ w.cell? ⟨g, 2, none⟩ = some (.int .i64 x.kind) ∧ w.cell? ⟨g, 3, none⟩ = some (.string x.p) ∧ w.cell? ⟨g, 4, none⟩ = some (.string x.p2) ∧ w.cell? ⟨g, 5, none⟩ = some (.int .i64 x.flags) ∧ w.cell? ⟨g, 6, none⟩ = some (.int .i64 x.fd) ∧ w.cell? ⟨g, 7, none⟩ = some (.int .i64 x.off) ∧ w.cell? ⟨g, 8, none⟩ = some (.int .i64 x.n) ∧ w.cell? ⟨g, 9, none⟩ = some (.string x.data) ∧ w.cell? ⟨g, 13, none⟩ = some (.int .i64 x.q.errno) ∧ w.cell? ⟨g, 14, none⟩ = some (.int .i64 x.q.fd) ∧ w.cell? ⟨g, 15, none⟩ = some (.string ⟨x.q.data.toArray⟩) ∧ w.cell? ⟨g, 16, none⟩ = some (.slice x.A x.q.names.length x.c) ∧ w.cell? ⟨g, 17, none⟩ = some (.int .i64 x.q.kind) ∧ w.cell? ⟨g, 18, none⟩ = some (.int .i64 x.q.links) ∧ w.cell? ⟨g, 19, none⟩ = some (.int .i64 x.q.size) :=
  ⟨cell_of_row w g 0 _ t _ h, cell_of_row w g 2 _ t _ h, cell_of_row w g 3 _ t _ h, cell_of_row w g 4 _ t _ h, cell_of_row w g 5 _ t _ h, cell_of_row w g 6 _ t _ h, cell_of_row w g 7 _ t _ h, cell_of_row w g 8 _ t _ h, cell_of_row w g 9 _ t _ h, cell_of_row w g 13 _ t _ h, cell_of_row w g 14 _ t _ h, cell_of_row w g 15 _ t _ h, cell_of_row w g 16 _ t _ h, cell_of_row w g 17 _ t _ h, cell_of_row w g 18 _ t _ h, cell_of_row w g 19 _ t _ h⟩
theorem cells3 {w : World} {g t : Nat} {a0 a1 a2 : Value} (h : w.heap[g]? = some (.cells #[a0, a1, a2] t (0, 0))) : w.cell? ⟨g, 0, none⟩ = some a0 ∧ w.cell? ⟨g, 1, none⟩ = some a1 ∧ w.cell? ⟨g, 2, none⟩ = some a2 :=
  ⟨cell_of_row w g 0 _ t _ h, cell_of_row w g 1 _ t _ h, cell_of_row w g 2 _ t _ h⟩

def FitsSaid [Inhabited XBox] (w0 : World) (pr : Nat) (S : Pz.Fil) (x : Ev) (F : Nat → Prop) (w : World) (e : Ending) (w' : World) : Prop :=
  ∃ (b : Bool) (F' : Nat → Prop), e = .returned (.bool b) ∧ (b = true ↔ Fits S x) ∧ Alone w0 pr (evDo S x).1 F' w' ∧ ∀ g x, Mine F g x w → Mine F' g x w'

set_option maxHeartbeats 4000000 in
set_option maxRecDepth 100000 in
theorem fits_any [Inhabited XBox] {w0 w : World} {pr : Nat} {S : Pz.Fil} {F : Nat → Prop} (h : Alone w0 pr S F w) (x : Ev) (hcl : I64 x.cl) (hfd : I64 x.fd) (hp : x.p.size ≤ 100000) (hp2 : x.p2.size ≤ 100000) (hG : Pz.Good 1000 S) (hN : Nmz w0 x.A x.q.names) (hl : x.q.names.length ≤ 9223372036854775807) (h18 : x.q.errno ≠ 18) (ht : 0 < x.told ∨ x.q.errno = 0) :
    Calls Tryz.prog 50 #[.pointer (some ⟨pr, 0, none⟩), evV x] w (FitsSaid w0 pr S x F w) := by
  obtain ⟨wb, hwb⟩ : ∃ v, v = w.alloc (.cells (evC x) 53) := ⟨_, rfl⟩
  have hbb : Below w.heap.size w wb := by rw [hwb]; exact (Below.refl _ _).alloc (Nat.le_refl _) _
  have hM0 := Mine.make h (evC x) 53
  rw [← hwb] at hM0
  obtain ⟨g, hg⟩ : ∃ g, g = w.heap.size := ⟨_, rfl⟩
  rw [← hg] at hM0
  have HG0 := Lib.hid hg.symm
  have HM := Lib.hid hM0
  have HKb := Lib.hid fun g x (hm : Mine F g x w) => hm.keep hbb
  have HA := Lib.hid (h.keep hbb)
  have HWb := Lib.hid hwb
  obtain ⟨R, hR⟩ : ∃ R, R = evDo S x := ⟨_, rfl⟩
  have HRS := Lib.hid hR.symm
  have HDo := Lib.hid fun W F (hW : Alone w0 pr S F W) => do_alone hW x.cl x.kind x.flags x.fd x.off x.n x.p x.p2 x.data hcl hfd hp hp2 hG R hR.symm
  have HLr : Hid (R.2.names.length ≤ 9223372036854775807) := Lib.hid (by
    rw [hR]
    have := Pz.do_names S x.cl x.kind x.p.data.toList x.p2.data.toList x.flags x.fd x.off x.n x.data.data.toList
    have := hG.e
    unfold evDo
    omega)
  have HLq := Lib.hid hl
  have HN := Lib.hid hN
  have HFit : Hid (Fits S x ↔ (0 < x.told → x.asked ≤ x.done ∧ x.done ≤ x.told ∧ R.2 = x.q)) := Lib.hid (by rw [hR]; exact Iff.rfl)
  obtain ⟨c0, c1, c2, c3, c4, c5, c6, c7, c8, c9, c10, c11, c12, c13, c14, c15, c16, c17, c18, c19⟩ := evAt_row hM0.1
  have hb18 : ((x.q.errno : Int) == 18) = false := by rw [beq_eq_false_iff_ne]; exact h18
  clear hcl hfd hp hp2 hG hN hl h h18 hR hM0 hg hbb hwb c1
  unfold callV at HDo
  unfold evV evC
  unfold evC at HWb
  go_enter Tryz.func50, Tryz.ntmps50
  go_upto_region 1 with fail
  rw [← HWb.out]
  rw [HG0.out]
  by_cases ht0 : 0 < x.told
  · clear ht
    have HT := Lib.hid ht0
    clear ht0
    have ht1 : (0 : Int) < x.told := HT.out
    obtain ⟨wc, hwc⟩ : ∃ v, v = wb.alloc (.cells #[.int .i64 x.asked, .int .i64 x.done, .int .i64 x.told] 3) := ⟨_, rfl⟩
    have hbc : Below wb.heap.size wb wc := by rw [hwc]; exact (Below.refl _ _).alloc (Nat.le_refl _) _
    have hcc : wc.heap[wb.heap.size]? = some (.cells #[.int .i64 x.asked, .int .i64 x.done, .int .i64 x.told] 3 (0, 0)) := by
      rw [hwc]; exact heap_alloc_new _ _
    obtain ⟨z0, z1, z2⟩ := cells3 hcc
    have HRi := Lib.hid (rises_any wb.heap.size x.asked x.done x.told wc z0 z1 z2)
    have HAc := Lib.hid (HA.out.keep hbc)
    have HMc := Lib.hid (HM.out.keep hbc)
    have HKc := Lib.hid fun g x (hm : Mine F g x w) => (HKb.out g x hm).keep hbc
    have HWc := Lib.hid hwc
    clear hwc hbc hcc z0 z1 z2 HA HM HKb
    go_wp2_with fail
    rw [← HWc.out]
    refine HRi.out.mono ?_
    rintro e wd ⟨r, rfl, hr, hbd⟩
    have HAd0 := Lib.hid (HAc.out.keep hbd)
    have HMd0 := Lib.hid (HMc.out.keep hbd)
    have HKeep := Lib.hid fun g x (hm : Mine F g x w) => (HKc.out g x hm).keep hbd
    have HR := Lib.hid hr
    clear hr hbd HAc HMc HKc HRi c0 c2 c3 c4 c5 c6 c7 c8 c9 c10 c11 c12 c13 c14 c15 c16 c17 c18 c19
    obtain ⟨c0, c1, c2, c3, c4, c5, c6, c7, c8, c9, c10, c11, c12, c13, c14, c15, c16, c17, c18, c19⟩ := evAt_row HMd0.out.1
    cases r with
    | false =>
      have HNo : Hid (¬ Fits S x) := Lib.hid fun h => by
        have := (HFit.out.1 h) HT.out
        exact absurd (HR.out.2 ⟨this.1, this.2.1⟩) (by simp)
      go_wp2_with fail
      refine (HDo.out _ _ HAd0.out).mono ?_
      rintro e w5 ⟨A5, k5, F5, rfl, hS5, hA5, hM5⟩
      have HA5 := Lib.hid hA5
      have HM5 := Lib.hid fun g x (hm : Mine F g x w) => hM5 g x (HKeep.out g x hm)
      clear hS5 hA5 hM5 c0 c2 c3 c4 c5 c6 c7 c8 c9 c10 c11 c12 c13 c14 c15 c16 c17 c18 c19 c1
      go_wp2
      go_ret
      exact ⟨false, F5, rfl, iff_of_false (by simp) HNo.out, (by rw [HRS.out]; exact HA5.out), HM5.out⟩
    | true =>
      have HAd := Lib.hid (HAd0.out.keep (Below.refl _ wd).drew)
      have HMd := Lib.hid (HMd0.out.keep (Below.refl _ wd).drew)
      have hs0 := ev16 HMd.out.1
      have hq := Classical.em (R.2 = x.q)
      rcases hq with hq | hq
      · have Hq := Lib.hid hq
        clear hq
        go_upto_region 7 with fail
        refine wp_region_held_drew (S := (fun w' => w'.cell? ⟨g, 0, none⟩ = some (.int .i64 x.cl) ∧ w'.cell? ⟨g, 2, none⟩ = some (.int .i64 x.kind) ∧ w'.cell? ⟨g, 3, none⟩ = some (.string x.p) ∧ w'.cell? ⟨g, 4, none⟩ = some (.string x.p2) ∧ w'.cell? ⟨g, 5, none⟩ = some (.int .i64 x.flags) ∧ w'.cell? ⟨g, 6, none⟩ = some (.int .i64 x.fd) ∧ w'.cell? ⟨g, 7, none⟩ = some (.int .i64 x.off) ∧ w'.cell? ⟨g, 8, none⟩ = some (.int .i64 x.n) ∧ w'.cell? ⟨g, 9, none⟩ = some (.string x.data) ∧ w'.cell? ⟨g, 13, none⟩ = some (.int .i64 x.q.errno) ∧ w'.cell? ⟨g, 14, none⟩ = some (.int .i64 x.q.fd) ∧ w'.cell? ⟨g, 15, none⟩ = some (.string ⟨x.q.data.toArray⟩) ∧ w'.cell? ⟨g, 16, none⟩ = some (.slice x.A x.q.names.length x.c) ∧ w'.cell? ⟨g, 17, none⟩ = some (.int .i64 x.q.kind) ∧ w'.cell? ⟨g, 18, none⟩ = some (.int .i64 x.q.links) ∧ w'.cell? ⟨g, 19, none⟩ = some (.int .i64 x.q.size))) (by kernel_rfl) ?_ (fun hHeld => ?_)
        · exact hs0
        refine wpAnyH_take (i := 0) (oi := _) (v := ?_) rfl (by kernel_rfl) (by kernel_rfl) (by kernel_rfl) (fun _ _ _ h => h) (Or.inl ⟨by rfl, ?_⟩) (by assumption) ?_
        rotate_left
        · intro w hSw
          (try dsimp only at hSw)
          first | (go_simp; done) | (go_simp; with_reducible rfl)
        try simp only [List.getElem_toArray, List.getElem_cons_succ, List.getElem_cons_zero, Act.put, List.setIfInBounds_toArray, List.set_cons_zero, List.set_cons_succ]
        refine wpAnyH_take (i := 1) (oi := _) (v := ?_) rfl (by kernel_rfl) (by kernel_rfl) (by kernel_rfl) (fun _ _ _ h => h) (Or.inl ⟨by rfl, ?_⟩) (by assumption) ?_
        rotate_left
        · intro w hSw
          (try dsimp only at hSw)
          first | (go_simp; done) | (go_simp; with_reducible rfl)
        try simp only [List.getElem_toArray, List.getElem_cons_succ, List.getElem_cons_zero, Act.put, List.setIfInBounds_toArray, List.set_cons_zero, List.set_cons_succ]
        refine wpAnyH_take (i := 2) (oi := _) (v := ?_) rfl (by kernel_rfl) (by kernel_rfl) (by kernel_rfl) (fun _ _ _ h => h) (Or.inl ⟨by rfl, ?_⟩) (by assumption) ?_
        rotate_left
        · intro w hSw
          (try dsimp only at hSw)
          first | (go_simp; done) | (go_simp; with_reducible rfl)
        try simp only [List.getElem_toArray, List.getElem_cons_succ, List.getElem_cons_zero, Act.put, List.setIfInBounds_toArray, List.set_cons_zero, List.set_cons_succ]
        refine wpAnyH_take (i := 3) (oi := _) (v := ?_) rfl (by kernel_rfl) (by kernel_rfl) (by kernel_rfl) (fun _ _ _ h => h) (Or.inl ⟨by rfl, ?_⟩) (by assumption) ?_
        rotate_left
        · intro w hSw
          (try dsimp only at hSw)
          first | (go_simp; done) | (go_simp; with_reducible rfl)
        try simp only [List.getElem_toArray, List.getElem_cons_succ, List.getElem_cons_zero, Act.put, List.setIfInBounds_toArray, List.set_cons_zero, List.set_cons_succ]
        refine wpAnyH_take (i := 4) (oi := _) (v := ?_) rfl (by kernel_rfl) (by kernel_rfl) (by kernel_rfl) (fun _ _ _ h => h) (Or.inl ⟨by rfl, ?_⟩) (by assumption) ?_
        rotate_left
        · intro w hSw
          (try dsimp only at hSw)
          first | (go_simp; done) | (go_simp; with_reducible rfl)
        try simp only [List.getElem_toArray, List.getElem_cons_succ, List.getElem_cons_zero, Act.put, List.setIfInBounds_toArray, List.set_cons_zero, List.set_cons_succ]
        refine wpAnyH_take (i := 5) (oi := _) (v := ?_) rfl (by kernel_rfl) (by kernel_rfl) (by kernel_rfl) (fun _ _ _ h => h) (Or.inl ⟨by rfl, ?_⟩) (by assumption) ?_
        rotate_left
        · intro w hSw
          (try dsimp only at hSw)
          first | (go_simp; done) | (go_simp; with_reducible rfl)
        try simp only [List.getElem_toArray, List.getElem_cons_succ, List.getElem_cons_zero, Act.put, List.setIfInBounds_toArray, List.set_cons_zero, List.set_cons_succ]
        refine wpAnyH_take (i := 6) (oi := _) (v := ?_) rfl (by kernel_rfl) (by kernel_rfl) (by kernel_rfl) (fun _ _ _ h => h) (Or.inl ⟨by rfl, ?_⟩) (by assumption) ?_
        rotate_left
        · intro w hSw
          (try dsimp only at hSw)
          first | (go_simp; done) | (go_simp; with_reducible rfl)
        try simp only [List.getElem_toArray, List.getElem_cons_succ, List.getElem_cons_zero, Act.put, List.setIfInBounds_toArray, List.set_cons_zero, List.set_cons_succ]
        refine wpAnyH_take (i := 8) (oi := _) (v := ?_) rfl (by kernel_rfl) (by kernel_rfl) (by kernel_rfl) (fun _ _ _ h => h) (Or.inl ⟨by rfl, ?_⟩) (by assumption) ?_
        rotate_left
        · intro w hSw
          (try dsimp only at hSw)
          first | (go_simp; done) | (go_simp; with_reducible rfl)
        try simp only [List.getElem_toArray, List.getElem_cons_succ, List.getElem_cons_zero, Act.put, List.setIfInBounds_toArray, List.set_cons_zero, List.set_cons_succ]
        refine wpAnyH_take (i := 9) (oi := _) (v := ?_) rfl (by kernel_rfl) (by kernel_rfl) (by kernel_rfl) (fun _ _ _ h => h) (Or.inl ⟨by rfl, ?_⟩) (by assumption) ?_
        rotate_left
        · intro w hSw
          (try dsimp only at hSw)
          first | (go_simp; done) | (go_simp; with_reducible rfl)
        try simp only [List.getElem_toArray, List.getElem_cons_succ, List.getElem_cons_zero, Act.put, List.setIfInBounds_toArray, List.set_cons_zero, List.set_cons_succ]
        refine wpAnyH_ready (rs := [7]) (by kernel_rfl) (by simp) ?_
        refine AllReadyH.cons (o := _) rfl (fun K hK => ?_) AllReadyH.nil
        go_simp
        go_at_call 7
        refine (HDo.out _ _ HAd.out).mono ?_
        rintro e w5 ⟨A5, k5, F5, rfl, hS5, hA5, hM5⟩
        have HA5 := Lib.hid hA5
        have HS5 := Lib.hid hS5
        have HM5 := Lib.hid (hM5 _ _ HMd.out)
        have HMx5 := Lib.hid hM5
        clear hS5 hA5 hM5
        dsimp only
        refine hK.out _ _ (ev16 HM5.out.1) (fun hHeld => ?_)
        clear hK K
        try simp only [List.getElem_toArray, List.getElem_cons_succ, List.getElem_cons_zero, Act.put, List.setIfInBounds_toArray, List.set_cons_zero, List.set_cons_succ]
        refine wpAnyH_ready (rs := [10]) (by kernel_rfl) (by simp) ?_
        refine AllReadyH.cons (o := _) rfl (fun K hK => ?_) AllReadyH.nil
        go_simp
        go_at_call 73
        refine (asame_any R.2 x.q A5 x.A k5 x.c w5 HLr.out HLq.out HS5.out.nmz (HN.out.keep HA5.out.below)).mono ?_
        rintro e w6 ⟨b6, rfl, hb6, hw6⟩
        obtain rfl : b6 = true := hb6.2 Hq.out
        have HA6 := Lib.hid (HA5.out.keep hw6)
        have HMx6 : Hid (∀ g x, Mine F g x w → Mine F5 g x w6) := Lib.hid (fun g x hm => (HMx5.out g x ((HKeep.out g x hm).keep (Below.refl _ wd).drew)).keep hw6)
        have HM6 := Lib.hid (HM5.out.keep hw6)
        clear hb6 hw6
        dsimp only
        refine hK.out _ _ (ev16 HM6.out.1) (fun hHeld => ?_)
        clear hK K
        try simp only [List.getElem_toArray, List.getElem_cons_succ, List.getElem_cons_zero, Act.put, List.setIfInBounds_toArray, List.set_cons_zero, List.set_cons_succ]
        refine wpAnyH_take (i := 11) (oi := _) (v := ?_) rfl (by kernel_rfl) (by kernel_rfl) (by kernel_rfl) (fun _ _ _ h => h) (Or.inl ⟨by rfl, ?_⟩) (by assumption) ?_
        rotate_left
        · intro w hSw
          (try dsimp only at hSw)
          first | (go_simp; done) | (go_simp; with_reducible rfl)
        try simp only [List.getElem_toArray, List.getElem_cons_succ, List.getElem_cons_zero, Act.put, List.setIfInBounds_toArray, List.set_cons_zero, List.set_cons_succ]
        refine wpAnyH_take (i := 12) (oi := _) (v := ?_) rfl (by kernel_rfl) (by kernel_rfl) (by kernel_rfl) (fun _ _ _ h => h) (Or.inl ⟨by rfl, ?_⟩) (by assumption) ?_
        rotate_left
        · intro w hSw
          (try dsimp only at hSw)
          first | (go_simp; done) | (go_simp; with_reducible rfl)
        try simp only [List.getElem_toArray, List.getElem_cons_succ, List.getElem_cons_zero, Act.put, List.setIfInBounds_toArray, List.set_cons_zero, List.set_cons_succ]
        refine wpAnyH_take (i := 13) (oi := _) (v := undef) rfl (by kernel_rfl) (by kernel_rfl) (by kernel_rfl) (fun _ _ _ h => h) (Or.inr ⟨by rfl, rfl⟩) (by assumption) ?_
        try simp only [List.getElem_toArray, List.getElem_cons_succ, List.getElem_cons_zero, Act.put, List.setIfInBounds_toArray, List.set_cons_zero, List.set_cons_succ]
        refine wpAnyH_take (i := 14) (oi := _) (v := undef) rfl (by kernel_rfl) (by kernel_rfl) (by kernel_rfl) (fun _ _ _ h => h) (Or.inr ⟨by rfl, rfl⟩) (by assumption) ?_
        try simp only [List.getElem_toArray, List.getElem_cons_succ, List.getElem_cons_zero, Act.put, List.setIfInBounds_toArray, List.set_cons_zero, List.set_cons_succ]
        refine wpAnyH_take (i := 15) (oi := _) (v := ?_) rfl (by kernel_rfl) (by kernel_rfl) (by kernel_rfl) (fun _ _ _ h => h) (Or.inl ⟨by rfl, ?_⟩) (by assumption) ?_
        rotate_left
        · intro w hSw
          (try dsimp only at hSw)
          first | (go_simp; done) | (go_simp; with_reducible rfl)
        try simp only [List.getElem_toArray, List.getElem_cons_succ, List.getElem_cons_zero, Act.put, List.setIfInBounds_toArray, List.set_cons_zero, List.set_cons_succ]
        refine wpAnyH_take (i := 16) (oi := _) (v := ?_) rfl (by kernel_rfl) (by kernel_rfl) (by kernel_rfl) (fun _ _ _ h => h) (Or.inl ⟨by rfl, ?_⟩) (by assumption) ?_
        rotate_left
        · intro w hSw
          (try dsimp only at hSw)
          first | (go_simp; done) | (go_simp; with_reducible rfl)
        try simp only [List.getElem_toArray, List.getElem_cons_succ, List.getElem_cons_zero, Act.put, List.setIfInBounds_toArray, List.set_cons_zero, List.set_cons_succ]
        refine wpAnyH_done (by kernel_rfl) ?_ _
        simp only [Exit.then]
        have HYes : Hid (Fits S x) := Lib.hid (HFit.out.2 fun _ => ⟨(HR.out.1 (by simp)).1, (HR.out.1 (by simp)).2, Hq.out⟩)
        go_wp2
        go_ret
        exact ⟨true, F5, rfl, iff_of_true rfl HYes.out, (by rw [HRS.out]; exact HA6.out), HMx6.out⟩
      · have Hq := Lib.hid hq
        clear hq
        go_upto_region 7 with fail
        refine wp_region_held_drew (S := (fun w' => w'.cell? ⟨g, 0, none⟩ = some (.int .i64 x.cl) ∧ w'.cell? ⟨g, 2, none⟩ = some (.int .i64 x.kind) ∧ w'.cell? ⟨g, 3, none⟩ = some (.string x.p) ∧ w'.cell? ⟨g, 4, none⟩ = some (.string x.p2) ∧ w'.cell? ⟨g, 5, none⟩ = some (.int .i64 x.flags) ∧ w'.cell? ⟨g, 6, none⟩ = some (.int .i64 x.fd) ∧ w'.cell? ⟨g, 7, none⟩ = some (.int .i64 x.off) ∧ w'.cell? ⟨g, 8, none⟩ = some (.int .i64 x.n) ∧ w'.cell? ⟨g, 9, none⟩ = some (.string x.data) ∧ w'.cell? ⟨g, 13, none⟩ = some (.int .i64 x.q.errno) ∧ w'.cell? ⟨g, 14, none⟩ = some (.int .i64 x.q.fd) ∧ w'.cell? ⟨g, 15, none⟩ = some (.string ⟨x.q.data.toArray⟩) ∧ w'.cell? ⟨g, 16, none⟩ = some (.slice x.A x.q.names.length x.c) ∧ w'.cell? ⟨g, 17, none⟩ = some (.int .i64 x.q.kind) ∧ w'.cell? ⟨g, 18, none⟩ = some (.int .i64 x.q.links) ∧ w'.cell? ⟨g, 19, none⟩ = some (.int .i64 x.q.size))) (by kernel_rfl) ?_ (fun hHeld => ?_)
        · exact hs0
        refine wpAnyH_take (i := 0) (oi := _) (v := ?_) rfl (by kernel_rfl) (by kernel_rfl) (by kernel_rfl) (fun _ _ _ h => h) (Or.inl ⟨by rfl, ?_⟩) (by assumption) ?_
        rotate_left
        · intro w hSw
          (try dsimp only at hSw)
          first | (go_simp; done) | (go_simp; with_reducible rfl)
        try simp only [List.getElem_toArray, List.getElem_cons_succ, List.getElem_cons_zero, Act.put, List.setIfInBounds_toArray, List.set_cons_zero, List.set_cons_succ]
        refine wpAnyH_take (i := 1) (oi := _) (v := ?_) rfl (by kernel_rfl) (by kernel_rfl) (by kernel_rfl) (fun _ _ _ h => h) (Or.inl ⟨by rfl, ?_⟩) (by assumption) ?_
        rotate_left
        · intro w hSw
          (try dsimp only at hSw)
          first | (go_simp; done) | (go_simp; with_reducible rfl)
        try simp only [List.getElem_toArray, List.getElem_cons_succ, List.getElem_cons_zero, Act.put, List.setIfInBounds_toArray, List.set_cons_zero, List.set_cons_succ]
        refine wpAnyH_take (i := 2) (oi := _) (v := ?_) rfl (by kernel_rfl) (by kernel_rfl) (by kernel_rfl) (fun _ _ _ h => h) (Or.inl ⟨by rfl, ?_⟩) (by assumption) ?_
        rotate_left
        · intro w hSw
          (try dsimp only at hSw)
          first | (go_simp; done) | (go_simp; with_reducible rfl)
        try simp only [List.getElem_toArray, List.getElem_cons_succ, List.getElem_cons_zero, Act.put, List.setIfInBounds_toArray, List.set_cons_zero, List.set_cons_succ]
        refine wpAnyH_take (i := 3) (oi := _) (v := ?_) rfl (by kernel_rfl) (by kernel_rfl) (by kernel_rfl) (fun _ _ _ h => h) (Or.inl ⟨by rfl, ?_⟩) (by assumption) ?_
        rotate_left
        · intro w hSw
          (try dsimp only at hSw)
          first | (go_simp; done) | (go_simp; with_reducible rfl)
        try simp only [List.getElem_toArray, List.getElem_cons_succ, List.getElem_cons_zero, Act.put, List.setIfInBounds_toArray, List.set_cons_zero, List.set_cons_succ]
        refine wpAnyH_take (i := 4) (oi := _) (v := ?_) rfl (by kernel_rfl) (by kernel_rfl) (by kernel_rfl) (fun _ _ _ h => h) (Or.inl ⟨by rfl, ?_⟩) (by assumption) ?_
        rotate_left
        · intro w hSw
          (try dsimp only at hSw)
          first | (go_simp; done) | (go_simp; with_reducible rfl)
        try simp only [List.getElem_toArray, List.getElem_cons_succ, List.getElem_cons_zero, Act.put, List.setIfInBounds_toArray, List.set_cons_zero, List.set_cons_succ]
        refine wpAnyH_take (i := 5) (oi := _) (v := ?_) rfl (by kernel_rfl) (by kernel_rfl) (by kernel_rfl) (fun _ _ _ h => h) (Or.inl ⟨by rfl, ?_⟩) (by assumption) ?_
        rotate_left
        · intro w hSw
          (try dsimp only at hSw)
          first | (go_simp; done) | (go_simp; with_reducible rfl)
        try simp only [List.getElem_toArray, List.getElem_cons_succ, List.getElem_cons_zero, Act.put, List.setIfInBounds_toArray, List.set_cons_zero, List.set_cons_succ]
        refine wpAnyH_take (i := 6) (oi := _) (v := ?_) rfl (by kernel_rfl) (by kernel_rfl) (by kernel_rfl) (fun _ _ _ h => h) (Or.inl ⟨by rfl, ?_⟩) (by assumption) ?_
        rotate_left
        · intro w hSw
          (try dsimp only at hSw)
          first | (go_simp; done) | (go_simp; with_reducible rfl)
        try simp only [List.getElem_toArray, List.getElem_cons_succ, List.getElem_cons_zero, Act.put, List.setIfInBounds_toArray, List.set_cons_zero, List.set_cons_succ]
        refine wpAnyH_take (i := 8) (oi := _) (v := ?_) rfl (by kernel_rfl) (by kernel_rfl) (by kernel_rfl) (fun _ _ _ h => h) (Or.inl ⟨by rfl, ?_⟩) (by assumption) ?_
        rotate_left
        · intro w hSw
          (try dsimp only at hSw)
          first | (go_simp; done) | (go_simp; with_reducible rfl)
        try simp only [List.getElem_toArray, List.getElem_cons_succ, List.getElem_cons_zero, Act.put, List.setIfInBounds_toArray, List.set_cons_zero, List.set_cons_succ]
        refine wpAnyH_take (i := 9) (oi := _) (v := ?_) rfl (by kernel_rfl) (by kernel_rfl) (by kernel_rfl) (fun _ _ _ h => h) (Or.inl ⟨by rfl, ?_⟩) (by assumption) ?_
        rotate_left
        · intro w hSw
          (try dsimp only at hSw)
          first | (go_simp; done) | (go_simp; with_reducible rfl)
        try simp only [List.getElem_toArray, List.getElem_cons_succ, List.getElem_cons_zero, Act.put, List.setIfInBounds_toArray, List.set_cons_zero, List.set_cons_succ]
        refine wpAnyH_ready (rs := [7]) (by kernel_rfl) (by simp) ?_
        refine AllReadyH.cons (o := _) rfl (fun K hK => ?_) AllReadyH.nil
        go_simp
        go_at_call 7
        refine (HDo.out _ _ HAd.out).mono ?_
        rintro e w5 ⟨A5, k5, F5, rfl, hS5, hA5, hM5⟩
        have HA5 := Lib.hid hA5
        have HS5 := Lib.hid hS5
        have HM5 := Lib.hid (hM5 _ _ HMd.out)
        have HMx5 := Lib.hid hM5
        clear hS5 hA5 hM5
        dsimp only
        refine hK.out _ _ (ev16 HM5.out.1) (fun hHeld => ?_)
        clear hK K
        try simp only [List.getElem_toArray, List.getElem_cons_succ, List.getElem_cons_zero, Act.put, List.setIfInBounds_toArray, List.set_cons_zero, List.set_cons_succ]
        refine wpAnyH_ready (rs := [10]) (by kernel_rfl) (by simp) ?_
        refine AllReadyH.cons (o := _) rfl (fun K hK => ?_) AllReadyH.nil
        go_simp
        go_at_call 73
        refine (asame_any R.2 x.q A5 x.A k5 x.c w5 HLr.out HLq.out HS5.out.nmz (HN.out.keep HA5.out.below)).mono ?_
        rintro e w6 ⟨b6, rfl, hb6, hw6⟩
        obtain rfl : b6 = false := Bool.eq_false_iff.2 fun h => Hq.out (hb6.1 h)
        have HA6 := Lib.hid (HA5.out.keep hw6)
        have HMx6 : Hid (∀ g x, Mine F g x w → Mine F5 g x w6) := Lib.hid (fun g x hm => (HMx5.out g x ((HKeep.out g x hm).keep (Below.refl _ wd).drew)).keep hw6)
        have HM6 := Lib.hid (HM5.out.keep hw6)
        clear hb6 hw6
        dsimp only
        refine hK.out _ _ (ev16 HM6.out.1) (fun hHeld => ?_)
        clear hK K
        try simp only [List.getElem_toArray, List.getElem_cons_succ, List.getElem_cons_zero, Act.put, List.setIfInBounds_toArray, List.set_cons_zero, List.set_cons_succ]
        refine wpAnyH_take (i := 11) (oi := _) (v := ?_) rfl (by kernel_rfl) (by kernel_rfl) (by kernel_rfl) (fun _ _ _ h => h) (Or.inl ⟨by rfl, ?_⟩) (by assumption) ?_
        rotate_left
        · intro w hSw
          (try dsimp only at hSw)
          first | (go_simp; done) | (go_simp; with_reducible rfl)
        try simp only [List.getElem_toArray, List.getElem_cons_succ, List.getElem_cons_zero, Act.put, List.setIfInBounds_toArray, List.set_cons_zero, List.set_cons_succ]
        refine wpAnyH_take (i := 12) (oi := _) (v := ?_) rfl (by kernel_rfl) (by kernel_rfl) (by kernel_rfl) (fun _ _ _ h => h) (Or.inl ⟨by rfl, ?_⟩) (by assumption) ?_
        rotate_left
        · intro w hSw
          (try dsimp only at hSw)
          first | (go_simp; done) | (go_simp; with_reducible rfl)
        try simp only [List.getElem_toArray, List.getElem_cons_succ, List.getElem_cons_zero, Act.put, List.setIfInBounds_toArray, List.set_cons_zero, List.set_cons_succ]
        refine wpAnyH_take (i := 13) (oi := _) (v := ?_) rfl (by kernel_rfl) (by kernel_rfl) (by kernel_rfl) (fun _ _ _ h => h) (Or.inl ⟨by rfl, ?_⟩) (by assumption) ?_
        rotate_left
        · intro w hSw
          (try dsimp only at hSw)
          first | (go_simp; done) | (go_simp; with_reducible rfl)
        try simp only [List.getElem_toArray, List.getElem_cons_succ, List.getElem_cons_zero, Act.put, List.setIfInBounds_toArray, List.set_cons_zero, List.set_cons_succ]
        refine wpAnyH_take (i := 14) (oi := _) (v := ?_) rfl (by kernel_rfl) (by kernel_rfl) (by kernel_rfl) (fun _ _ _ h => h) (Or.inl ⟨by rfl, ?_⟩) (by assumption) ?_
        rotate_left
        · intro w hSw
          (try dsimp only at hSw)
          first | (go_simp; done) | (go_simp; with_reducible rfl)
        try simp only [List.getElem_toArray, List.getElem_cons_succ, List.getElem_cons_zero, Act.put, List.setIfInBounds_toArray, List.set_cons_zero, List.set_cons_succ]
        refine wpAnyH_take (i := 15) (oi := _) (v := ?_) rfl (by kernel_rfl) (by kernel_rfl) (by kernel_rfl) (fun _ _ _ h => h) (Or.inl ⟨by rfl, ?_⟩) (by assumption) ?_
        rotate_left
        · intro w hSw
          (try dsimp only at hSw)
          first | (go_simp; done) | (go_simp; with_reducible rfl)
        try simp only [List.getElem_toArray, List.getElem_cons_succ, List.getElem_cons_zero, Act.put, List.setIfInBounds_toArray, List.set_cons_zero, List.set_cons_succ]
        refine wpAnyH_take (i := 16) (oi := _) (v := ?_) rfl (by kernel_rfl) (by kernel_rfl) (by kernel_rfl) (fun _ _ _ h => h) (Or.inl ⟨by rfl, ?_⟩) (by assumption) ?_
        rotate_left
        · intro w hSw
          (try dsimp only at hSw)
          first | (go_simp; done) | (go_simp; with_reducible rfl)
        try simp only [List.getElem_toArray, List.getElem_cons_succ, List.getElem_cons_zero, Act.put, List.setIfInBounds_toArray, List.set_cons_zero, List.set_cons_succ]
        refine wpAnyH_done (by kernel_rfl) ?_ _
        simp only [Exit.then]
        have HYes : Hid (¬ Fits S x) := Lib.hid (fun h => Hq.out ((HFit.out.1 h) HT.out).2.2)
        go_wp2
        go_ret
        exact ⟨false, F5, rfl, iff_of_false (by simp) HYes.out, (by rw [HRS.out]; exact HA6.out), HMx6.out⟩
  · have he0 := ht.resolve_left ht0
    have hne0 : ((x.q.errno : Int) != 0) = false := by rw [he0]; rfl
    have HT := Lib.hid ht0
    have ht1 : x.told ≤ (0 : Int) := by omega
    have HKeep := HKb
    clear ht ht0 he0
    have HAd := Lib.hid (HA.out.keep (Below.refl _ wb).drew)
    have HMd := Lib.hid (HM.out.keep (Below.refl _ wb).drew)
    have hs0 := ev16 HMd.out.1
    have hq := Classical.em (R.2 = x.q)
    rcases hq with hq | hq
    · have Hq := Lib.hid hq
      clear hq
      go_upto_region 7 with fail
      refine wp_region_held_drew (S := (fun w' => w'.cell? ⟨g, 0, none⟩ = some (.int .i64 x.cl) ∧ w'.cell? ⟨g, 2, none⟩ = some (.int .i64 x.kind) ∧ w'.cell? ⟨g, 3, none⟩ = some (.string x.p) ∧ w'.cell? ⟨g, 4, none⟩ = some (.string x.p2) ∧ w'.cell? ⟨g, 5, none⟩ = some (.int .i64 x.flags) ∧ w'.cell? ⟨g, 6, none⟩ = some (.int .i64 x.fd) ∧ w'.cell? ⟨g, 7, none⟩ = some (.int .i64 x.off) ∧ w'.cell? ⟨g, 8, none⟩ = some (.int .i64 x.n) ∧ w'.cell? ⟨g, 9, none⟩ = some (.string x.data) ∧ w'.cell? ⟨g, 13, none⟩ = some (.int .i64 x.q.errno) ∧ w'.cell? ⟨g, 14, none⟩ = some (.int .i64 x.q.fd) ∧ w'.cell? ⟨g, 15, none⟩ = some (.string ⟨x.q.data.toArray⟩) ∧ w'.cell? ⟨g, 16, none⟩ = some (.slice x.A x.q.names.length x.c) ∧ w'.cell? ⟨g, 17, none⟩ = some (.int .i64 x.q.kind) ∧ w'.cell? ⟨g, 18, none⟩ = some (.int .i64 x.q.links) ∧ w'.cell? ⟨g, 19, none⟩ = some (.int .i64 x.q.size))) (by kernel_rfl) ?_ (fun hHeld => ?_)
      · exact hs0
      refine wpAnyH_take (i := 0) (oi := _) (v := ?_) rfl (by kernel_rfl) (by kernel_rfl) (by kernel_rfl) (fun _ _ _ h => h) (Or.inl ⟨by rfl, ?_⟩) (by assumption) ?_
      rotate_left
      · intro w hSw
        (try dsimp only at hSw)
        first | (go_simp; done) | (go_simp; with_reducible rfl)
      try simp only [List.getElem_toArray, List.getElem_cons_succ, List.getElem_cons_zero, Act.put, List.setIfInBounds_toArray, List.set_cons_zero, List.set_cons_succ]
      refine wpAnyH_take (i := 1) (oi := _) (v := ?_) rfl (by kernel_rfl) (by kernel_rfl) (by kernel_rfl) (fun _ _ _ h => h) (Or.inl ⟨by rfl, ?_⟩) (by assumption) ?_
      rotate_left
      · intro w hSw
        (try dsimp only at hSw)
        first | (go_simp; done) | (go_simp; with_reducible rfl)
      try simp only [List.getElem_toArray, List.getElem_cons_succ, List.getElem_cons_zero, Act.put, List.setIfInBounds_toArray, List.set_cons_zero, List.set_cons_succ]
      refine wpAnyH_take (i := 2) (oi := _) (v := ?_) rfl (by kernel_rfl) (by kernel_rfl) (by kernel_rfl) (fun _ _ _ h => h) (Or.inl ⟨by rfl, ?_⟩) (by assumption) ?_
      rotate_left
      · intro w hSw
        (try dsimp only at hSw)
        first | (go_simp; done) | (go_simp; with_reducible rfl)
      try simp only [List.getElem_toArray, List.getElem_cons_succ, List.getElem_cons_zero, Act.put, List.setIfInBounds_toArray, List.set_cons_zero, List.set_cons_succ]
      refine wpAnyH_take (i := 3) (oi := _) (v := ?_) rfl (by kernel_rfl) (by kernel_rfl) (by kernel_rfl) (fun _ _ _ h => h) (Or.inl ⟨by rfl, ?_⟩) (by assumption) ?_
      rotate_left
      · intro w hSw
        (try dsimp only at hSw)
        first | (go_simp; done) | (go_simp; with_reducible rfl)
      try simp only [List.getElem_toArray, List.getElem_cons_succ, List.getElem_cons_zero, Act.put, List.setIfInBounds_toArray, List.set_cons_zero, List.set_cons_succ]
      refine wpAnyH_take (i := 4) (oi := _) (v := ?_) rfl (by kernel_rfl) (by kernel_rfl) (by kernel_rfl) (fun _ _ _ h => h) (Or.inl ⟨by rfl, ?_⟩) (by assumption) ?_
      rotate_left
      · intro w hSw
        (try dsimp only at hSw)
        first | (go_simp; done) | (go_simp; with_reducible rfl)
      try simp only [List.getElem_toArray, List.getElem_cons_succ, List.getElem_cons_zero, Act.put, List.setIfInBounds_toArray, List.set_cons_zero, List.set_cons_succ]
      refine wpAnyH_take (i := 5) (oi := _) (v := ?_) rfl (by kernel_rfl) (by kernel_rfl) (by kernel_rfl) (fun _ _ _ h => h) (Or.inl ⟨by rfl, ?_⟩) (by assumption) ?_
      rotate_left
      · intro w hSw
        (try dsimp only at hSw)
        first | (go_simp; done) | (go_simp; with_reducible rfl)
      try simp only [List.getElem_toArray, List.getElem_cons_succ, List.getElem_cons_zero, Act.put, List.setIfInBounds_toArray, List.set_cons_zero, List.set_cons_succ]
      refine wpAnyH_take (i := 6) (oi := _) (v := ?_) rfl (by kernel_rfl) (by kernel_rfl) (by kernel_rfl) (fun _ _ _ h => h) (Or.inl ⟨by rfl, ?_⟩) (by assumption) ?_
      rotate_left
      · intro w hSw
        (try dsimp only at hSw)
        first | (go_simp; done) | (go_simp; with_reducible rfl)
      try simp only [List.getElem_toArray, List.getElem_cons_succ, List.getElem_cons_zero, Act.put, List.setIfInBounds_toArray, List.set_cons_zero, List.set_cons_succ]
      refine wpAnyH_take (i := 8) (oi := _) (v := ?_) rfl (by kernel_rfl) (by kernel_rfl) (by kernel_rfl) (fun _ _ _ h => h) (Or.inl ⟨by rfl, ?_⟩) (by assumption) ?_
      rotate_left
      · intro w hSw
        (try dsimp only at hSw)
        first | (go_simp; done) | (go_simp; with_reducible rfl)
      try simp only [List.getElem_toArray, List.getElem_cons_succ, List.getElem_cons_zero, Act.put, List.setIfInBounds_toArray, List.set_cons_zero, List.set_cons_succ]
      refine wpAnyH_take (i := 9) (oi := _) (v := ?_) rfl (by kernel_rfl) (by kernel_rfl) (by kernel_rfl) (fun _ _ _ h => h) (Or.inl ⟨by rfl, ?_⟩) (by assumption) ?_
      rotate_left
      · intro w hSw
        (try dsimp only at hSw)
        first | (go_simp; done) | (go_simp; with_reducible rfl)
      try simp only [List.getElem_toArray, List.getElem_cons_succ, List.getElem_cons_zero, Act.put, List.setIfInBounds_toArray, List.set_cons_zero, List.set_cons_succ]
      refine wpAnyH_ready (rs := [7]) (by kernel_rfl) (by simp) ?_
      refine AllReadyH.cons (o := _) rfl (fun K hK => ?_) AllReadyH.nil
      go_simp
      go_at_call 7
      refine (HDo.out _ _ HAd.out).mono ?_
      rintro e w5 ⟨A5, k5, F5, rfl, hS5, hA5, hM5⟩
      have HA5 := Lib.hid hA5
      have HS5 := Lib.hid hS5
      have HM5 := Lib.hid (hM5 _ _ HMd.out)
      have HMx5 := Lib.hid hM5
      clear hS5 hA5 hM5
      dsimp only
      refine hK.out _ _ (ev16 HM5.out.1) (fun hHeld => ?_)
      clear hK K
      try simp only [List.getElem_toArray, List.getElem_cons_succ, List.getElem_cons_zero, Act.put, List.setIfInBounds_toArray, List.set_cons_zero, List.set_cons_succ]
      refine wpAnyH_ready (rs := [10]) (by kernel_rfl) (by simp) ?_
      refine AllReadyH.cons (o := _) rfl (fun K hK => ?_) AllReadyH.nil
      go_simp
      go_at_call 73
      refine (asame_any R.2 x.q A5 x.A k5 x.c w5 HLr.out HLq.out HS5.out.nmz (HN.out.keep HA5.out.below)).mono ?_
      rintro e w6 ⟨b6, rfl, hb6, hw6⟩
      obtain rfl : b6 = true := hb6.2 Hq.out
      have HA6 := Lib.hid (HA5.out.keep hw6)
      have HMx6 : Hid (∀ g x, Mine F g x w → Mine F5 g x w6) := Lib.hid (fun g x hm => (HMx5.out g x ((HKeep.out g x hm).keep (Below.refl _ wb).drew)).keep hw6)
      have HM6 := Lib.hid (HM5.out.keep hw6)
      clear hb6 hw6
      dsimp only
      refine hK.out _ _ (ev16 HM6.out.1) (fun hHeld => ?_)
      clear hK K
      try simp only [List.getElem_toArray, List.getElem_cons_succ, List.getElem_cons_zero, Act.put, List.setIfInBounds_toArray, List.set_cons_zero, List.set_cons_succ]
      refine wpAnyH_take (i := 11) (oi := _) (v := ?_) rfl (by kernel_rfl) (by kernel_rfl) (by kernel_rfl) (fun _ _ _ h => h) (Or.inl ⟨by rfl, ?_⟩) (by assumption) ?_
      rotate_left
      · intro w hSw
        (try dsimp only at hSw)
        first | (go_simp; done) | (go_simp; with_reducible rfl)
      try simp only [List.getElem_toArray, List.getElem_cons_succ, List.getElem_cons_zero, Act.put, List.setIfInBounds_toArray, List.set_cons_zero, List.set_cons_succ]
      refine wpAnyH_take (i := 12) (oi := _) (v := ?_) rfl (by kernel_rfl) (by kernel_rfl) (by kernel_rfl) (fun _ _ _ h => h) (Or.inl ⟨by rfl, ?_⟩) (by assumption) ?_
      rotate_left
      · intro w hSw
        (try dsimp only at hSw)
        first | (go_simp; done) | (go_simp; with_reducible rfl)
      try simp only [List.getElem_toArray, List.getElem_cons_succ, List.getElem_cons_zero, Act.put, List.setIfInBounds_toArray, List.set_cons_zero, List.set_cons_succ]
      refine wpAnyH_take (i := 13) (oi := _) (v := undef) rfl (by kernel_rfl) (by kernel_rfl) (by kernel_rfl) (fun _ _ _ h => h) (Or.inr ⟨by rfl, rfl⟩) (by assumption) ?_
      try simp only [List.getElem_toArray, List.getElem_cons_succ, List.getElem_cons_zero, Act.put, List.setIfInBounds_toArray, List.set_cons_zero, List.set_cons_succ]
      refine wpAnyH_take (i := 14) (oi := _) (v := undef) rfl (by kernel_rfl) (by kernel_rfl) (by kernel_rfl) (fun _ _ _ h => h) (Or.inr ⟨by rfl, rfl⟩) (by assumption) ?_
      try simp only [List.getElem_toArray, List.getElem_cons_succ, List.getElem_cons_zero, Act.put, List.setIfInBounds_toArray, List.set_cons_zero, List.set_cons_succ]
      refine wpAnyH_take (i := 15) (oi := _) (v := ?_) rfl (by kernel_rfl) (by kernel_rfl) (by kernel_rfl) (fun _ _ _ h => h) (Or.inl ⟨by rfl, ?_⟩) (by assumption) ?_
      rotate_left
      · intro w hSw
        (try dsimp only at hSw)
        first | (go_simp; done) | (go_simp; with_reducible rfl)
      try simp only [List.getElem_toArray, List.getElem_cons_succ, List.getElem_cons_zero, Act.put, List.setIfInBounds_toArray, List.set_cons_zero, List.set_cons_succ]
      refine wpAnyH_take (i := 16) (oi := _) (v := ?_) rfl (by kernel_rfl) (by kernel_rfl) (by kernel_rfl) (fun _ _ _ h => h) (Or.inl ⟨by rfl, ?_⟩) (by assumption) ?_
      rotate_left
      · intro w hSw
        (try dsimp only at hSw)
        first | (go_simp; done) | (go_simp; with_reducible rfl)
      try simp only [List.getElem_toArray, List.getElem_cons_succ, List.getElem_cons_zero, Act.put, List.setIfInBounds_toArray, List.set_cons_zero, List.set_cons_succ]
      refine wpAnyH_done (by kernel_rfl) ?_ _
      simp only [Exit.then]
      have HYes : Hid (Fits S x) := Lib.hid (HFit.out.2 fun h => absurd h (by have := HT.out; omega))
      go_wp2
      go_ret
      exact ⟨true, F5, rfl, iff_of_true rfl HYes.out, (by rw [HRS.out]; exact HA6.out), HMx6.out⟩
    · have Hq := Lib.hid hq
      clear hq
      go_upto_region 7 with fail
      refine wp_region_held_drew (S := (fun w' => w'.cell? ⟨g, 0, none⟩ = some (.int .i64 x.cl) ∧ w'.cell? ⟨g, 2, none⟩ = some (.int .i64 x.kind) ∧ w'.cell? ⟨g, 3, none⟩ = some (.string x.p) ∧ w'.cell? ⟨g, 4, none⟩ = some (.string x.p2) ∧ w'.cell? ⟨g, 5, none⟩ = some (.int .i64 x.flags) ∧ w'.cell? ⟨g, 6, none⟩ = some (.int .i64 x.fd) ∧ w'.cell? ⟨g, 7, none⟩ = some (.int .i64 x.off) ∧ w'.cell? ⟨g, 8, none⟩ = some (.int .i64 x.n) ∧ w'.cell? ⟨g, 9, none⟩ = some (.string x.data) ∧ w'.cell? ⟨g, 13, none⟩ = some (.int .i64 x.q.errno) ∧ w'.cell? ⟨g, 14, none⟩ = some (.int .i64 x.q.fd) ∧ w'.cell? ⟨g, 15, none⟩ = some (.string ⟨x.q.data.toArray⟩) ∧ w'.cell? ⟨g, 16, none⟩ = some (.slice x.A x.q.names.length x.c) ∧ w'.cell? ⟨g, 17, none⟩ = some (.int .i64 x.q.kind) ∧ w'.cell? ⟨g, 18, none⟩ = some (.int .i64 x.q.links) ∧ w'.cell? ⟨g, 19, none⟩ = some (.int .i64 x.q.size))) (by kernel_rfl) ?_ (fun hHeld => ?_)
      · exact hs0
      refine wpAnyH_take (i := 0) (oi := _) (v := ?_) rfl (by kernel_rfl) (by kernel_rfl) (by kernel_rfl) (fun _ _ _ h => h) (Or.inl ⟨by rfl, ?_⟩) (by assumption) ?_
      rotate_left
      · intro w hSw
        (try dsimp only at hSw)
        first | (go_simp; done) | (go_simp; with_reducible rfl)
      try simp only [List.getElem_toArray, List.getElem_cons_succ, List.getElem_cons_zero, Act.put, List.setIfInBounds_toArray, List.set_cons_zero, List.set_cons_succ]
      refine wpAnyH_take (i := 1) (oi := _) (v := ?_) rfl (by kernel_rfl) (by kernel_rfl) (by kernel_rfl) (fun _ _ _ h => h) (Or.inl ⟨by rfl, ?_⟩) (by assumption) ?_
      rotate_left
      · intro w hSw
        (try dsimp only at hSw)
        first | (go_simp; done) | (go_simp; with_reducible rfl)
      try simp only [List.getElem_toArray, List.getElem_cons_succ, List.getElem_cons_zero, Act.put, List.setIfInBounds_toArray, List.set_cons_zero, List.set_cons_succ]
      refine wpAnyH_take (i := 2) (oi := _) (v := ?_) rfl (by kernel_rfl) (by kernel_rfl) (by kernel_rfl) (fun _ _ _ h => h) (Or.inl ⟨by rfl, ?_⟩) (by assumption) ?_
      rotate_left
      · intro w hSw
        (try dsimp only at hSw)
        first | (go_simp; done) | (go_simp; with_reducible rfl)
      try simp only [List.getElem_toArray, List.getElem_cons_succ, List.getElem_cons_zero, Act.put, List.setIfInBounds_toArray, List.set_cons_zero, List.set_cons_succ]
      refine wpAnyH_take (i := 3) (oi := _) (v := ?_) rfl (by kernel_rfl) (by kernel_rfl) (by kernel_rfl) (fun _ _ _ h => h) (Or.inl ⟨by rfl, ?_⟩) (by assumption) ?_
      rotate_left
      · intro w hSw
        (try dsimp only at hSw)
        first | (go_simp; done) | (go_simp; with_reducible rfl)
      try simp only [List.getElem_toArray, List.getElem_cons_succ, List.getElem_cons_zero, Act.put, List.setIfInBounds_toArray, List.set_cons_zero, List.set_cons_succ]
      refine wpAnyH_take (i := 4) (oi := _) (v := ?_) rfl (by kernel_rfl) (by kernel_rfl) (by kernel_rfl) (fun _ _ _ h => h) (Or.inl ⟨by rfl, ?_⟩) (by assumption) ?_
      rotate_left
      · intro w hSw
        (try dsimp only at hSw)
        first | (go_simp; done) | (go_simp; with_reducible rfl)
      try simp only [List.getElem_toArray, List.getElem_cons_succ, List.getElem_cons_zero, Act.put, List.setIfInBounds_toArray, List.set_cons_zero, List.set_cons_succ]
      refine wpAnyH_take (i := 5) (oi := _) (v := ?_) rfl (by kernel_rfl) (by kernel_rfl) (by kernel_rfl) (fun _ _ _ h => h) (Or.inl ⟨by rfl, ?_⟩) (by assumption) ?_
      rotate_left
      · intro w hSw
        (try dsimp only at hSw)
        first | (go_simp; done) | (go_simp; with_reducible rfl)
      try simp only [List.getElem_toArray, List.getElem_cons_succ, List.getElem_cons_zero, Act.put, List.setIfInBounds_toArray, List.set_cons_zero, List.set_cons_succ]
      refine wpAnyH_take (i := 6) (oi := _) (v := ?_) rfl (by kernel_rfl) (by kernel_rfl) (by kernel_rfl) (fun _ _ _ h => h) (Or.inl ⟨by rfl, ?_⟩) (by assumption) ?_
      rotate_left
      · intro w hSw
        (try dsimp only at hSw)
        first | (go_simp; done) | (go_simp; with_reducible rfl)
      try simp only [List.getElem_toArray, List.getElem_cons_succ, List.getElem_cons_zero, Act.put, List.setIfInBounds_toArray, List.set_cons_zero, List.set_cons_succ]
      refine wpAnyH_take (i := 8) (oi := _) (v := ?_) rfl (by kernel_rfl) (by kernel_rfl) (by kernel_rfl) (fun _ _ _ h => h) (Or.inl ⟨by rfl, ?_⟩) (by assumption) ?_
      rotate_left
      · intro w hSw
        (try dsimp only at hSw)
        first | (go_simp; done) | (go_simp; with_reducible rfl)
      try simp only [List.getElem_toArray, List.getElem_cons_succ, List.getElem_cons_zero, Act.put, List.setIfInBounds_toArray, List.set_cons_zero, List.set_cons_succ]
      refine wpAnyH_take (i := 9) (oi := _) (v := ?_) rfl (by kernel_rfl) (by kernel_rfl) (by kernel_rfl) (fun _ _ _ h => h) (Or.inl ⟨by rfl, ?_⟩) (by assumption) ?_
      rotate_left
      · intro w hSw
        (try dsimp only at hSw)
        first | (go_simp; done) | (go_simp; with_reducible rfl)
      try simp only [List.getElem_toArray, List.getElem_cons_succ, List.getElem_cons_zero, Act.put, List.setIfInBounds_toArray, List.set_cons_zero, List.set_cons_succ]
      refine wpAnyH_ready (rs := [7]) (by kernel_rfl) (by simp) ?_
      refine AllReadyH.cons (o := _) rfl (fun K hK => ?_) AllReadyH.nil
      go_simp
      go_at_call 7
      refine (HDo.out _ _ HAd.out).mono ?_
      rintro e w5 ⟨A5, k5, F5, rfl, hS5, hA5, hM5⟩
      have HA5 := Lib.hid hA5
      have HS5 := Lib.hid hS5
      have HM5 := Lib.hid (hM5 _ _ HMd.out)
      have HMx5 := Lib.hid hM5
      clear hS5 hA5 hM5
      dsimp only
      refine hK.out _ _ (ev16 HM5.out.1) (fun hHeld => ?_)
      clear hK K
      try simp only [List.getElem_toArray, List.getElem_cons_succ, List.getElem_cons_zero, Act.put, List.setIfInBounds_toArray, List.set_cons_zero, List.set_cons_succ]
      refine wpAnyH_ready (rs := [10]) (by kernel_rfl) (by simp) ?_
      refine AllReadyH.cons (o := _) rfl (fun K hK => ?_) AllReadyH.nil
      go_simp
      go_at_call 73
      refine (asame_any R.2 x.q A5 x.A k5 x.c w5 HLr.out HLq.out HS5.out.nmz (HN.out.keep HA5.out.below)).mono ?_
      rintro e w6 ⟨b6, rfl, hb6, hw6⟩
      obtain rfl : b6 = false := Bool.eq_false_iff.2 fun h => Hq.out (hb6.1 h)
      have HA6 := Lib.hid (HA5.out.keep hw6)
      have HMx6 : Hid (∀ g x, Mine F g x w → Mine F5 g x w6) := Lib.hid (fun g x hm => (HMx5.out g x ((HKeep.out g x hm).keep (Below.refl _ wb).drew)).keep hw6)
      have HM6 := Lib.hid (HM5.out.keep hw6)
      clear hb6 hw6
      dsimp only
      refine hK.out _ _ (ev16 HM6.out.1) (fun hHeld => ?_)
      clear hK K
      try simp only [List.getElem_toArray, List.getElem_cons_succ, List.getElem_cons_zero, Act.put, List.setIfInBounds_toArray, List.set_cons_zero, List.set_cons_succ]
      refine wpAnyH_take (i := 11) (oi := _) (v := ?_) rfl (by kernel_rfl) (by kernel_rfl) (by kernel_rfl) (fun _ _ _ h => h) (Or.inl ⟨by rfl, ?_⟩) (by assumption) ?_
      rotate_left
      · intro w hSw
        (try dsimp only at hSw)
        first | (go_simp; done) | (go_simp; with_reducible rfl)
      try simp only [List.getElem_toArray, List.getElem_cons_succ, List.getElem_cons_zero, Act.put, List.setIfInBounds_toArray, List.set_cons_zero, List.set_cons_succ]
      refine wpAnyH_take (i := 12) (oi := _) (v := ?_) rfl (by kernel_rfl) (by kernel_rfl) (by kernel_rfl) (fun _ _ _ h => h) (Or.inl ⟨by rfl, ?_⟩) (by assumption) ?_
      rotate_left
      · intro w hSw
        (try dsimp only at hSw)
        first | (go_simp; done) | (go_simp; with_reducible rfl)
      try simp only [List.getElem_toArray, List.getElem_cons_succ, List.getElem_cons_zero, Act.put, List.setIfInBounds_toArray, List.set_cons_zero, List.set_cons_succ]
      refine wpAnyH_take (i := 13) (oi := _) (v := ?_) rfl (by kernel_rfl) (by kernel_rfl) (by kernel_rfl) (fun _ _ _ h => h) (Or.inl ⟨by rfl, ?_⟩) (by assumption) ?_
      rotate_left
      · intro w hSw
        (try dsimp only at hSw)
        first | (go_simp; done) | (go_simp; with_reducible rfl)
      try simp only [List.getElem_toArray, List.getElem_cons_succ, List.getElem_cons_zero, Act.put, List.setIfInBounds_toArray, List.set_cons_zero, List.set_cons_succ]
      refine wpAnyH_take (i := 14) (oi := _) (v := ?_) rfl (by kernel_rfl) (by kernel_rfl) (by kernel_rfl) (fun _ _ _ h => h) (Or.inl ⟨by rfl, ?_⟩) (by assumption) ?_
      rotate_left
      · intro w hSw
        (try dsimp only at hSw)
        first | (go_simp; done) | (go_simp; with_reducible rfl)
      try simp only [List.getElem_toArray, List.getElem_cons_succ, List.getElem_cons_zero, Act.put, List.setIfInBounds_toArray, List.set_cons_zero, List.set_cons_succ]
      refine wpAnyH_take (i := 15) (oi := _) (v := ?_) rfl (by kernel_rfl) (by kernel_rfl) (by kernel_rfl) (fun _ _ _ h => h) (Or.inl ⟨by rfl, ?_⟩) (by assumption) ?_
      rotate_left
      · intro w hSw
        (try dsimp only at hSw)
        first | (go_simp; done) | (go_simp; with_reducible rfl)
      try simp only [List.getElem_toArray, List.getElem_cons_succ, List.getElem_cons_zero, Act.put, List.setIfInBounds_toArray, List.set_cons_zero, List.set_cons_succ]
      refine wpAnyH_take (i := 16) (oi := _) (v := ?_) rfl (by kernel_rfl) (by kernel_rfl) (by kernel_rfl) (fun _ _ _ h => h) (Or.inl ⟨by rfl, ?_⟩) (by assumption) ?_
      rotate_left
      · intro w hSw
        (try dsimp only at hSw)
        first | (go_simp; done) | (go_simp; with_reducible rfl)
      try simp only [List.getElem_toArray, List.getElem_cons_succ, List.getElem_cons_zero, Act.put, List.setIfInBounds_toArray, List.set_cons_zero, List.set_cons_succ]
      refine wpAnyH_done (by kernel_rfl) ?_ _
      simp only [Exit.then]
      have HYes : Hid (Fits S x) := Lib.hid (HFit.out.2 fun h => absurd h (by have := HT.out; omega))
      go_wp2
      go_ret
      exact ⟨true, F5, rfl, iff_of_true rfl HYes.out, (by rw [HRS.out]; exact HA6.out), HMx6.out⟩

end Go.Proofs.YtbpejjmfdhkfhaaGreatDoor

/- Walks: the audit's Run, of events that stand in their order already. -/
namespace Go.Proofs.YtbpejjmfdhkfhaaGreatDoor
open Go.RowKit

/-- an event may be asked for -/
structure EvMay (w : World) (x : Ev) : Prop where
  cl : I64 x.cl
  fd : I64 x.fd
  p : x.p.size ≤ 100000
  p2 : x.p2.size ≤ 100000
  nm : Nmz w x.A x.q.names
  len : x.q.names.length ≤ 9223372036854775807
  e18 : x.q.errno ≠ 18
  told : 0 < x.told ∨ x.q.errno = 0
theorem EvMay.keep {w w' : World} {x : Ev} (h : EvMay w x) (hb : Below w.heap.size w w') : EvMay w' x := { h with nm := h.nm.keep hb }
theorem evDo_good {K : Nat} {S : Pz.Fil} (h : Pz.Good K S) (hf : Pz.Few S) (x : Ev) : Pz.Good (K + 3) (evDo S x).1 ∧ Pz.Few (evDo S x).1 := Pz.do_good h hf _ _ _ _ _ _ _ _ _

set_option maxHeartbeats 8000000 in
set_option maxRecDepth 100000 in
theorem run_any [Inhabited XBox] (A : Option Addr) (L : List Ev) (c : Nat) (w : World) (hx : MxX w) (hlen : L.length ≤ 30) (hE : Evs w A L) (hM : ∀ x ∈ L, EvMay w x) (hs : (L.filter fun x => decide (0 < x.done)).Pairwise fun a b => a.done < b.done) :
    Calls Tryz.prog 16 #[.slice A L.length c, .slice none 0 0] w fun e w' => ∃ pr : Nat, e = .returned (.tuple #[.pointer (some ⟨pr, 0, none⟩), .int .i64 (evBad newFS (L.filter fun x => decide (0 < x.done)) 0)]) ∧ Below w.heap.size w w' := by
  have HX := Lib.hid hx
  have HE := Lib.hid hE
  have HM := Lib.hid hM
  have HO := Lib.hid fun W (hW : Below w.heap.size w W) => order_any A L c W hlen (hE.keep hW) hs
  obtain ⟨n, hn⟩ : ∃ n, n = L.length := ⟨_, rfl⟩
  rw [← hn] at HO
  rw [← hn]
  rw [← hn] at hlen
  have Hn := Lib.hid hn
  obtain ⟨M, hMM⟩ : ∃ M, M = L.filter fun x => decide (0 < x.done) := ⟨_, rfl⟩
  rw [← hMM]
  have HMM := Lib.hid hMM
  obtain ⟨T, hT⟩ : ∃ T, T = itemsFrom 0 L := ⟨_, rfl⟩
  rw [← hT] at HO
  have HT := Lib.hid hT
  obtain ⟨m, hm⟩ : ∃ m, m = T.length := ⟨_, rfl⟩
  rw [← hm] at HO
  have Hm := Lib.hid hm
  have hml : m ≤ 30 := by
    rw [hm, hT, items_len]
    exact Nat.le_trans (List.length_filter_le _ _) (by omega)
  clear hx hE hM hs hn hMM hT hm
  go_enter Tryz.func16, Tryz.ntmps16
  go_wp2_with fail
  refine (fnew_any w HX.out).mono ?_
  rintro e w1 ⟨rfl, hR1, hb1⟩
  have HA1 := Lib.hid (alone_new HX.out hR1 hb1)
  have HOr := Lib.hid (HO.out w1 hb1)
  clear hR1 hb1 HO
  obtain ⟨pr, hpr⟩ : ∃ pr, pr = w.heap.size + 3 := ⟨_, rfl⟩
  rw [← hpr] at HA1
  try rw [← hpr]
  clear hpr
  go_wp2_with fail
  refine HOr.out.mono ?_
  rintro e w2 ⟨A2, c2, rfl, hI2, hlo2, hb2⟩
  have HA2 := Lib.hid (HA1.out.keep hb2)
  obtain ⟨F2, hF2⟩ : ∃ F2, F2 = fun k => (k = maxB ∨ w.heap.size ≤ k) ∧ k < w1.heap.size := ⟨_, rfl⟩
  have HI2 : Hid (∀ W F, (∀ g x, Mine F2 g x w2 → Mine F g x W) → Its W A2 T) := Lib.hid fun W F hW => by
    rcases hI2 with h | ⟨b, o, h1, h2, h3⟩
    · exact Or.inl h
    · have hm : Mine F2 b w2.heap[b] w2 := ⟨Array.getElem?_eq_getElem h2, fun h => by
        rw [hF2] at h
        have h4 := hlo2 _ h1
        have h5 := h.2
        exact absurd h5 (Nat.not_lt.2 h4)⟩
      have hm2 := hW _ _ hm
      have e : W.heap[b]? = w2.heap[b]? := hm2.1.trans hm.1.symm
      have ec : ∀ i, W.cell? ⟨b, i, none⟩ = w2.cell? ⟨b, i, none⟩ := fun i => World.cell?_of_block (a := ⟨b, i, none⟩) e
      exact Or.inr ⟨b, o, h1, hm2.lt, fun j x hx => by
        obtain ⟨a0, a1, a2⟩ := h3 j x hx
        exact ⟨(ec _).trans a0, (ec _).trans a1, (ec _).trans a2⟩⟩
  rw [← hF2] at HA2
  clear hI2 hb2 HA1 HOr hlo2 hF2
  go_wp2
  go_loopw [7, 15] (fun u v wr => ∃ (j : Nat) (F : Nat → Prop) (B : Int), v = .int .i64 j ∧ j ≤ m ∧ u = .int .i64 B ∧ Hid (B = evBad newFS (M.take j) 0) ∧ Hid (Alone w pr (evRun newFS (M.take j)) F wr) ∧ Hid (Pz.Good (3 * j + 1) (evRun newFS (M.take j)) ∧ Pz.Few (evRun newFS (M.take j))) ∧ Hid (∀ g x, Mine F2 g x w2 → Mine F g x wr)) (fun _ v _ => m - (intOf v).toNat)
  case atStart => exact ⟨0, F2, 0, rfl, by omega, rfl, Lib.hid rfl, HA2, Lib.hid Pz.new_good, Lib.hid fun _ _ h => h⟩
  case round =>
    obtain ⟨j, F, B, rfl, hj, rfl, HB, HA, HG, HMi⟩ := hrel
    by_cases hlt : j < m
    · obtain ⟨y, hy⟩ : ∃ y, T[j]? = some y := ⟨_, List.getElem?_eq_getElem (by have := Hm.out; omega)⟩
      have hy' := hy
      rw [HT.out] at hy'
      obtain ⟨k, x, hMj, hLk, hyx⟩ := items_at hy'
      rw [← HMM.out] at hMj
      subst hyx
      rcases HI2.out wr F HMi.out with h | ⟨b, o, rfl, hb, hI⟩
      · rw [h] at hy; simp at hy
      obtain ⟨i0, i1, i2⟩ := hI j _ hy
      rw [Nat.zero_add] at i2
      rcases (HE.out.keep HA.out.below) with h | ⟨be, oe, rfl, hbe, hEv⟩
      · rw [h] at hLk; simp at hLk
      have hev := hEv k x hLk
      have hkn : k < n := by
        have := (List.getElem?_eq_some_iff.1 hLk).1
        have := Hn.out
        omega
      have HEv := Lib.hid fun W (hW : Below w.heap.size w W) => (show EvAt W be (oe + k * 20) x from by
        rcases (HE.out.keep hW) with h | ⟨be', oe', h1, _, h3⟩
        · rw [h] at hLk; simp at hLk
        · cases h1
          exact h3 k x hLk)
      have HMay := Lib.hid (HM.out x (List.mem_of_getElem? hLk))
      have HTk := Lib.hid (ev_take hMj)
      obtain ⟨S, hS⟩ : ∃ S, S = evRun newFS (M.take j) := ⟨_, rfl⟩
      rw [← hS] at HA HG
      have HSn : Hid (evRun newFS (M.take (j + 1)) = (evDo S x).1) := Lib.hid (by rw [HTk.out, evRun_snoc, ← hS])
      have HBn : Hid (evBad newFS (M.take (j + 1)) 0 = if fitB S x = false ∧ B = 0 then x.num else B) := Lib.hid (by rw [HTk.out, evBad_snoc, ← hS, ← HB.out])
      obtain ⟨w4, hw4⟩ : ∃ v, v = wr.alloc (.cells #[.int .i64 x.done, .int .i64 0, .int .i64 k] 92) := ⟨_, rfl⟩
      have hb4 : Below wr.heap.size wr w4 := by rw [hw4]; exact (Below.refl _ _).alloc (Nat.le_refl _) _
      have h4 : w4.heap[wr.heap.size]? = some (.cells #[.int .i64 x.done, .int .i64 0, .int .i64 k] 92 (0, 0)) := by rw [hw4]; exact heap_alloc_new _ _
      have hM4 : Mine F wr.heap.size (.cells #[.int .i64 x.done, .int .i64 0, .int .i64 k] 92 (0, 0)) w4 := ⟨h4, fun h => by have := (HA.out.fl _ h).1; omega⟩
      have HA4 := Lib.hid (HA.out.keep hb4)
      have HMi4 := Lib.hid fun g x (h : Mine F2 g x w2) => (HMi.out g x h).keep hb4
      have HM4 := Lib.hid hM4
      have HW4 := Lib.hid hw4
      obtain ⟨e0, e1, e2⟩ := cells3 h4
      have hrg := (HEv.out w4 HA4.out.below).range
      have HFt := Lib.hid (fits_any HA4.out x HMay.out.cl HMay.out.fd HMay.out.p HMay.out.p2 (HG.out.1.mono (by omega)) (HMay.out.nm) HMay.out.len HMay.out.e18 HMay.out.told)
      have k0 : (0 : Int) ≤ k := by omega
      have k1 : (k : Int) < n := by omega
      have j0 : (0 : Int) ≤ j := by omega
      have j1 : (j : Int) < m := by omega
      have HGn := Lib.hid (evDo_good HG.out.1 HG.out.2 x)
      obtain ⟨gi, hgi⟩ : ∃ gi, gi = wr.heap.size := ⟨_, rfl⟩
      rw [← hgi] at HM4 e0 e1 e2
      have Hgi := Lib.hid hgi.symm
      clear hy hy' hMj hLk hI hb hEv hev hkn hS hw4 hb4 h4 hM4 hgi hlt
      go_upto_region 5 with fail
      rw [← HW4.out]
      rw [Hgi.out]
      go_wp2_with (refine wpList_load_mid rfl 53 _ rfl be (oe + k * 20) rfl (evC x).toList _ hrg Tryz.underlying53 rfl Tryz.sizeEv ?_)
      refine HFt.out.mono ?_
      rintro e w5 ⟨fb, F5, rfl, hfb, hA5, hM5⟩
      have HA5 : Hid (Alone w pr (evRun newFS (M.take (j + 1))) F5 w5) := Lib.hid (by rw [HSn.out]; exact hA5)
      have HG5 : Hid (Pz.Good (3 * (j + 1) + 1) (evRun newFS (M.take (j + 1))) ∧ Pz.Few (evRun newFS (M.take (j + 1)))) := Lib.hid (by
        rw [HSn.out]
        exact ⟨HGn.out.1.mono (by omega), HGn.out.2⟩)
      have HMi5 := Lib.hid fun g x (h : Mine F2 g x w2) => hM5 g x (HMi4.out g x h)
      obtain ⟨f0, f1, f2⟩ := cells3 (hM5 _ _ HM4.out).1
      have d1 := (HEv.out w5 hA5.below).2.1
      have HFb : Hid (fitB S x = fb) := Lib.hid (by
        cases fb with
        | true => exact fitB_iff.2 (hfb.1 rfl)
        | false =>
          cases h : fitB S x with
          | false => rfl
          | true => exact absurd (hfb.2 (fitB_iff.1 h)) (by simp))
      rw [HFb.out] at HBn
      clear hfb hA5 hM5 hrg e0 e1 e2 i0 i1 i2 HFt
      cases fb with
      | true =>
        have HB5 : Hid (B = evBad newFS (M.take (j + 1)) 0) := Lib.hid (by rw [HBn.out, if_neg (fun h => by cases h.1)])
        go_wp2
        go_roundw
        case rel => exact ⟨j + 1, F5, B, by go_num, by omega, rfl, HB5, HA5, HG5, HMi5⟩
        case measure => simp [intOf]; omega
      | false =>
        by_cases hB0 : B = 0
        · have HB5 : Hid (x.num = evBad newFS (M.take (j + 1)) 0) := Lib.hid (by rw [HBn.out, if_pos ⟨rfl, hB0⟩])
          have hbz : ((B : Int) == 0) = true := by rw [hB0]; rfl
          clear hB0
          go_wp2
          go_roundw
          case rel => exact ⟨j + 1, F5, x.num, by go_num, by omega, rfl, HB5, HA5, HG5, HMi5⟩
          case measure => simp [intOf]; omega
        · have HB5 : Hid (B = evBad newFS (M.take (j + 1)) 0) := Lib.hid (by rw [HBn.out, if_neg (fun h => hB0 h.2)])
          have hbz : ((B : Int) == 0) = false := by rw [beq_eq_false_iff_ne]; exact hB0
          clear hB0
          go_wp2
          go_roundw
          case rel => exact ⟨j + 1, F5, B, by go_num, by omega, rfl, HB5, HA5, HG5, HMi5⟩
          case measure => simp [intOf]; omega
    · have hj2 : (m : Int) ≤ j := by omega
      have HBf : Hid (B = evBad newFS M 0) := Lib.hid (by
        rw [HB.out, List.take_of_length_le]
        have h1 := Hm.out
        rw [HT.out, items_len, ← HMM.out] at h1
        omega)
      clear hlt
      go_wp2
      go_ret2
      rw [← HBf.out]
      exact ⟨pr, rfl, HA.out.below⟩

end Go.Proofs.YtbpejjmfdhkfhaaGreatDoor

/- Walks: the audit's law's lives: the document's example. -/
namespace Go.Proofs.YtbpejjmfdhkfhaaGreatDoor
open Go.RowKit

theorem mxx_grow [Inhabited XBox] {w w' : World} (h : MxX w) (hb : Below w.heap.size w w') : MxX w' := by
  refine ⟨h.1.keep hb, ?_⟩
  obtain ⟨m, hm⟩ := h.1
  exact (hb.block maxB (World.block_lt_of_cell? w ⟨maxB, 0, none⟩ hm)).trans h.2
/-- one event alone lies in a row of its own -/
theorem evs_one {w : World} {g t : Nat} {x : Ev} (h : w.heap[g]? = some (.cells (evC x) t (0, 0))) : Evs w (some ⟨g, 0, none⟩) [x] :=
  Or.inr ⟨g, 0, rfl, (Array.getElem?_eq_some_iff.1 h).1, fun j y hy => by
    match j, hy with
    | 0, hy =>
      cases hy
      rw [Nat.zero_mul]
      exact evAt_row h
    | j + 1, hy => simp at hy⟩
/-- a slice's one event, as it is laid -/
theorem laid_one (x : Ev) : Array.foldl (fun cs (x : Value × Nat) => cs.setIfInBounds x.snd x.fst) #[.int .i64 0, .int .i64 0, .int .i64 0, .string ⟨#[]⟩, .string ⟨#[]⟩, .int .i64 0, .int .i64 0, .int .i64 0, .int .i64 0, .string ⟨#[]⟩, .int .i64 0, .int .i64 0, .int .i64 0, .int .i64 0, .int .i64 0, .string ⟨#[]⟩, .slice none 0 0, .int .i64 0, .int .i64 0, .int .i64 0] (evC x).zipIdx 0 (evC x).size = evC x := by
  simp [evC]
def le1 : Ev := ⟨1, 5, 1, ⟨#[47, 97]⟩, ⟨#[]⟩, 1, 0, 0, 0, ⟨#[]⟩, 1, 2, 3, Pz.er 0, none, 0⟩
def le2 : Ev := { le1 with q := ⟨0, 1, [], [], 0, 0, 0⟩ }
theorem le1_may (w : World) : EvMay w le1 := ⟨i64_1, i64_0, by decide, by decide, Or.inl rfl, by decide, by decide, Or.inl (by decide)⟩
theorem le2_may (w : World) : EvMay w le2 := ⟨i64_1, i64_0, by decide, by decide, Or.inl rfl, by decide, by decide, Or.inl (by decide)⟩
theorem le1_do : evDo newFS le1 = Pz.l1 := rfl
theorem le1_bad : evBad newFS ([le1].filter fun x => decide (0 < x.done)) 0 = 0 := by
  have : ([le1].filter fun x => decide (0 < x.done)) = [le1] := rfl
  rw [this, evBad, evBad, if_neg]
  rintro ⟨h, _⟩
  have hf : Fits newFS le1 := fun _ => ⟨by decide, by decide, by rw [le1_do, Pz.l1_rep]; rfl⟩
  rw [fitB_iff.2 hf] at h
  cases h
theorem le2_bad : evBad newFS ([le2].filter fun x => decide (0 < x.done)) 0 = 5 := by
  have : ([le2].filter fun x => decide (0 < x.done)) = [le2] := rfl
  rw [this, evBad, evBad, if_pos]
  · rfl
  refine ⟨?_, rfl⟩
  cases h : fitB newFS le2 with
  | false => rfl
  | true =>
    have := (fitB_iff.1 h (by decide)).2.2
    rw [show evDo newFS le2 = Pz.l1 from rfl, Pz.l1_rep] at this
    exact absurd (congrArg Pz.Rep.fd this) (by decide)

set_option maxHeartbeats 4000000 in
set_option maxRecDepth 100000 in
theorem alives_any [Inhabited XBox] (w : World) (hx : MxX w) : Calls Tryz.prog 17 #[] w fun e w' => e = .returned (.bool true) ∧ Below w.heap.size w w' := by
  have HX := Lib.hid hx
  clear hx
  go_enter Tryz.func17, Tryz.ntmps17
  go_wp2_with (first | (refine wpList_store_mid rfl 53 _ _ rfl w.heap.size 0 (evC le1).toList.toArray rfl rfl (there_new _ _ _ _ rfl) Tryz.sizeEv (evC_one le1) ?_; generalize hwe : (World.setCells _ _ _ _) = we; obtain ⟨hbe, hee⟩ : Below w.heap.size w we ∧ we.heap[w.heap.size]? = some (.cells (evC le1) 53 (0, 0)) := (by rw [← hwe]; exact new_whole w _ _ _ rfl); clear hwe; have hrg := (evAt_row hee).range) | (refine wpList_load_mid rfl 53 _ rfl w.heap.size 0 rfl (evC le1).toList _ hrg Tryz.underlying53 rfl Tryz.sizeEv ?_))
  rw [laid_one]
  obtain ⟨w1, hw1⟩ : ∃ v, v = we.alloc (.cells (evC le1) 53) := ⟨_, rfl⟩
  rw [← hw1]
  have hb1 : Below we.heap.size we w1 := by rw [hw1]; exact (Below.refl _ _).alloc (Nat.le_refl _) _
  have h1 : w1.heap[we.heap.size]? = some (.cells (evC le1) 53 (0, 0)) := by rw [hw1]; exact heap_alloc_new _ _
  have hbw := hbe.trans (hb1.mono hbe.size)
  have HBw := Lib.hid hbw
  have hR := run_any (some ⟨we.heap.size, 0, none⟩) [le1] 1 w1 (mxx_grow HX.out hbw) (by simp) (evs_one h1) (fun x hx => by rw [List.mem_singleton.1 hx]; exact le1_may _) (by rw [show ([le1].filter fun x => decide (0 < x.done)) = [le1] from rfl]; simp)
  rw [le1_bad] at hR
  have HH : Hid (∀ W, Below w1.heap.size w1 W → W.heap[w.heap.size]? = some (.cells (evC le1) 53 (0, 0))) := Lib.hid fun W hW => (hW.block _ (Nat.lt_of_lt_of_le (lt_of_get hee) hb1.size)).trans ((hb1.block _ (lt_of_get hee)).trans hee)
  have HR := Lib.hid hR
  clear hw1 hb1 h1 hbw hbe hee hrg hR
  refine HR.out.mono ?_
  rintro e w2 ⟨pr, rfl, hb2⟩
  have h2 := HH.out w2 hb2
  have c14 := cell_of_row w2 _ 14 _ _ _ h2
  have f14 := frozen_of_row w2 _ 14 _ _ h2
  have HB2 := Lib.hid (HBw.out.trans (hb2.mono HBw.out.size))
  have H2 := Lib.hid h2
  clear h2 hb2
  go_upto_region 4 with fail
  obtain ⟨w3, hw3⟩ : ∃ v, v = w2.setCell ⟨w.heap.size, 14, none⟩ (.int .i64 1) := ⟨_, rfl⟩
  rw [← hw3]
  have h3 : w3.heap[w.heap.size]? = some (.cells (evC le2) 53 (0, 0)) := by
    rw [hw3]
    exact Go.heap_setCell_same w2 _ 14 _ _ _ H2.out
  have hb3 : Below w.heap.size w w3 := by rw [hw3]; exact HB2.out.setCell (Nat.le_refl _) _
  have hrg := (evAt_row h3).range
  have HB3 := Lib.hid hb3
  have HX3 := Lib.hid (mxx_grow HX.out hb3)
  clear hw3 h3 hb3 c14 f14 H2 HB2
  go_wp2_with (refine wpList_load_mid rfl 53 _ rfl w.heap.size 0 rfl (evC le2).toList _ hrg Tryz.underlying53 rfl Tryz.sizeEv ?_)
  rw [laid_one]
  obtain ⟨w4, hw4⟩ : ∃ v, v = w3.alloc (.cells (evC le2) 53) := ⟨_, rfl⟩
  rw [← hw4]
  have hb4 : Below w3.heap.size w3 w4 := by rw [hw4]; exact (Below.refl _ _).alloc (Nat.le_refl _) _
  have h4 : w4.heap[w3.heap.size]? = some (.cells (evC le2) 53 (0, 0)) := by rw [hw4]; exact heap_alloc_new _ _
  have hR := run_any (some ⟨w3.heap.size, 0, none⟩) [le2] 1 w4 (mxx_grow HX3.out hb4) (by simp) (evs_one h4) (fun x hx => by rw [List.mem_singleton.1 hx]; exact le2_may _) (by rw [show ([le2].filter fun x => decide (0 < x.done)) = [le2] from rfl]; simp)
  rw [le2_bad] at hR
  have HR2 := Lib.hid hR
  have HB4 := Lib.hid (HB3.out.trans (hb4.mono HB3.out.size))
  clear hw4 h4 hb4 hR hrg
  refine HR2.out.mono ?_
  rintro e w5 ⟨pr5, rfl, hb5⟩
  have HB5 := Lib.hid (HB4.out.trans (hb5.mono HB4.out.size))
  clear hb5
  go_wp2
  go_ret
  exact ⟨rfl, HB5.out⟩

end Go.Proofs.YtbpejjmfdhkfhaaGreatDoor
