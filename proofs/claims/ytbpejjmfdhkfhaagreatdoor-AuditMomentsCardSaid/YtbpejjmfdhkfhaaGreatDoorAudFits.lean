/- Walks: the audit's rises and fits. -/
import Derived.Test.YtbpejjmfdhkfhaaGreatDoorAudSame
import Derived.Test.YtbpejjmfdhkfhaaGreatDoorPosLives
import Derived.Test.YtbpejjmfdhkfhaaGreatDoorPosPlayed
import Derived.IntWalk
set_option linter.unusedVariables false
set_option linter.unusedSimpArgs false
namespace Go.Proofs.YtbpejjmfdhkfhaaGreatDoor
open Go.RowKit

theorem less_any (x y : Int) (w : World) : Calls Tryz.prog 98 #[.int .i64 x, .int .i64 y] w fun e w' => e = .returned (.bool (decide (x < y))) ∧ Below w.heap.size w w' := by
  by_cases h : x < y
  · rw [decide_eq_true h]
    go_enter Tryz.func98, Tryz.ntmps98
    go_wp2_with fail
    refine (nan_any x w).mono ?_
    rintro e w1 ⟨rfl, hb1⟩
    have HB := Lib.hid hb1
    clear hb1
    go_wp2
    go_ret
    exact ⟨rfl, HB.out⟩
  · rw [decide_eq_false h]
    have h' : y ≤ x := by omega
    have hd := decide_eq_false h
    clear h
    go_enter Tryz.func98, Tryz.ntmps98
    go_wp2_with fail
    refine (nan_any x w).mono ?_
    rintro e w1 ⟨rfl, hb1⟩
    have HB := Lib.hid hb1
    clear hb1
    go_wp2
    go_ret
    exact ⟨rfl, HB.out⟩

set_option maxHeartbeats 1000000 in
theorem sorted_any (g : Nat) (x y z : Int) (w : World) (h0 : w.cell? ⟨g, 0, none⟩ = some (.int .i64 x)) (h1 : w.cell? ⟨g, 1, none⟩ = some (.int .i64 y)) (h2 : w.cell? ⟨g, 2, none⟩ = some (.int .i64 z)) :
    Calls Tryz.prog 83 #[.slice (some ⟨g, 0, none⟩) 3 3] w (Told w (x ≤ y ∧ y ≤ z)) := by
  have HC := Lib.hid fun W (hW : Below w.heap.size w W) => show W.cell? ⟨g, 0, none⟩ = some (.int .i64 x) ∧ W.cell? ⟨g, 1, none⟩ = some (.int .i64 y) ∧ W.cell? ⟨g, 2, none⟩ = some (.int .i64 z) from by
    have hg := World.block_lt_of_cell? w ⟨g, 0, none⟩ h0
    exact ⟨(hW.cell (p := ⟨g, 0, none⟩) hg).trans h0, (hW.cell (p := ⟨g, 1, none⟩) hg).trans h1, (hW.cell (p := ⟨g, 2, none⟩) hg).trans h2⟩
  have hs0 : w.drew.cell? ⟨g, 1, none⟩ = some (.int .i64 y) ∧ w.drew.cell? ⟨g, 2, none⟩ = some (.int .i64 z) := ⟨h1, h2⟩
  have hw1 : IntKind.i64.wrap ((2 : Int) - 1) = 1 := (IntWalk.i64_in _ (by omega)).trans rfl
  have hw0 : IntKind.i64.wrap ((1 : Int) - 1) = 0 := (IntWalk.i64_in _ (by omega)).trans rfl
  have hw2 : IntKind.i64.wrap (1 : Int) = 1 := IntWalk.i64_in _ (by omega)
  have hw3 : IntKind.i64.wrap (0 : Int) = 0 := IntWalk.i64_in _ (by omega)
  clear h0 h1 h2
  go_enter Tryz.func83, Tryz.ntmps83
  go_wp2
  refine wp_loop_rounds 3 ?_
  rw [rounds_succ]
  go_upto_region 4 with fail
  go_region_held3 (fun w' => w'.cell? ⟨g, 1, none⟩ = some (.int .i64 y) ∧ w'.cell? ⟨g, 2, none⟩ = some (.int .i64 z)) (first | exact hs0 | exact hs1 | go_keep) (first | (go_at_call 98; refine (less_any z y _).mono ?_; rintro e w1 ⟨rfl, hb1⟩; have HB1 := Lib.hid ((Below.refl w.heap.size w).drew.trans hb1); have hs1 := (HC.out w1 HB1.out).2))
  clear hs0 hs1 hb1
  by_cases h : z < y
  · rw [decide_eq_true h]
    have HN : Hid (¬ (x ≤ y ∧ y ≤ z)) := Lib.hid (by omega)
    clear h
    try simp only [Exit.then]
    go_wp2
    go_ret
    exact ⟨false, rfl, iff_of_false (by simp) HN.out, HB1.out⟩
  · rw [decide_eq_false h]
    have HY := Lib.hid h
    clear h
    try simp only [Exit.then]
    go_wp2
    rw [rounds_succ]
    have hs0 : w1.drew.cell? ⟨g, 0, none⟩ = some (.int .i64 x) ∧ w1.drew.cell? ⟨g, 1, none⟩ = some (.int .i64 y) := ⟨(HC.out w1 HB1.out).1, (HC.out w1 HB1.out).2.1⟩
    go_upto_region 4 with fail
    go_region_held3 (fun w' => w'.cell? ⟨g, 0, none⟩ = some (.int .i64 x) ∧ w'.cell? ⟨g, 1, none⟩ = some (.int .i64 y)) (first | exact hs0 | exact hs2 | go_keep) (first | (go_at_call 98; refine (less_any y x _).mono ?_; rintro e w2 ⟨rfl, hb2⟩; have HB2 := Lib.hid (HB1.out.trans (((Below.refl w1.heap.size w1).drew.trans hb2).mono HB1.out.size)); have hs2 := And.intro (HC.out w2 HB2.out).1 (HC.out w2 HB2.out).2.1))
    clear hs0 hs2 hb2
    by_cases h : y < x
    · rw [decide_eq_true h]
      have HN : Hid (¬ (x ≤ y ∧ y ≤ z)) := Lib.hid (by omega)
      clear h
      try simp only [Exit.then]
      go_wp2
      go_ret
      exact ⟨false, rfl, iff_of_false (by simp) HN.out, HB2.out⟩
    · rw [decide_eq_false h]
      have HN : Hid (x ≤ y ∧ y ≤ z) := Lib.hid (by have := HY.out; omega)
      clear h
      try simp only [Exit.then]
      go_wp2
      rw [rounds_succ]
      go_wp2
      go_ret
      exact ⟨true, rfl, iff_of_true rfl HN.out, HB2.out⟩

theorem rises_any (g : Nat) (x y z : Int) (w : World) (h0 : w.cell? ⟨g, 0, none⟩ = some (.int .i64 x)) (h1 : w.cell? ⟨g, 1, none⟩ = some (.int .i64 y)) (h2 : w.cell? ⟨g, 2, none⟩ = some (.int .i64 z)) :
    Calls Tryz.prog 72 #[.slice (some ⟨g, 0, none⟩) 3 3] w (Told w (x ≤ y ∧ y ≤ z)) := by
  have HS := Lib.hid (sorted_any g x y z w h0 h1 h2)
  clear h0 h1 h2
  go_enter Tryz.func72, Tryz.ntmps72
  go_wp2_with fail
  refine HS.out.mono ?_
  rintro e w1 ⟨b, rfl, hb, hw⟩
  have HB := Lib.hid (And.intro hb hw)
  clear hb hw
  go_wp2
  go_ret
  exact ⟨b, rfl, HB.out.1, HB.out.2⟩

/-- an event is done, and it is told whether it fits -/
theorem ev16 {w : World} {g t : Nat} {x : Ev} (h : w.heap[g]? = some (.cells (evC x) t (0, 0))) : w.cell? ⟨g, 0, none⟩ = some (.int .i64 x.cl) ∧ w.cell? ⟨g, 2, none⟩ = some (.int .i64 x.kind) ∧ w.cell? ⟨g, 3, none⟩ = some (.string x.p) ∧ w.cell? ⟨g, 4, none⟩ = some (.string x.p2) ∧ w.cell? ⟨g, 5, none⟩ = some (.int .i64 x.flags) ∧ w.cell? ⟨g, 6, none⟩ = some (.int .i64 x.fd) ∧ w.cell? ⟨g, 7, none⟩ = some (.int .i64 x.off) ∧ w.cell? ⟨g, 8, none⟩ = some (.int .i64 x.n) ∧ w.cell? ⟨g, 9, none⟩ = some (.string x.data) ∧ w.cell? ⟨g, 13, none⟩ = some (.int .i64 x.q.errno) ∧ w.cell? ⟨g, 14, none⟩ = some (.int .i64 x.q.fd) ∧ w.cell? ⟨g, 15, none⟩ = some (.string ⟨x.q.data.toArray⟩) ∧ w.cell? ⟨g, 16, none⟩ = some (.slice x.A x.q.names.length x.c) ∧ w.cell? ⟨g, 17, none⟩ = some (.int .i64 x.q.kind) ∧ w.cell? ⟨g, 18, none⟩ = some (.int .i64 x.q.links) ∧ w.cell? ⟨g, 19, none⟩ = some (.int .i64 x.q.size) :=
  ⟨cell_of_row w g 0 _ t _ h, cell_of_row w g 2 _ t _ h, cell_of_row w g 3 _ t _ h, cell_of_row w g 4 _ t _ h, cell_of_row w g 5 _ t _ h, cell_of_row w g 6 _ t _ h, cell_of_row w g 7 _ t _ h, cell_of_row w g 8 _ t _ h, cell_of_row w g 9 _ t _ h, cell_of_row w g 13 _ t _ h, cell_of_row w g 14 _ t _ h, cell_of_row w g 15 _ t _ h, cell_of_row w g 16 _ t _ h, cell_of_row w g 17 _ t _ h, cell_of_row w g 18 _ t _ h, cell_of_row w g 19 _ t _ h⟩
theorem cells3 {w : World} {g t : Nat} {a0 a1 a2 : Value} (h : w.heap[g]? = some (.cells #[a0, a1, a2] t (0, 0))) : w.cell? ⟨g, 0, none⟩ = some a0 ∧ w.cell? ⟨g, 1, none⟩ = some a1 ∧ w.cell? ⟨g, 2, none⟩ = some a2 :=
  ⟨cell_of_row w g 0 _ t _ h, cell_of_row w g 1 _ t _ h, cell_of_row w g 2 _ t _ h⟩

def FitsSaid [Inhabited XBox] (w0 : World) (pr : Nat) (S : Pz.Fil) (x : Ev) (F : Nat → Prop) (w : World) (e : Ending) (w' : World) : Prop :=
  ∃ (b : Bool) (F' : Nat → Prop), e = .returned (.bool b) ∧ (b = true ↔ Fits S x) ∧ Alone w0 pr (evDo S x).1 F' w' ∧ ∀ g x, Mine F g x w → Mine F' g x w'

set_option maxHeartbeats 4000000 in
set_option maxRecDepth 100000 in
theorem fits_any [Inhabited XBox] {w0 w : World} {pr : Nat} {S : Pz.Fil} {F : Nat → Prop} (h : Alone w0 pr S F w) (x : Ev) (hcl : I64 x.cl) (hfd : I64 x.fd) (hp : x.p.size ≤ 100000) (hp2 : x.p2.size ≤ 100000) (hG : Pz.Good 1000 S) (hN : Nmz w0 x.A x.q.names) (hl : x.q.names.length ≤ 9223372036854775807) (h18 : x.q.errno ≠ 18) (ht : 0 < x.told ∨ x.q.errno = 0) :
    Calls Tryz.prog 50 #[.pointer (some ⟨pr, 0, none⟩), evV x] w (FitsSaid w0 pr S x F w) := by
  obtain ⟨wb, hwb⟩ : ∃ v, v = w.alloc (.cells (evC x) 53) := ⟨_, rfl⟩
  have hbb : Below w.heap.size w wb := by rw [hwb]; exact (Below.refl _ _).alloc (Nat.le_refl _) _
  have hM0 := Mine.make h (evC x) 53
  rw [← hwb] at hM0
  obtain ⟨g, hg⟩ : ∃ g, g = w.heap.size := ⟨_, rfl⟩
  rw [← hg] at hM0
  have HG0 := Lib.hid hg.symm
  have HM := Lib.hid hM0
  have HKb := Lib.hid fun g x (hm : Mine F g x w) => hm.keep hbb
  have HA := Lib.hid (h.keep hbb)
  have HWb := Lib.hid hwb
  obtain ⟨R, hR⟩ : ∃ R, R = evDo S x := ⟨_, rfl⟩
  have HRS := Lib.hid hR.symm
  have HDo := Lib.hid fun W F (hW : Alone w0 pr S F W) => do_alone hW x.cl x.kind x.flags x.fd x.off x.n x.p x.p2 x.data hcl hfd hp hp2 hG R hR.symm
  have HLr : Hid (R.2.names.length ≤ 9223372036854775807) := Lib.hid (by
    rw [hR]
    have := Pz.do_names S x.cl x.kind x.p.data.toList x.p2.data.toList x.flags x.fd x.off x.n x.data.data.toList
    have := hG.e
    unfold evDo
    omega)
  have HLq := Lib.hid hl
  have HN := Lib.hid hN
  have HFit : Hid (Fits S x ↔ (0 < x.told → x.asked ≤ x.done ∧ x.done ≤ x.told ∧ R.2 = x.q)) := Lib.hid (by rw [hR]; exact Iff.rfl)
  obtain ⟨c0, c1, c2, c3, c4, c5, c6, c7, c8, c9, c10, c11, c12, c13, c14, c15, c16, c17, c18, c19⟩ := evAt_row hM0.1
  have hb18 : ((x.q.errno : Int) == 18) = false := by rw [beq_eq_false_iff_ne]; exact h18
  clear hcl hfd hp hp2 hG hN hl h h18 hR hM0 hg hbb hwb c1
  unfold callV at HDo
  unfold evV evC
  unfold evC at HWb
  go_enter Tryz.func50, Tryz.ntmps50
  go_upto_region 1 with fail
  rw [← HWb.out]
  rw [HG0.out]
  by_cases ht0 : 0 < x.told
  · clear ht
    have HT := Lib.hid ht0
    clear ht0
    have ht1 : (0 : Int) < x.told := HT.out
    obtain ⟨wc, hwc⟩ : ∃ v, v = wb.alloc (.cells #[.int .i64 x.asked, .int .i64 x.done, .int .i64 x.told] 3) := ⟨_, rfl⟩
    have hbc : Below wb.heap.size wb wc := by rw [hwc]; exact (Below.refl _ _).alloc (Nat.le_refl _) _
    have hcc : wc.heap[wb.heap.size]? = some (.cells #[.int .i64 x.asked, .int .i64 x.done, .int .i64 x.told] 3 (0, 0)) := by
      rw [hwc]; exact heap_alloc_new _ _
    obtain ⟨z0, z1, z2⟩ := cells3 hcc
    have HRi := Lib.hid (rises_any wb.heap.size x.asked x.done x.told wc z0 z1 z2)
    have HAc := Lib.hid (HA.out.keep hbc)
    have HMc := Lib.hid (HM.out.keep hbc)
    have HKc := Lib.hid fun g x (hm : Mine F g x w) => (HKb.out g x hm).keep hbc
    have HWc := Lib.hid hwc
    clear hwc hbc hcc z0 z1 z2 HA HM HKb
    go_wp2_with fail
    rw [← HWc.out]
    refine HRi.out.mono ?_
    rintro e wd ⟨r, rfl, hr, hbd⟩
    have HAd0 := Lib.hid (HAc.out.keep hbd)
    have HMd0 := Lib.hid (HMc.out.keep hbd)
    have HKeep := Lib.hid fun g x (hm : Mine F g x w) => (HKc.out g x hm).keep hbd
    have HR := Lib.hid hr
    clear hr hbd HAc HMc HKc HRi c0 c2 c3 c4 c5 c6 c7 c8 c9 c10 c11 c12 c13 c14 c15 c16 c17 c18 c19
    obtain ⟨c0, c1, c2, c3, c4, c5, c6, c7, c8, c9, c10, c11, c12, c13, c14, c15, c16, c17, c18, c19⟩ := evAt_row HMd0.out.1
    cases r with
    | false =>
      have HNo : Hid (¬ Fits S x) := Lib.hid fun h => by
        have := (HFit.out.1 h) HT.out
        exact absurd (HR.out.2 ⟨this.1, this.2.1⟩) (by simp)
      go_wp2_with fail
      refine (HDo.out _ _ HAd0.out).mono ?_
      rintro e w5 ⟨A5, k5, F5, rfl, hS5, hA5, hM5⟩
      have HA5 := Lib.hid hA5
      have HM5 := Lib.hid fun g x (hm : Mine F g x w) => hM5 g x (HKeep.out g x hm)
      clear hS5 hA5 hM5 c0 c2 c3 c4 c5 c6 c7 c8 c9 c10 c11 c12 c13 c14 c15 c16 c17 c18 c19 c1
      go_wp2
      go_ret
      exact ⟨false, F5, rfl, iff_of_false (by simp) HNo.out, (by rw [HRS.out]; exact HA5.out), HM5.out⟩
    | true =>
      have HAd := Lib.hid (HAd0.out.keep (Below.refl _ wd).drew)
      have HMd := Lib.hid (HMd0.out.keep (Below.refl _ wd).drew)
      have hs0 := ev16 HMd.out.1
      have hq := Classical.em (R.2 = x.q)
      rcases hq with hq | hq
      · have Hq := Lib.hid hq
        clear hq
        go_upto_region 7 with fail
        refine wp_region_held_drew (S := (fun w' => w'.cell? ⟨g, 0, none⟩ = some (.int .i64 x.cl) ∧ w'.cell? ⟨g, 2, none⟩ = some (.int .i64 x.kind) ∧ w'.cell? ⟨g, 3, none⟩ = some (.string x.p) ∧ w'.cell? ⟨g, 4, none⟩ = some (.string x.p2) ∧ w'.cell? ⟨g, 5, none⟩ = some (.int .i64 x.flags) ∧ w'.cell? ⟨g, 6, none⟩ = some (.int .i64 x.fd) ∧ w'.cell? ⟨g, 7, none⟩ = some (.int .i64 x.off) ∧ w'.cell? ⟨g, 8, none⟩ = some (.int .i64 x.n) ∧ w'.cell? ⟨g, 9, none⟩ = some (.string x.data) ∧ w'.cell? ⟨g, 13, none⟩ = some (.int .i64 x.q.errno) ∧ w'.cell? ⟨g, 14, none⟩ = some (.int .i64 x.q.fd) ∧ w'.cell? ⟨g, 15, none⟩ = some (.string ⟨x.q.data.toArray⟩) ∧ w'.cell? ⟨g, 16, none⟩ = some (.slice x.A x.q.names.length x.c) ∧ w'.cell? ⟨g, 17, none⟩ = some (.int .i64 x.q.kind) ∧ w'.cell? ⟨g, 18, none⟩ = some (.int .i64 x.q.links) ∧ w'.cell? ⟨g, 19, none⟩ = some (.int .i64 x.q.size))) (by kernel_rfl) ?_ (fun hHeld => ?_)
        · exact hs0
        refine wpAnyH_take (i := 0) (oi := _) (v := ?_) rfl (by kernel_rfl) (by kernel_rfl) (by kernel_rfl) (fun _ _ _ h => h) (Or.inl ⟨by rfl, ?_⟩) (by assumption) ?_
        rotate_left
        · intro w hSw
          (try dsimp only at hSw)
          first | (go_simp; done) | (go_simp; with_reducible rfl)
        try simp only [List.getElem_toArray, List.getElem_cons_succ, List.getElem_cons_zero, Act.put, List.setIfInBounds_toArray, List.set_cons_zero, List.set_cons_succ]
        refine wpAnyH_take (i := 1) (oi := _) (v := ?_) rfl (by kernel_rfl) (by kernel_rfl) (by kernel_rfl) (fun _ _ _ h => h) (Or.inl ⟨by rfl, ?_⟩) (by assumption) ?_
        rotate_left
        · intro w hSw
          (try dsimp only at hSw)
          first | (go_simp; done) | (go_simp; with_reducible rfl)
        try simp only [List.getElem_toArray, List.getElem_cons_succ, List.getElem_cons_zero, Act.put, List.setIfInBounds_toArray, List.set_cons_zero, List.set_cons_succ]
        refine wpAnyH_take (i := 2) (oi := _) (v := ?_) rfl (by kernel_rfl) (by kernel_rfl) (by kernel_rfl) (fun _ _ _ h => h) (Or.inl ⟨by rfl, ?_⟩) (by assumption) ?_
        rotate_left
        · intro w hSw
          (try dsimp only at hSw)
          first | (go_simp; done) | (go_simp; with_reducible rfl)
        try simp only [List.getElem_toArray, List.getElem_cons_succ, List.getElem_cons_zero, Act.put, List.setIfInBounds_toArray, List.set_cons_zero, List.set_cons_succ]
        refine wpAnyH_take (i := 3) (oi := _) (v := ?_) rfl (by kernel_rfl) (by kernel_rfl) (by kernel_rfl) (fun _ _ _ h => h) (Or.inl ⟨by rfl, ?_⟩) (by assumption) ?_
        rotate_left
        · intro w hSw
          (try dsimp only at hSw)
          first | (go_simp; done) | (go_simp; with_reducible rfl)
        try simp only [List.getElem_toArray, List.getElem_cons_succ, List.getElem_cons_zero, Act.put, List.setIfInBounds_toArray, List.set_cons_zero, List.set_cons_succ]
        refine wpAnyH_take (i := 4) (oi := _) (v := ?_) rfl (by kernel_rfl) (by kernel_rfl) (by kernel_rfl) (fun _ _ _ h => h) (Or.inl ⟨by rfl, ?_⟩) (by assumption) ?_
        rotate_left
        · intro w hSw
          (try dsimp only at hSw)
          first | (go_simp; done) | (go_simp; with_reducible rfl)
        try simp only [List.getElem_toArray, List.getElem_cons_succ, List.getElem_cons_zero, Act.put, List.setIfInBounds_toArray, List.set_cons_zero, List.set_cons_succ]
        refine wpAnyH_take (i := 5) (oi := _) (v := ?_) rfl (by kernel_rfl) (by kernel_rfl) (by kernel_rfl) (fun _ _ _ h => h) (Or.inl ⟨by rfl, ?_⟩) (by assumption) ?_
        rotate_left
        · intro w hSw
          (try dsimp only at hSw)
          first | (go_simp; done) | (go_simp; with_reducible rfl)
        try simp only [List.getElem_toArray, List.getElem_cons_succ, List.getElem_cons_zero, Act.put, List.setIfInBounds_toArray, List.set_cons_zero, List.set_cons_succ]
        refine wpAnyH_take (i := 6) (oi := _) (v := ?_) rfl (by kernel_rfl) (by kernel_rfl) (by kernel_rfl) (fun _ _ _ h => h) (Or.inl ⟨by rfl, ?_⟩) (by assumption) ?_
        rotate_left
        · intro w hSw
          (try dsimp only at hSw)
          first | (go_simp; done) | (go_simp; with_reducible rfl)
        try simp only [List.getElem_toArray, List.getElem_cons_succ, List.getElem_cons_zero, Act.put, List.setIfInBounds_toArray, List.set_cons_zero, List.set_cons_succ]
        refine wpAnyH_take (i := 8) (oi := _) (v := ?_) rfl (by kernel_rfl) (by kernel_rfl) (by kernel_rfl) (fun _ _ _ h => h) (Or.inl ⟨by rfl, ?_⟩) (by assumption) ?_
        rotate_left
        · intro w hSw
          (try dsimp only at hSw)
          first | (go_simp; done) | (go_simp; with_reducible rfl)
        try simp only [List.getElem_toArray, List.getElem_cons_succ, List.getElem_cons_zero, Act.put, List.setIfInBounds_toArray, List.set_cons_zero, List.set_cons_succ]
        refine wpAnyH_take (i := 9) (oi := _) (v := ?_) rfl (by kernel_rfl) (by kernel_rfl) (by kernel_rfl) (fun _ _ _ h => h) (Or.inl ⟨by rfl, ?_⟩) (by assumption) ?_
        rotate_left
        · intro w hSw
          (try dsimp only at hSw)
          first | (go_simp; done) | (go_simp; with_reducible rfl)
        try simp only [List.getElem_toArray, List.getElem_cons_succ, List.getElem_cons_zero, Act.put, List.setIfInBounds_toArray, List.set_cons_zero, List.set_cons_succ]
        refine wpAnyH_ready (rs := [7]) (by kernel_rfl) (by simp) ?_
        refine AllReadyH.cons (o := _) rfl (fun K hK => ?_) AllReadyH.nil
        go_simp
        go_at_call 7
        refine (HDo.out _ _ HAd.out).mono ?_
        rintro e w5 ⟨A5, k5, F5, rfl, hS5, hA5, hM5⟩
        have HA5 := Lib.hid hA5
        have HS5 := Lib.hid hS5
        have HM5 := Lib.hid (hM5 _ _ HMd.out)
        have HMx5 := Lib.hid hM5
        clear hS5 hA5 hM5
        dsimp only
        refine hK.out _ _ (ev16 HM5.out.1) (fun hHeld => ?_)
        clear hK K
        try simp only [List.getElem_toArray, List.getElem_cons_succ, List.getElem_cons_zero, Act.put, List.setIfInBounds_toArray, List.set_cons_zero, List.set_cons_succ]
        refine wpAnyH_ready (rs := [10]) (by kernel_rfl) (by simp) ?_
        refine AllReadyH.cons (o := _) rfl (fun K hK => ?_) AllReadyH.nil
        go_simp
        go_at_call 73
        refine (asame_any R.2 x.q A5 x.A k5 x.c w5 HLr.out HLq.out HS5.out.nmz (HN.out.keep HA5.out.below)).mono ?_
        rintro e w6 ⟨b6, rfl, hb6, hw6⟩
        obtain rfl : b6 = true := hb6.2 Hq.out
        have HA6 := Lib.hid (HA5.out.keep hw6)
        have HMx6 : Hid (∀ g x, Mine F g x w → Mine F5 g x w6) := Lib.hid (fun g x hm => (HMx5.out g x ((HKeep.out g x hm).keep (Below.refl _ wd).drew)).keep hw6)
        have HM6 := Lib.hid (HM5.out.keep hw6)
        clear hb6 hw6
        dsimp only
        refine hK.out _ _ (ev16 HM6.out.1) (fun hHeld => ?_)
        clear hK K
        try simp only [List.getElem_toArray, List.getElem_cons_succ, List.getElem_cons_zero, Act.put, List.setIfInBounds_toArray, List.set_cons_zero, List.set_cons_succ]
        refine wpAnyH_take (i := 11) (oi := _) (v := ?_) rfl (by kernel_rfl) (by kernel_rfl) (by kernel_rfl) (fun _ _ _ h => h) (Or.inl ⟨by rfl, ?_⟩) (by assumption) ?_
        rotate_left
        · intro w hSw
          (try dsimp only at hSw)
          first | (go_simp; done) | (go_simp; with_reducible rfl)
        try simp only [List.getElem_toArray, List.getElem_cons_succ, List.getElem_cons_zero, Act.put, List.setIfInBounds_toArray, List.set_cons_zero, List.set_cons_succ]
        refine wpAnyH_take (i := 12) (oi := _) (v := ?_) rfl (by kernel_rfl) (by kernel_rfl) (by kernel_rfl) (fun _ _ _ h => h) (Or.inl ⟨by rfl, ?_⟩) (by assumption) ?_
        rotate_left
        · intro w hSw
          (try dsimp only at hSw)
          first | (go_simp; done) | (go_simp; with_reducible rfl)
        try simp only [List.getElem_toArray, List.getElem_cons_succ, List.getElem_cons_zero, Act.put, List.setIfInBounds_toArray, List.set_cons_zero, List.set_cons_succ]
        refine wpAnyH_take (i := 13) (oi := _) (v := undef) rfl (by kernel_rfl) (by kernel_rfl) (by kernel_rfl) (fun _ _ _ h => h) (Or.inr ⟨by rfl, rfl⟩) (by assumption) ?_
        try simp only [List.getElem_toArray, List.getElem_cons_succ, List.getElem_cons_zero, Act.put, List.setIfInBounds_toArray, List.set_cons_zero, List.set_cons_succ]
        refine wpAnyH_take (i := 14) (oi := _) (v := undef) rfl (by kernel_rfl) (by kernel_rfl) (by kernel_rfl) (fun _ _ _ h => h) (Or.inr ⟨by rfl, rfl⟩) (by assumption) ?_
        try simp only [List.getElem_toArray, List.getElem_cons_succ, List.getElem_cons_zero, Act.put, List.setIfInBounds_toArray, List.set_cons_zero, List.set_cons_succ]
        refine wpAnyH_take (i := 15) (oi := _) (v := ?_) rfl (by kernel_rfl) (by kernel_rfl) (by kernel_rfl) (fun _ _ _ h => h) (Or.inl ⟨by rfl, ?_⟩) (by assumption) ?_
        rotate_left
        · intro w hSw
          (try dsimp only at hSw)
          first | (go_simp; done) | (go_simp; with_reducible rfl)
        try simp only [List.getElem_toArray, List.getElem_cons_succ, List.getElem_cons_zero, Act.put, List.setIfInBounds_toArray, List.set_cons_zero, List.set_cons_succ]
        refine wpAnyH_take (i := 16) (oi := _) (v := ?_) rfl (by kernel_rfl) (by kernel_rfl) (by kernel_rfl) (fun _ _ _ h => h) (Or.inl ⟨by rfl, ?_⟩) (by assumption) ?_
        rotate_left
        · intro w hSw
          (try dsimp only at hSw)
          first | (go_simp; done) | (go_simp; with_reducible rfl)
        try simp only [List.getElem_toArray, List.getElem_cons_succ, List.getElem_cons_zero, Act.put, List.setIfInBounds_toArray, List.set_cons_zero, List.set_cons_succ]
        refine wpAnyH_done (by kernel_rfl) ?_ _
        simp only [Exit.then]
        have HYes : Hid (Fits S x) := Lib.hid (HFit.out.2 fun _ => ⟨(HR.out.1 (by simp)).1, (HR.out.1 (by simp)).2, Hq.out⟩)
        go_wp2
        go_ret
        exact ⟨true, F5, rfl, iff_of_true rfl HYes.out, (by rw [HRS.out]; exact HA6.out), HMx6.out⟩
      · have Hq := Lib.hid hq
        clear hq
        go_upto_region 7 with fail
        refine wp_region_held_drew (S := (fun w' => w'.cell? ⟨g, 0, none⟩ = some (.int .i64 x.cl) ∧ w'.cell? ⟨g, 2, none⟩ = some (.int .i64 x.kind) ∧ w'.cell? ⟨g, 3, none⟩ = some (.string x.p) ∧ w'.cell? ⟨g, 4, none⟩ = some (.string x.p2) ∧ w'.cell? ⟨g, 5, none⟩ = some (.int .i64 x.flags) ∧ w'.cell? ⟨g, 6, none⟩ = some (.int .i64 x.fd) ∧ w'.cell? ⟨g, 7, none⟩ = some (.int .i64 x.off) ∧ w'.cell? ⟨g, 8, none⟩ = some (.int .i64 x.n) ∧ w'.cell? ⟨g, 9, none⟩ = some (.string x.data) ∧ w'.cell? ⟨g, 13, none⟩ = some (.int .i64 x.q.errno) ∧ w'.cell? ⟨g, 14, none⟩ = some (.int .i64 x.q.fd) ∧ w'.cell? ⟨g, 15, none⟩ = some (.string ⟨x.q.data.toArray⟩) ∧ w'.cell? ⟨g, 16, none⟩ = some (.slice x.A x.q.names.length x.c) ∧ w'.cell? ⟨g, 17, none⟩ = some (.int .i64 x.q.kind) ∧ w'.cell? ⟨g, 18, none⟩ = some (.int .i64 x.q.links) ∧ w'.cell? ⟨g, 19, none⟩ = some (.int .i64 x.q.size))) (by kernel_rfl) ?_ (fun hHeld => ?_)
        · exact hs0
        refine wpAnyH_take (i := 0) (oi := _) (v := ?_) rfl (by kernel_rfl) (by kernel_rfl) (by kernel_rfl) (fun _ _ _ h => h) (Or.inl ⟨by rfl, ?_⟩) (by assumption) ?_
        rotate_left
        · intro w hSw
          (try dsimp only at hSw)
          first | (go_simp; done) | (go_simp; with_reducible rfl)
        try simp only [List.getElem_toArray, List.getElem_cons_succ, List.getElem_cons_zero, Act.put, List.setIfInBounds_toArray, List.set_cons_zero, List.set_cons_succ]
        refine wpAnyH_take (i := 1) (oi := _) (v := ?_) rfl (by kernel_rfl) (by kernel_rfl) (by kernel_rfl) (fun _ _ _ h => h) (Or.inl ⟨by rfl, ?_⟩) (by assumption) ?_
        rotate_left
        · intro w hSw
          (try dsimp only at hSw)
          first | (go_simp; done) | (go_simp; with_reducible rfl)
        try simp only [List.getElem_toArray, List.getElem_cons_succ, List.getElem_cons_zero, Act.put, List.setIfInBounds_toArray, List.set_cons_zero, List.set_cons_succ]
        refine wpAnyH_take (i := 2) (oi := _) (v := ?_) rfl (by kernel_rfl) (by kernel_rfl) (by kernel_rfl) (fun _ _ _ h => h) (Or.inl ⟨by rfl, ?_⟩) (by assumption) ?_
        rotate_left
        · intro w hSw
          (try dsimp only at hSw)
          first | (go_simp; done) | (go_simp; with_reducible rfl)
        try simp only [List.getElem_toArray, List.getElem_cons_succ, List.getElem_cons_zero, Act.put, List.setIfInBounds_toArray, List.set_cons_zero, List.set_cons_succ]
        refine wpAnyH_take (i := 3) (oi := _) (v := ?_) rfl (by kernel_rfl) (by kernel_rfl) (by kernel_rfl) (fun _ _ _ h => h) (Or.inl ⟨by rfl, ?_⟩) (by assumption) ?_
        rotate_left
        · intro w hSw
          (try dsimp only at hSw)
          first | (go_simp; done) | (go_simp; with_reducible rfl)
        try simp only [List.getElem_toArray, List.getElem_cons_succ, List.getElem_cons_zero, Act.put, List.setIfInBounds_toArray, List.set_cons_zero, List.set_cons_succ]
        refine wpAnyH_take (i := 4) (oi := _) (v := ?_) rfl (by kernel_rfl) (by kernel_rfl) (by kernel_rfl) (fun _ _ _ h => h) (Or.inl ⟨by rfl, ?_⟩) (by assumption) ?_
        rotate_left
        · intro w hSw
          (try dsimp only at hSw)
          first | (go_simp; done) | (go_simp; with_reducible rfl)
        try simp only [List.getElem_toArray, List.getElem_cons_succ, List.getElem_cons_zero, Act.put, List.setIfInBounds_toArray, List.set_cons_zero, List.set_cons_succ]
        refine wpAnyH_take (i := 5) (oi := _) (v := ?_) rfl (by kernel_rfl) (by kernel_rfl) (by kernel_rfl) (fun _ _ _ h => h) (Or.inl ⟨by rfl, ?_⟩) (by assumption) ?_
        rotate_left
        · intro w hSw
          (try dsimp only at hSw)
          first | (go_simp; done) | (go_simp; with_reducible rfl)
        try simp only [List.getElem_toArray, List.getElem_cons_succ, List.getElem_cons_zero, Act.put, List.setIfInBounds_toArray, List.set_cons_zero, List.set_cons_succ]
        refine wpAnyH_take (i := 6) (oi := _) (v := ?_) rfl (by kernel_rfl) (by kernel_rfl) (by kernel_rfl) (fun _ _ _ h => h) (Or.inl ⟨by rfl, ?_⟩) (by assumption) ?_
        rotate_left
        · intro w hSw
          (try dsimp only at hSw)
          first | (go_simp; done) | (go_simp; with_reducible rfl)
        try simp only [List.getElem_toArray, List.getElem_cons_succ, List.getElem_cons_zero, Act.put, List.setIfInBounds_toArray, List.set_cons_zero, List.set_cons_succ]
        refine wpAnyH_take (i := 8) (oi := _) (v := ?_) rfl (by kernel_rfl) (by kernel_rfl) (by kernel_rfl) (fun _ _ _ h => h) (Or.inl ⟨by rfl, ?_⟩) (by assumption) ?_
        rotate_left
        · intro w hSw
          (try dsimp only at hSw)
          first | (go_simp; done) | (go_simp; with_reducible rfl)
        try simp only [List.getElem_toArray, List.getElem_cons_succ, List.getElem_cons_zero, Act.put, List.setIfInBounds_toArray, List.set_cons_zero, List.set_cons_succ]
        refine wpAnyH_take (i := 9) (oi := _) (v := ?_) rfl (by kernel_rfl) (by kernel_rfl) (by kernel_rfl) (fun _ _ _ h => h) (Or.inl ⟨by rfl, ?_⟩) (by assumption) ?_
        rotate_left
        · intro w hSw
          (try dsimp only at hSw)
          first | (go_simp; done) | (go_simp; with_reducible rfl)
        try simp only [List.getElem_toArray, List.getElem_cons_succ, List.getElem_cons_zero, Act.put, List.setIfInBounds_toArray, List.set_cons_zero, List.set_cons_succ]
        refine wpAnyH_ready (rs := [7]) (by kernel_rfl) (by simp) ?_
        refine AllReadyH.cons (o := _) rfl (fun K hK => ?_) AllReadyH.nil
        go_simp
        go_at_call 7
        refine (HDo.out _ _ HAd.out).mono ?_
        rintro e w5 ⟨A5, k5, F5, rfl, hS5, hA5, hM5⟩
        have HA5 := Lib.hid hA5
        have HS5 := Lib.hid hS5
        have HM5 := Lib.hid (hM5 _ _ HMd.out)
        have HMx5 := Lib.hid hM5
        clear hS5 hA5 hM5
        dsimp only
        refine hK.out _ _ (ev16 HM5.out.1) (fun hHeld => ?_)
        clear hK K
        try simp only [List.getElem_toArray, List.getElem_cons_succ, List.getElem_cons_zero, Act.put, List.setIfInBounds_toArray, List.set_cons_zero, List.set_cons_succ]
        refine wpAnyH_ready (rs := [10]) (by kernel_rfl) (by simp) ?_
        refine AllReadyH.cons (o := _) rfl (fun K hK => ?_) AllReadyH.nil
        go_simp
        go_at_call 73
        refine (asame_any R.2 x.q A5 x.A k5 x.c w5 HLr.out HLq.out HS5.out.nmz (HN.out.keep HA5.out.below)).mono ?_
        rintro e w6 ⟨b6, rfl, hb6, hw6⟩
        obtain rfl : b6 = false := Bool.eq_false_iff.2 fun h => Hq.out (hb6.1 h)
        have HA6 := Lib.hid (HA5.out.keep hw6)
        have HMx6 : Hid (∀ g x, Mine F g x w → Mine F5 g x w6) := Lib.hid (fun g x hm => (HMx5.out g x ((HKeep.out g x hm).keep (Below.refl _ wd).drew)).keep hw6)
        have HM6 := Lib.hid (HM5.out.keep hw6)
        clear hb6 hw6
        dsimp only
        refine hK.out _ _ (ev16 HM6.out.1) (fun hHeld => ?_)
        clear hK K
        try simp only [List.getElem_toArray, List.getElem_cons_succ, List.getElem_cons_zero, Act.put, List.setIfInBounds_toArray, List.set_cons_zero, List.set_cons_succ]
        refine wpAnyH_take (i := 11) (oi := _) (v := ?_) rfl (by kernel_rfl) (by kernel_rfl) (by kernel_rfl) (fun _ _ _ h => h) (Or.inl ⟨by rfl, ?_⟩) (by assumption) ?_
        rotate_left
        · intro w hSw
          (try dsimp only at hSw)
          first | (go_simp; done) | (go_simp; with_reducible rfl)
        try simp only [List.getElem_toArray, List.getElem_cons_succ, List.getElem_cons_zero, Act.put, List.setIfInBounds_toArray, List.set_cons_zero, List.set_cons_succ]
        refine wpAnyH_take (i := 12) (oi := _) (v := ?_) rfl (by kernel_rfl) (by kernel_rfl) (by kernel_rfl) (fun _ _ _ h => h) (Or.inl ⟨by rfl, ?_⟩) (by assumption) ?_
        rotate_left
        · intro w hSw
          (try dsimp only at hSw)
          first | (go_simp; done) | (go_simp; with_reducible rfl)
        try simp only [List.getElem_toArray, List.getElem_cons_succ, List.getElem_cons_zero, Act.put, List.setIfInBounds_toArray, List.set_cons_zero, List.set_cons_succ]
        refine wpAnyH_take (i := 13) (oi := _) (v := ?_) rfl (by kernel_rfl) (by kernel_rfl) (by kernel_rfl) (fun _ _ _ h => h) (Or.inl ⟨by rfl, ?_⟩) (by assumption) ?_
        rotate_left
        · intro w hSw
          (try dsimp only at hSw)
          first | (go_simp; done) | (go_simp; with_reducible rfl)
        try simp only [List.getElem_toArray, List.getElem_cons_succ, List.getElem_cons_zero, Act.put, List.setIfInBounds_toArray, List.set_cons_zero, List.set_cons_succ]
        refine wpAnyH_take (i := 14) (oi := _) (v := ?_) rfl (by kernel_rfl) (by kernel_rfl) (by kernel_rfl) (fun _ _ _ h => h) (Or.inl ⟨by rfl, ?_⟩) (by assumption) ?_
        rotate_left
        · intro w hSw
          (try dsimp only at hSw)
          first | (go_simp; done) | (go_simp; with_reducible rfl)
        try simp only [List.getElem_toArray, List.getElem_cons_succ, List.getElem_cons_zero, Act.put, List.setIfInBounds_toArray, List.set_cons_zero, List.set_cons_succ]
        refine wpAnyH_take (i := 15) (oi := _) (v := ?_) rfl (by kernel_rfl) (by kernel_rfl) (by kernel_rfl) (fun _ _ _ h => h) (Or.inl ⟨by rfl, ?_⟩) (by assumption) ?_
        rotate_left
        · intro w hSw
          (try dsimp only at hSw)
          first | (go_simp; done) | (go_simp; with_reducible rfl)
        try simp only [List.getElem_toArray, List.getElem_cons_succ, List.getElem_cons_zero, Act.put, List.setIfInBounds_toArray, List.set_cons_zero, List.set_cons_succ]
        refine wpAnyH_take (i := 16) (oi := _) (v := ?_) rfl (by kernel_rfl) (by kernel_rfl) (by kernel_rfl) (fun _ _ _ h => h) (Or.inl ⟨by rfl, ?_⟩) (by assumption) ?_
        rotate_left
        · intro w hSw
          (try dsimp only at hSw)
          first | (go_simp; done) | (go_simp; with_reducible rfl)
        try simp only [List.getElem_toArray, List.getElem_cons_succ, List.getElem_cons_zero, Act.put, List.setIfInBounds_toArray, List.set_cons_zero, List.set_cons_succ]
        refine wpAnyH_done (by kernel_rfl) ?_ _
        simp only [Exit.then]
        have HYes : Hid (¬ Fits S x) := Lib.hid (fun h => Hq.out ((HFit.out.1 h) HT.out).2.2)
        go_wp2
        go_ret
        exact ⟨false, F5, rfl, iff_of_false (by simp) HYes.out, (by rw [HRS.out]; exact HA6.out), HMx6.out⟩
  · have he0 := ht.resolve_left ht0
    have hne0 : ((x.q.errno : Int) != 0) = false := by rw [he0]; rfl
    have HT := Lib.hid ht0
    have ht1 : x.told ≤ (0 : Int) := by omega
    have HKeep := HKb
    clear ht ht0 he0
    have HAd := Lib.hid (HA.out.keep (Below.refl _ wb).drew)
    have HMd := Lib.hid (HM.out.keep (Below.refl _ wb).drew)
    have hs0 := ev16 HMd.out.1
    have hq := Classical.em (R.2 = x.q)
    rcases hq with hq | hq
    · have Hq := Lib.hid hq
      clear hq
      go_upto_region 7 with fail
      refine wp_region_held_drew (S := (fun w' => w'.cell? ⟨g, 0, none⟩ = some (.int .i64 x.cl) ∧ w'.cell? ⟨g, 2, none⟩ = some (.int .i64 x.kind) ∧ w'.cell? ⟨g, 3, none⟩ = some (.string x.p) ∧ w'.cell? ⟨g, 4, none⟩ = some (.string x.p2) ∧ w'.cell? ⟨g, 5, none⟩ = some (.int .i64 x.flags) ∧ w'.cell? ⟨g, 6, none⟩ = some (.int .i64 x.fd) ∧ w'.cell? ⟨g, 7, none⟩ = some (.int .i64 x.off) ∧ w'.cell? ⟨g, 8, none⟩ = some (.int .i64 x.n) ∧ w'.cell? ⟨g, 9, none⟩ = some (.string x.data) ∧ w'.cell? ⟨g, 13, none⟩ = some (.int .i64 x.q.errno) ∧ w'.cell? ⟨g, 14, none⟩ = some (.int .i64 x.q.fd) ∧ w'.cell? ⟨g, 15, none⟩ = some (.string ⟨x.q.data.toArray⟩) ∧ w'.cell? ⟨g, 16, none⟩ = some (.slice x.A x.q.names.length x.c) ∧ w'.cell? ⟨g, 17, none⟩ = some (.int .i64 x.q.kind) ∧ w'.cell? ⟨g, 18, none⟩ = some (.int .i64 x.q.links) ∧ w'.cell? ⟨g, 19, none⟩ = some (.int .i64 x.q.size))) (by kernel_rfl) ?_ (fun hHeld => ?_)
      · exact hs0
      refine wpAnyH_take (i := 0) (oi := _) (v := ?_) rfl (by kernel_rfl) (by kernel_rfl) (by kernel_rfl) (fun _ _ _ h => h) (Or.inl ⟨by rfl, ?_⟩) (by assumption) ?_
      rotate_left
      · intro w hSw
        (try dsimp only at hSw)
        first | (go_simp; done) | (go_simp; with_reducible rfl)
      try simp only [List.getElem_toArray, List.getElem_cons_succ, List.getElem_cons_zero, Act.put, List.setIfInBounds_toArray, List.set_cons_zero, List.set_cons_succ]
      refine wpAnyH_take (i := 1) (oi := _) (v := ?_) rfl (by kernel_rfl) (by kernel_rfl) (by kernel_rfl) (fun _ _ _ h => h) (Or.inl ⟨by rfl, ?_⟩) (by assumption) ?_
      rotate_left
      · intro w hSw
        (try dsimp only at hSw)
        first | (go_simp; done) | (go_simp; with_reducible rfl)
      try simp only [List.getElem_toArray, List.getElem_cons_succ, List.getElem_cons_zero, Act.put, List.setIfInBounds_toArray, List.set_cons_zero, List.set_cons_succ]
      refine wpAnyH_take (i := 2) (oi := _) (v := ?_) rfl (by kernel_rfl) (by kernel_rfl) (by kernel_rfl) (fun _ _ _ h => h) (Or.inl ⟨by rfl, ?_⟩) (by assumption) ?_
      rotate_left
      · intro w hSw
        (try dsimp only at hSw)
        first | (go_simp; done) | (go_simp; with_reducible rfl)
      try simp only [List.getElem_toArray, List.getElem_cons_succ, List.getElem_cons_zero, Act.put, List.setIfInBounds_toArray, List.set_cons_zero, List.set_cons_succ]
      refine wpAnyH_take (i := 3) (oi := _) (v := ?_) rfl (by kernel_rfl) (by kernel_rfl) (by kernel_rfl) (fun _ _ _ h => h) (Or.inl ⟨by rfl, ?_⟩) (by assumption) ?_
      rotate_left
      · intro w hSw
        (try dsimp only at hSw)
        first | (go_simp; done) | (go_simp; with_reducible rfl)
      try simp only [List.getElem_toArray, List.getElem_cons_succ, List.getElem_cons_zero, Act.put, List.setIfInBounds_toArray, List.set_cons_zero, List.set_cons_succ]
      refine wpAnyH_take (i := 4) (oi := _) (v := ?_) rfl (by kernel_rfl) (by kernel_rfl) (by kernel_rfl) (fun _ _ _ h => h) (Or.inl ⟨by rfl, ?_⟩) (by assumption) ?_
      rotate_left
      · intro w hSw
        (try dsimp only at hSw)
        first | (go_simp; done) | (go_simp; with_reducible rfl)
      try simp only [List.getElem_toArray, List.getElem_cons_succ, List.getElem_cons_zero, Act.put, List.setIfInBounds_toArray, List.set_cons_zero, List.set_cons_succ]
      refine wpAnyH_take (i := 5) (oi := _) (v := ?_) rfl (by kernel_rfl) (by kernel_rfl) (by kernel_rfl) (fun _ _ _ h => h) (Or.inl ⟨by rfl, ?_⟩) (by assumption) ?_
      rotate_left
      · intro w hSw
        (try dsimp only at hSw)
        first | (go_simp; done) | (go_simp; with_reducible rfl)
      try simp only [List.getElem_toArray, List.getElem_cons_succ, List.getElem_cons_zero, Act.put, List.setIfInBounds_toArray, List.set_cons_zero, List.set_cons_succ]
      refine wpAnyH_take (i := 6) (oi := _) (v := ?_) rfl (by kernel_rfl) (by kernel_rfl) (by kernel_rfl) (fun _ _ _ h => h) (Or.inl ⟨by rfl, ?_⟩) (by assumption) ?_
      rotate_left
      · intro w hSw
        (try dsimp only at hSw)
        first | (go_simp; done) | (go_simp; with_reducible rfl)
      try simp only [List.getElem_toArray, List.getElem_cons_succ, List.getElem_cons_zero, Act.put, List.setIfInBounds_toArray, List.set_cons_zero, List.set_cons_succ]
      refine wpAnyH_take (i := 8) (oi := _) (v := ?_) rfl (by kernel_rfl) (by kernel_rfl) (by kernel_rfl) (fun _ _ _ h => h) (Or.inl ⟨by rfl, ?_⟩) (by assumption) ?_
      rotate_left
      · intro w hSw
        (try dsimp only at hSw)
        first | (go_simp; done) | (go_simp; with_reducible rfl)
      try simp only [List.getElem_toArray, List.getElem_cons_succ, List.getElem_cons_zero, Act.put, List.setIfInBounds_toArray, List.set_cons_zero, List.set_cons_succ]
      refine wpAnyH_take (i := 9) (oi := _) (v := ?_) rfl (by kernel_rfl) (by kernel_rfl) (by kernel_rfl) (fun _ _ _ h => h) (Or.inl ⟨by rfl, ?_⟩) (by assumption) ?_
      rotate_left
      · intro w hSw
        (try dsimp only at hSw)
        first | (go_simp; done) | (go_simp; with_reducible rfl)
      try simp only [List.getElem_toArray, List.getElem_cons_succ, List.getElem_cons_zero, Act.put, List.setIfInBounds_toArray, List.set_cons_zero, List.set_cons_succ]
      refine wpAnyH_ready (rs := [7]) (by kernel_rfl) (by simp) ?_
      refine AllReadyH.cons (o := _) rfl (fun K hK => ?_) AllReadyH.nil
      go_simp
      go_at_call 7
      refine (HDo.out _ _ HAd.out).mono ?_
      rintro e w5 ⟨A5, k5, F5, rfl, hS5, hA5, hM5⟩
      have HA5 := Lib.hid hA5
      have HS5 := Lib.hid hS5
      have HM5 := Lib.hid (hM5 _ _ HMd.out)
      have HMx5 := Lib.hid hM5
      clear hS5 hA5 hM5
      dsimp only
      refine hK.out _ _ (ev16 HM5.out.1) (fun hHeld => ?_)
      clear hK K
      try simp only [List.getElem_toArray, List.getElem_cons_succ, List.getElem_cons_zero, Act.put, List.setIfInBounds_toArray, List.set_cons_zero, List.set_cons_succ]
      refine wpAnyH_ready (rs := [10]) (by kernel_rfl) (by simp) ?_
      refine AllReadyH.cons (o := _) rfl (fun K hK => ?_) AllReadyH.nil
      go_simp
      go_at_call 73
      refine (asame_any R.2 x.q A5 x.A k5 x.c w5 HLr.out HLq.out HS5.out.nmz (HN.out.keep HA5.out.below)).mono ?_
      rintro e w6 ⟨b6, rfl, hb6, hw6⟩
      obtain rfl : b6 = true := hb6.2 Hq.out
      have HA6 := Lib.hid (HA5.out.keep hw6)
      have HMx6 : Hid (∀ g x, Mine F g x w → Mine F5 g x w6) := Lib.hid (fun g x hm => (HMx5.out g x ((HKeep.out g x hm).keep (Below.refl _ wb).drew)).keep hw6)
      have HM6 := Lib.hid (HM5.out.keep hw6)
      clear hb6 hw6
      dsimp only
      refine hK.out _ _ (ev16 HM6.out.1) (fun hHeld => ?_)
      clear hK K
      try simp only [List.getElem_toArray, List.getElem_cons_succ, List.getElem_cons_zero, Act.put, List.setIfInBounds_toArray, List.set_cons_zero, List.set_cons_succ]
      refine wpAnyH_take (i := 11) (oi := _) (v := ?_) rfl (by kernel_rfl) (by kernel_rfl) (by kernel_rfl) (fun _ _ _ h => h) (Or.inl ⟨by rfl, ?_⟩) (by assumption) ?_
      rotate_left
      · intro w hSw
        (try dsimp only at hSw)
        first | (go_simp; done) | (go_simp; with_reducible rfl)
      try simp only [List.getElem_toArray, List.getElem_cons_succ, List.getElem_cons_zero, Act.put, List.setIfInBounds_toArray, List.set_cons_zero, List.set_cons_succ]
      refine wpAnyH_take (i := 12) (oi := _) (v := ?_) rfl (by kernel_rfl) (by kernel_rfl) (by kernel_rfl) (fun _ _ _ h => h) (Or.inl ⟨by rfl, ?_⟩) (by assumption) ?_
      rotate_left
      · intro w hSw
        (try dsimp only at hSw)
        first | (go_simp; done) | (go_simp; with_reducible rfl)
      try simp only [List.getElem_toArray, List.getElem_cons_succ, List.getElem_cons_zero, Act.put, List.setIfInBounds_toArray, List.set_cons_zero, List.set_cons_succ]
      refine wpAnyH_take (i := 13) (oi := _) (v := undef) rfl (by kernel_rfl) (by kernel_rfl) (by kernel_rfl) (fun _ _ _ h => h) (Or.inr ⟨by rfl, rfl⟩) (by assumption) ?_
      try simp only [List.getElem_toArray, List.getElem_cons_succ, List.getElem_cons_zero, Act.put, List.setIfInBounds_toArray, List.set_cons_zero, List.set_cons_succ]
      refine wpAnyH_take (i := 14) (oi := _) (v := undef) rfl (by kernel_rfl) (by kernel_rfl) (by kernel_rfl) (fun _ _ _ h => h) (Or.inr ⟨by rfl, rfl⟩) (by assumption) ?_
      try simp only [List.getElem_toArray, List.getElem_cons_succ, List.getElem_cons_zero, Act.put, List.setIfInBounds_toArray, List.set_cons_zero, List.set_cons_succ]
      refine wpAnyH_take (i := 15) (oi := _) (v := ?_) rfl (by kernel_rfl) (by kernel_rfl) (by kernel_rfl) (fun _ _ _ h => h) (Or.inl ⟨by rfl, ?_⟩) (by assumption) ?_
      rotate_left
      · intro w hSw
        (try dsimp only at hSw)
        first | (go_simp; done) | (go_simp; with_reducible rfl)
      try simp only [List.getElem_toArray, List.getElem_cons_succ, List.getElem_cons_zero, Act.put, List.setIfInBounds_toArray, List.set_cons_zero, List.set_cons_succ]
      refine wpAnyH_take (i := 16) (oi := _) (v := ?_) rfl (by kernel_rfl) (by kernel_rfl) (by kernel_rfl) (fun _ _ _ h => h) (Or.inl ⟨by rfl, ?_⟩) (by assumption) ?_
      rotate_left
      · intro w hSw
        (try dsimp only at hSw)
        first | (go_simp; done) | (go_simp; with_reducible rfl)
      try simp only [List.getElem_toArray, List.getElem_cons_succ, List.getElem_cons_zero, Act.put, List.setIfInBounds_toArray, List.set_cons_zero, List.set_cons_succ]
      refine wpAnyH_done (by kernel_rfl) ?_ _
      simp only [Exit.then]
      have HYes : Hid (Fits S x) := Lib.hid (HFit.out.2 fun h => absurd h (by have := HT.out; omega))
      go_wp2
      go_ret
      exact ⟨true, F5, rfl, iff_of_true rfl HYes.out, (by rw [HRS.out]; exact HA6.out), HMx6.out⟩
    · have Hq := Lib.hid hq
      clear hq
      go_upto_region 7 with fail
      refine wp_region_held_drew (S := (fun w' => w'.cell? ⟨g, 0, none⟩ = some (.int .i64 x.cl) ∧ w'.cell? ⟨g, 2, none⟩ = some (.int .i64 x.kind) ∧ w'.cell? ⟨g, 3, none⟩ = some (.string x.p) ∧ w'.cell? ⟨g, 4, none⟩ = some (.string x.p2) ∧ w'.cell? ⟨g, 5, none⟩ = some (.int .i64 x.flags) ∧ w'.cell? ⟨g, 6, none⟩ = some (.int .i64 x.fd) ∧ w'.cell? ⟨g, 7, none⟩ = some (.int .i64 x.off) ∧ w'.cell? ⟨g, 8, none⟩ = some (.int .i64 x.n) ∧ w'.cell? ⟨g, 9, none⟩ = some (.string x.data) ∧ w'.cell? ⟨g, 13, none⟩ = some (.int .i64 x.q.errno) ∧ w'.cell? ⟨g, 14, none⟩ = some (.int .i64 x.q.fd) ∧ w'.cell? ⟨g, 15, none⟩ = some (.string ⟨x.q.data.toArray⟩) ∧ w'.cell? ⟨g, 16, none⟩ = some (.slice x.A x.q.names.length x.c) ∧ w'.cell? ⟨g, 17, none⟩ = some (.int .i64 x.q.kind) ∧ w'.cell? ⟨g, 18, none⟩ = some (.int .i64 x.q.links) ∧ w'.cell? ⟨g, 19, none⟩ = some (.int .i64 x.q.size))) (by kernel_rfl) ?_ (fun hHeld => ?_)
      · exact hs0
      refine wpAnyH_take (i := 0) (oi := _) (v := ?_) rfl (by kernel_rfl) (by kernel_rfl) (by kernel_rfl) (fun _ _ _ h => h) (Or.inl ⟨by rfl, ?_⟩) (by assumption) ?_
      rotate_left
      · intro w hSw
        (try dsimp only at hSw)
        first | (go_simp; done) | (go_simp; with_reducible rfl)
      try simp only [List.getElem_toArray, List.getElem_cons_succ, List.getElem_cons_zero, Act.put, List.setIfInBounds_toArray, List.set_cons_zero, List.set_cons_succ]
      refine wpAnyH_take (i := 1) (oi := _) (v := ?_) rfl (by kernel_rfl) (by kernel_rfl) (by kernel_rfl) (fun _ _ _ h => h) (Or.inl ⟨by rfl, ?_⟩) (by assumption) ?_
      rotate_left
      · intro w hSw
        (try dsimp only at hSw)
        first | (go_simp; done) | (go_simp; with_reducible rfl)
      try simp only [List.getElem_toArray, List.getElem_cons_succ, List.getElem_cons_zero, Act.put, List.setIfInBounds_toArray, List.set_cons_zero, List.set_cons_succ]
      refine wpAnyH_take (i := 2) (oi := _) (v := ?_) rfl (by kernel_rfl) (by kernel_rfl) (by kernel_rfl) (fun _ _ _ h => h) (Or.inl ⟨by rfl, ?_⟩) (by assumption) ?_
      rotate_left
      · intro w hSw
        (try dsimp only at hSw)
        first | (go_simp; done) | (go_simp; with_reducible rfl)
      try simp only [List.getElem_toArray, List.getElem_cons_succ, List.getElem_cons_zero, Act.put, List.setIfInBounds_toArray, List.set_cons_zero, List.set_cons_succ]
      refine wpAnyH_take (i := 3) (oi := _) (v := ?_) rfl (by kernel_rfl) (by kernel_rfl) (by kernel_rfl) (fun _ _ _ h => h) (Or.inl ⟨by rfl, ?_⟩) (by assumption) ?_
      rotate_left
      · intro w hSw
        (try dsimp only at hSw)
        first | (go_simp; done) | (go_simp; with_reducible rfl)
      try simp only [List.getElem_toArray, List.getElem_cons_succ, List.getElem_cons_zero, Act.put, List.setIfInBounds_toArray, List.set_cons_zero, List.set_cons_succ]
      refine wpAnyH_take (i := 4) (oi := _) (v := ?_) rfl (by kernel_rfl) (by kernel_rfl) (by kernel_rfl) (fun _ _ _ h => h) (Or.inl ⟨by rfl, ?_⟩) (by assumption) ?_
      rotate_left
      · intro w hSw
        (try dsimp only at hSw)
        first | (go_simp; done) | (go_simp; with_reducible rfl)
      try simp only [List.getElem_toArray, List.getElem_cons_succ, List.getElem_cons_zero, Act.put, List.setIfInBounds_toArray, List.set_cons_zero, List.set_cons_succ]
      refine wpAnyH_take (i := 5) (oi := _) (v := ?_) rfl (by kernel_rfl) (by kernel_rfl) (by kernel_rfl) (fun _ _ _ h => h) (Or.inl ⟨by rfl, ?_⟩) (by assumption) ?_
      rotate_left
      · intro w hSw
        (try dsimp only at hSw)
        first | (go_simp; done) | (go_simp; with_reducible rfl)
      try simp only [List.getElem_toArray, List.getElem_cons_succ, List.getElem_cons_zero, Act.put, List.setIfInBounds_toArray, List.set_cons_zero, List.set_cons_succ]
      refine wpAnyH_take (i := 6) (oi := _) (v := ?_) rfl (by kernel_rfl) (by kernel_rfl) (by kernel_rfl) (fun _ _ _ h => h) (Or.inl ⟨by rfl, ?_⟩) (by assumption) ?_
      rotate_left
      · intro w hSw
        (try dsimp only at hSw)
        first | (go_simp; done) | (go_simp; with_reducible rfl)
      try simp only [List.getElem_toArray, List.getElem_cons_succ, List.getElem_cons_zero, Act.put, List.setIfInBounds_toArray, List.set_cons_zero, List.set_cons_succ]
      refine wpAnyH_take (i := 8) (oi := _) (v := ?_) rfl (by kernel_rfl) (by kernel_rfl) (by kernel_rfl) (fun _ _ _ h => h) (Or.inl ⟨by rfl, ?_⟩) (by assumption) ?_
      rotate_left
      · intro w hSw
        (try dsimp only at hSw)
        first | (go_simp; done) | (go_simp; with_reducible rfl)
      try simp only [List.getElem_toArray, List.getElem_cons_succ, List.getElem_cons_zero, Act.put, List.setIfInBounds_toArray, List.set_cons_zero, List.set_cons_succ]
      refine wpAnyH_take (i := 9) (oi := _) (v := ?_) rfl (by kernel_rfl) (by kernel_rfl) (by kernel_rfl) (fun _ _ _ h => h) (Or.inl ⟨by rfl, ?_⟩) (by assumption) ?_
      rotate_left
      · intro w hSw
        (try dsimp only at hSw)
        first | (go_simp; done) | (go_simp; with_reducible rfl)
      try simp only [List.getElem_toArray, List.getElem_cons_succ, List.getElem_cons_zero, Act.put, List.setIfInBounds_toArray, List.set_cons_zero, List.set_cons_succ]
      refine wpAnyH_ready (rs := [7]) (by kernel_rfl) (by simp) ?_
      refine AllReadyH.cons (o := _) rfl (fun K hK => ?_) AllReadyH.nil
      go_simp
      go_at_call 7
      refine (HDo.out _ _ HAd.out).mono ?_
      rintro e w5 ⟨A5, k5, F5, rfl, hS5, hA5, hM5⟩
      have HA5 := Lib.hid hA5
      have HS5 := Lib.hid hS5
      have HM5 := Lib.hid (hM5 _ _ HMd.out)
      have HMx5 := Lib.hid hM5
      clear hS5 hA5 hM5
      dsimp only
      refine hK.out _ _ (ev16 HM5.out.1) (fun hHeld => ?_)
      clear hK K
      try simp only [List.getElem_toArray, List.getElem_cons_succ, List.getElem_cons_zero, Act.put, List.setIfInBounds_toArray, List.set_cons_zero, List.set_cons_succ]
      refine wpAnyH_ready (rs := [10]) (by kernel_rfl) (by simp) ?_
      refine AllReadyH.cons (o := _) rfl (fun K hK => ?_) AllReadyH.nil
      go_simp
      go_at_call 73
      refine (asame_any R.2 x.q A5 x.A k5 x.c w5 HLr.out HLq.out HS5.out.nmz (HN.out.keep HA5.out.below)).mono ?_
      rintro e w6 ⟨b6, rfl, hb6, hw6⟩
      obtain rfl : b6 = false := Bool.eq_false_iff.2 fun h => Hq.out (hb6.1 h)
      have HA6 := Lib.hid (HA5.out.keep hw6)
      have HMx6 : Hid (∀ g x, Mine F g x w → Mine F5 g x w6) := Lib.hid (fun g x hm => (HMx5.out g x ((HKeep.out g x hm).keep (Below.refl _ wb).drew)).keep hw6)
      have HM6 := Lib.hid (HM5.out.keep hw6)
      clear hb6 hw6
      dsimp only
      refine hK.out _ _ (ev16 HM6.out.1) (fun hHeld => ?_)
      clear hK K
      try simp only [List.getElem_toArray, List.getElem_cons_succ, List.getElem_cons_zero, Act.put, List.setIfInBounds_toArray, List.set_cons_zero, List.set_cons_succ]
      refine wpAnyH_take (i := 11) (oi := _) (v := ?_) rfl (by kernel_rfl) (by kernel_rfl) (by kernel_rfl) (fun _ _ _ h => h) (Or.inl ⟨by rfl, ?_⟩) (by assumption) ?_
      rotate_left
      · intro w hSw
        (try dsimp only at hSw)
        first | (go_simp; done) | (go_simp; with_reducible rfl)
      try simp only [List.getElem_toArray, List.getElem_cons_succ, List.getElem_cons_zero, Act.put, List.setIfInBounds_toArray, List.set_cons_zero, List.set_cons_succ]
      refine wpAnyH_take (i := 12) (oi := _) (v := ?_) rfl (by kernel_rfl) (by kernel_rfl) (by kernel_rfl) (fun _ _ _ h => h) (Or.inl ⟨by rfl, ?_⟩) (by assumption) ?_
      rotate_left
      · intro w hSw
        (try dsimp only at hSw)
        first | (go_simp; done) | (go_simp; with_reducible rfl)
      try simp only [List.getElem_toArray, List.getElem_cons_succ, List.getElem_cons_zero, Act.put, List.setIfInBounds_toArray, List.set_cons_zero, List.set_cons_succ]
      refine wpAnyH_take (i := 13) (oi := _) (v := ?_) rfl (by kernel_rfl) (by kernel_rfl) (by kernel_rfl) (fun _ _ _ h => h) (Or.inl ⟨by rfl, ?_⟩) (by assumption) ?_
      rotate_left
      · intro w hSw
        (try dsimp only at hSw)
        first | (go_simp; done) | (go_simp; with_reducible rfl)
      try simp only [List.getElem_toArray, List.getElem_cons_succ, List.getElem_cons_zero, Act.put, List.setIfInBounds_toArray, List.set_cons_zero, List.set_cons_succ]
      refine wpAnyH_take (i := 14) (oi := _) (v := ?_) rfl (by kernel_rfl) (by kernel_rfl) (by kernel_rfl) (fun _ _ _ h => h) (Or.inl ⟨by rfl, ?_⟩) (by assumption) ?_
      rotate_left
      · intro w hSw
        (try dsimp only at hSw)
        first | (go_simp; done) | (go_simp; with_reducible rfl)
      try simp only [List.getElem_toArray, List.getElem_cons_succ, List.getElem_cons_zero, Act.put, List.setIfInBounds_toArray, List.set_cons_zero, List.set_cons_succ]
      refine wpAnyH_take (i := 15) (oi := _) (v := ?_) rfl (by kernel_rfl) (by kernel_rfl) (by kernel_rfl) (fun _ _ _ h => h) (Or.inl ⟨by rfl, ?_⟩) (by assumption) ?_
      rotate_left
      · intro w hSw
        (try dsimp only at hSw)
        first | (go_simp; done) | (go_simp; with_reducible rfl)
      try simp only [List.getElem_toArray, List.getElem_cons_succ, List.getElem_cons_zero, Act.put, List.setIfInBounds_toArray, List.set_cons_zero, List.set_cons_succ]
      refine wpAnyH_take (i := 16) (oi := _) (v := ?_) rfl (by kernel_rfl) (by kernel_rfl) (by kernel_rfl) (fun _ _ _ h => h) (Or.inl ⟨by rfl, ?_⟩) (by assumption) ?_
      rotate_left
      · intro w hSw
        (try dsimp only at hSw)
        first | (go_simp; done) | (go_simp; with_reducible rfl)
      try simp only [List.getElem_toArray, List.getElem_cons_succ, List.getElem_cons_zero, Act.put, List.setIfInBounds_toArray, List.set_cons_zero, List.set_cons_succ]
      refine wpAnyH_done (by kernel_rfl) ?_ _
      simp only [Exit.then]
      have HYes : Hid (Fits S x) := Lib.hid (HFit.out.2 fun h => absurd h (by have := HT.out; omega))
      go_wp2
      go_ret
      exact ⟨true, F5, rfl, iff_of_true rfl HYes.out, (by rw [HRS.out]; exact HA6.out), HMx6.out⟩

end Go.Proofs.YtbpejjmfdhkfhaaGreatDoor
