/- Walks: Go's stable sort, of items that stand in their order already. -/
import Derived.Test.YtbpejjmfdhkfhaaGreatDoorNamesWalkA
import Derived.Deep.RegionHeld3
import Derived.Deep.CutRange
import Derived.Deep.RegionWith
import Derived.BigQuiet
import Derived.Deep.QuietTactic
set_option linter.unusedVariables false
set_option linter.unusedSimpArgs false
namespace Go.Proofs.YtbpejjmfdhkfhaaGreatDoor
open Go.RowKit

/-- what happened: when, whose, which event -/
structure It where
  at_ : Int
  cl : Int
  ev : Int
def itV (x : It) : Value := .agg #[.int .i64 x.at_, .int .i64 x.cl, .int .i64 x.ev]
def Its (w : World) (A : Option Addr) (L : List It) : Prop :=
  L = [] ∨ ∃ b o, A = some ⟨b, o, none⟩ ∧ b < w.heap.size ∧ ∀ (j : Nat) (x : It), L[j]? = some x → w.cell? ⟨b, o + j * 3, none⟩ = some (.int .i64 x.at_) ∧ w.cell? ⟨b, o + j * 3 + 1, none⟩ = some (.int .i64 x.cl) ∧ w.cell? ⟨b, o + j * 3 + 2, none⟩ = some (.int .i64 x.ev)
theorem Its.keep {w w' : World} {A : Option Addr} {L : List It} (h : Its w A L) (hb : Below w.heap.size w w') : Its w' A L := by
  rcases h with h | ⟨b, o, h1, h2, h3⟩
  · exact Or.inl h
  · have e : ∀ i, w'.cell? ⟨b, i, none⟩ = w.cell? ⟨b, i, none⟩ := fun i => hb.cell (p := ⟨b, i, none⟩) h2
    exact Or.inr ⟨b, o, h1, Nat.lt_of_lt_of_le h2 hb.size, fun j x hx => by
      obtain ⟨a0, a1, a2⟩ := h3 j x hx
      exact ⟨(e _).trans a0, (e _).trans a1, (e _).trans a2⟩⟩

theorem nan_any (x : Int) (w : World) : Calls Tryz.prog 82 #[.int .i64 x] w fun e w' => e = .returned (.bool false) ∧ Below w.heap.size w w' := by
  have h : ((x : Int) != x) = false := by simp
  go_enter Tryz.func82, Tryz.ntmps82
  go_wp2
  go_ret
  exact ⟨rfl, Below.refl _ _⟩

theorem cmp_any (x y : Int) (w : World) : Calls Tryz.prog 71 #[.int .i64 x, .int .i64 y] w fun e w' => (∃ r : Int, e = .returned (.int .i64 r) ∧ (y < x → r = 1)) ∧ Below w.heap.size w w' := by
  go_enter Tryz.func71, Tryz.ntmps71
  go_wp2_with fail
  refine (nan_any x w).mono ?_
  rintro e w1 ⟨rfl, hb1⟩
  go_wp2_with fail
  refine (nan_any y w1).mono ?_
  rintro e w2 ⟨rfl, hb2⟩
  have HB := Lib.hid (hb1.trans (hb2.mono hb1.size))
  clear hb1 hb2
  by_cases h1 : x < y
  · go_wp2
    go_ret
    exact ⟨⟨_, rfl, fun h => by omega⟩, HB.out⟩
  · by_cases h2 : y < x
    · have h1' : y ≤ x := by omega
      clear h1
      go_wp2
      go_ret
      exact ⟨⟨_, rfl, fun _ => rfl⟩, HB.out⟩
    · have h3 : x = y := by omega
      subst h3
      clear h1 h2
      go_wp2
      go_ret
      exact ⟨⟨_, rfl, fun h => by omega⟩, HB.out⟩

theorem or_any (b : Nat) (y : Int) (w : World) (h0 : w.cell? ⟨b, 0, none⟩ = some (.int .i64 1)) : Calls Tryz.prog 70 #[.slice (some ⟨b, 0, none⟩) 2 2] w fun e w' => e = .returned (.int .i64 1) ∧ Below w.heap.size w w' := by
  have h2 : ((1 : Int) != 0) = true := by decide
  go_enter Tryz.func70, Tryz.ntmps70
  go_wp2
  refine wp_loop_rounds 1 ?_
  rw [rounds_succ]
  go_wp2
  go_ret
  exact ⟨rfl, Below.refl _ _⟩

set_option maxHeartbeats 4000000 in
set_option maxRecDepth 100000 in
theorem lit_order (x y : It) (hxy : y.at_ < x.at_) (w : World) : Calls Tryz.prog 69 #[itV x, itV y] w fun e w' => e = .returned (.int .i64 1) ∧ Below w.heap.size w w' := by
  obtain ⟨wb, hwb⟩ : ∃ v, v = (w.alloc (.cells #[.int .i64 x.at_, .int .i64 x.cl, .int .i64 x.ev] 92)).alloc (.cells #[.int .i64 y.at_, .int .i64 y.cl, .int .i64 y.ev] 92) := ⟨_, rfl⟩
  have hbb : Below w.heap.size w wb := by
    rw [hwb]
    exact ((Below.refl _ _).alloc (Nat.le_refl _) _).alloc (by simp) _
  have hk1 : wb.heap[w.heap.size]? = some (.cells #[.int .i64 x.at_, .int .i64 x.cl, .int .i64 x.ev] 92 (0, 0)) := by
    rw [hwb, Below.heap_alloc _ _ _ (by simp)]
    exact heap_alloc_new _ _
  have hk2 : wb.heap[w.heap.size + 1]? = some (.cells #[.int .i64 y.at_, .int .i64 y.cl, .int .i64 y.ev] 92 (0, 0)) := by
    rw [hwb]
    have := heap_alloc_new (w.alloc (.cells #[.int .i64 x.at_, .int .i64 x.cl, .int .i64 x.ev] 92)) (.cells #[.int .i64 y.at_, .int .i64 y.cl, .int .i64 y.ev] 92)
    rw [show (w.alloc (.cells #[.int .i64 x.at_, .int .i64 x.cl, .int .i64 x.ev] 92)).heap.size = w.heap.size + 1 by simp] at this
    exact this
  have HK := Lib.hid fun W (hW : Below wb.heap.size wb W) => show W.cell? ⟨w.heap.size, 0, none⟩ = some (.int .i64 x.at_) ∧ W.cell? ⟨w.heap.size, 2, none⟩ = some (.int .i64 x.ev) ∧ W.cell? ⟨w.heap.size + 1, 0, none⟩ = some (.int .i64 y.at_) ∧ W.cell? ⟨w.heap.size + 1, 2, none⟩ = some (.int .i64 y.ev) from
    ⟨cell_of_row W _ 0 _ _ _ ((hW.block _ (Array.getElem?_eq_some_iff.1 hk1).1).trans hk1), cell_of_row W _ 2 _ _ _ ((hW.block _ (Array.getElem?_eq_some_iff.1 hk1).1).trans hk1), cell_of_row W _ 0 _ _ _ ((hW.block _ (Array.getElem?_eq_some_iff.1 hk2).1).trans hk2), cell_of_row W _ 2 _ _ _ ((hW.block _ (Array.getElem?_eq_some_iff.1 hk2).1).trans hk2)⟩
  have HBb := Lib.hid hbb
  have HWb := Lib.hid hwb
  have Hxy := Lib.hid hxy
  obtain ⟨b1, hb1⟩ : ∃ n, n = w.heap.size := ⟨_, rfl⟩
  rw [← hb1] at HK
  have Hb1 := Lib.hid hb1.symm
  have hs0 := HK.out wb.drew (Below.refl _ wb).drew
  clear hbb hwb hk1 hk2 hxy hb1
  unfold itV
  go_enter Tryz.func69, Tryz.ntmps69
  go_upto_region 1 with fail
  rw [← HWb.out]
  rw [Hb1.out]
  rcases Int.lt_or_le 0 x.ev with hx | hx
  all_goals rcases Int.lt_or_le 0 y.ev with hy | hy
  all_goals
    go_region_held3 (fun w' => w'.cell? ⟨b1, 0, none⟩ = some (.int .i64 x.at_) ∧ w'.cell? ⟨b1, 2, none⟩ = some (.int .i64 x.ev) ∧ w'.cell? ⟨b1 + 1, 0, none⟩ = some (.int .i64 y.at_) ∧ w'.cell? ⟨b1 + 1, 2, none⟩ = some (.int .i64 y.ev)) (first | exact hs0 | exact hs5 | exact hs6 | exact hs8 | go_keep) (first | (go_at_call 71; refine (cmp_any _ _ _).mono ?_; rintro e w6 ⟨⟨r6, rfl, -⟩, hb6⟩; have HB6 := Lib.hid (HB5.out.trans (hb6.mono HB5.out.size)); have hs6 := HK.out w6 HB6.out) | (go_at_call 71; refine (cmp_any x.at_ y.at_ _).mono ?_; rintro e w5 ⟨⟨r5, rfl, hr5⟩, hb5⟩; obtain rfl := hr5 Hxy.out; have HB5 := Lib.hid ((Below.refl wb.heap.size wb).drew.trans hb5); have hs5 := HK.out w5 HB5.out) | (go_at_call 70; refine (or_any w6.heap.size r6 _ (cell_of_row _ _ 0 _ _ _ (heap_alloc_new _ _))).mono ?_; rintro e w8 ⟨rfl, hb8⟩; have HB8 := Lib.hid (HB6.out.trans (((Below.refl _ w6).alloc (Nat.le_refl _) _).trans (hb8.mono (by simp)) |>.mono HB6.out.size)); have hs8 := HK.out w8 HB8.out))
    all_goals
      simp only [Exit.then]
      go_wp2
      go_ret
      exact ⟨rfl, HBb.out.trans (HB8.out.mono HBb.out.size)⟩

end Go.Proofs.YtbpejjmfdhkfhaaGreatDoor
