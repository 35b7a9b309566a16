/- Walks: the layout: all parts of a volume, one after the other. -/
import Derived.Test.YtiinponoeaihcaaGreatU01
import Derived.Test.YtiinponoeaihcaaGreatU00
import Derived.RangeFuncNested
import Derived.RangeFuncKeeps
import Derived.RangeFuncLeaves
import Derived.RangeFuncCalls
import Derived.RangeFuncBox
import Derived.Shelf.Abstract
import Derived.OwnWalkIn
import Derived.TacticsInMore
import Derived.LoopNIn
import Derived.LoopIn
import Derived.Deep.RegionWith
import Derived.StillTailTactics
import Derived.Lib.AppendZerosOnto
import Derived.Lib.AppendStr
set_option linter.unusedVariables false
set_option linter.unusedSimpArgs false
set_option linter.unusedSectionVars false
namespace Go.Proofs.YtiinponoeaihcaaGreat
open Go.RowKit Go.Shelf

attribute [local go_sem] Oper.semAt_some

namespace Gd
/-- a part: its kind, its number, where, how long -/
structure Pt where
  k : Nat
  n : Nat
  a : Nat
  s : Nat
/-- parts of one kind: kind, how many, how long, where the first one lies -/
structure Ro where
  k : Nat
  m : Nat
  s : Nat
  a : Nat
def rowsT : List Ro := [⟨1, 0, 64, 0⟩, ⟨2, 8, 64, 64⟩, ⟨3, 0, 64, 576⟩, ⟨4, 32, 64, 640⟩, ⟨5, 0, 4096, 2688⟩, ⟨6, 8, 1024, 6784⟩, ⟨7, 128, 64, 14976⟩]
def rowP (r : Ro) : List Pt := (List.range (max 1 r.m)).map fun j => ⟨r.k, if r.m = 0 then 0 else j + 1, r.a + j * r.s, r.s⟩
def partsL : List Pt := rowsT.flatMap rowP
def startOf (i : Nat) : Nat := match rowsT[i]? with | some r => r.a | none => 23168
theorem start_next {i : Nat} {r : Ro} (h : rowsT[i]? = some r) : startOf i = r.a ∧ startOf (i + 1) = r.a + max 1 r.m * r.s ∧ r.k ≤ 7 ∧ (r.m = 0 ∨ (2 ≤ r.m ∧ r.m ≤ 128)) ∧ r.s ≤ 4096 ∧ r.a ≤ 14976 := by
  match i, h with
  | 0, h => cases h; exact ⟨rfl, rfl, by decide, by decide, by decide, by decide⟩
  | 1, h => cases h; exact ⟨rfl, rfl, by decide, by decide, by decide, by decide⟩
  | 2, h => cases h; exact ⟨rfl, rfl, by decide, by decide, by decide, by decide⟩
  | 3, h => cases h; exact ⟨rfl, rfl, by decide, by decide, by decide, by decide⟩
  | 4, h => cases h; exact ⟨rfl, rfl, by decide, by decide, by decide, by decide⟩
  | 5, h => cases h; exact ⟨rfl, rfl, by decide, by decide, by decide, by decide⟩
  | 6, h => cases h; exact ⟨rfl, rfl, by decide, by decide, by decide, by decide⟩
  | n + 7, h => simp [rowsT] at h
theorem rowP_length (r : Ro) : (rowP r).length = max 1 r.m := by
  unfold rowP
  rw [List.length_map, List.length_range]
theorem rowP_get {r : Ro} {j : Nat} (h : j < max 1 r.m) : (rowP r)[j]? = some ⟨r.k, if r.m = 0 then 0 else j + 1, r.a + j * r.s, r.s⟩ := by
  unfold rowP
  rw [List.getElem?_map, List.getElem?_range h]
  rfl
def preP (i j : Nat) : List Pt := (rowsT.take i).flatMap rowP ++ match rowsT[i]? with | some r => (rowP r).take j | none => []
theorem preP_step {i j : Nat} {r : Ro} (h : rowsT[i]? = some r) (hj : j < max 1 r.m) : preP i (j + 1) = preP i j ++ [⟨r.k, if r.m = 0 then 0 else j + 1, r.a + j * r.s, r.s⟩] := by
  unfold preP
  rw [h]
  simp only
  rw [List.take_add_one, rowP_get hj, List.append_assoc]
  rfl
theorem preP_row {i : Nat} {r : Ro} (h : rowsT[i]? = some r) : preP i (max 1 r.m) = preP (i + 1) 0 := by
  unfold preP
  rw [h]
  simp only
  rw [List.take_of_length_le (l := rowP r) (by rw [rowP_length]; exact Nat.le_refl _), List.take_add_one, h]
  simp only [Option.toList, List.flatMap_append, List.flatMap_cons, List.flatMap_nil, List.append_nil]
  cases rowsT[i + 1]? <;> simp
theorem preP_end : preP 7 0 = partsL := by kernel_rfl
theorem preP_short {i j : Nat} {r : Ro} (h : rowsT[i]? = some r) (hj : j < max 1 r.m) : (preP i j).length < 179 ∧ preP i (j + 1) <+: partsL := by
  have h1 : preP i (j + 1) <+: partsL := by
    have hs : rowsT = rowsT.take i ++ r :: rowsT.drop (i + 1) := by
      have hi := (List.getElem?_eq_some_iff.1 h)
      rw [← hi.2, List.getElem_cons_drop, List.take_append_drop]
    unfold preP
    rw [h]
    refine ⟨(rowP r).drop (j + 1) ++ (rowsT.drop (i + 1)).flatMap rowP, ?_⟩
    show _ = partsL
    unfold partsL
    conv => rhs; rw [hs]
    rw [List.flatMap_append, List.flatMap_cons]
    simp only [List.append_assoc]
    congr 1
    rw [← List.append_assoc, List.take_append_drop]
  refine ⟨?_, h1⟩
  have := h1.length_le
  rw [preP_step h hj, List.length_append, List.length_singleton] at this
  have hl : partsL.length = 179 := by kernel_rfl
  omega
end Gd
def ptV (p : Gd.Pt) : Value := .agg #[.int .i64 p.k, .int .i64 p.n, .int .i64 p.a, .int .i64 p.s]
/-- whatever is cells lies as it lay, from a place on -/
def KeepsC (B : Nat) (W W' : World) : Prop := ∀ (k : Nat), B ≤ k → ∀ (c : Array Value) (t : TypeId) (fr : Nat × Nat), W.heap[k]? = some (.cells c t fr) → W'.heap[k]? = some (.cells c t fr)
theorem keepsC_t (D : Nat) {A B C : World} (h : KeepsC D A B) (k : KeepsC D B C) : KeepsC D A C := fun j hD c t fr hj => k j hD c t fr (h j hD c t fr hj)
theorem keepsC_b (D : Nat) {w : World} (W : World) (l : Nat) (o o' : Obj) (_ : w.heap.size ≤ l) (h : W.heap[l]? = some o) (hc : o.isCells = false) (_ : o.isWalk = false) : KeepsC D W (W.putObj l o') := fun j _ c t fr hj => by
  have : j ≠ l := fun e => by
    rw [e, h] at hj
    cases hj
    cases hc
  exact (World.putObj_heap_other this).trans hj
theorem keepsC_below (D : Nat) {W W' : World} (h : Below W.heap.size W W') : KeepsC D W W' := fun j _ _ _ _ hj => (h.block j (Array.getElem?_eq_some_iff.1 hj).1).trans hj
theorem lt_get' {w : World} {k : Nat} {o : Obj} (h : w.heap[k]? = some o) : k < w.heap.size := (Array.getElem?_eq_some_iff.1 h).1
def rowCs : List Value := Gd.rowsT.flatMap fun r => [.int .i64 r.k, .int .i64 r.m, .int .i64 r.s]
theorem rowCs_get {i : Nat} {r : Gd.Ro} (h : Gd.rowsT[i]? = some r) : rowCs[i * 3]? = some (.int .i64 r.k) ∧ rowCs[i * 3 + 1]? = some (.int .i64 r.m) ∧ rowCs[i * 3 + 2]? = some (.int .i64 r.s) := by
  match i, h with
  | 0, h => cases h; exact ⟨rfl, rfl, rfl⟩
  | 1, h => cases h; exact ⟨rfl, rfl, rfl⟩
  | 2, h => cases h; exact ⟨rfl, rfl, rfl⟩
  | 3, h => cases h; exact ⟨rfl, rfl, rfl⟩
  | 4, h => cases h; exact ⟨rfl, rfl, rfl⟩
  | 5, h => cases h; exact ⟨rfl, rfl, rfl⟩
  | 6, h => cases h; exact ⟨rfl, rfl, rfl⟩
  | n + 7, h => simp [Gd.rowsT] at h

set_option maxRecDepth 100000 in
set_option maxHeartbeats 4000000 in
theorem rows_in (F : Fence) (n : Nat) (hf : F.fn 89) (hro : F.round = none) (w : World) :
    CallsIn F n Tryz.prog 89 #[] w fun e w' => e = .returned (.slice (some ⟨w.heap.size, 0, none⟩) 7 7) ∧ w' = w.alloc (.cells rowCs.toArray 148) := by
  refine callsIn_of_wp Tryz.func89 rfl hf ?_ hro
  simp only [Tryz.ntmps89, List.size_toArray, List.length_cons, List.length_nil, Nat.reduceAdd, Nat.reduceSub, Array.replicate_succ, Array.replicate_zero, List.push_toArray, List.append_toArray, List.nil_append, List.cons_append]
  gi_wp2
  go_ret
  exact ⟨rfl, rfl⟩

set_option maxRecDepth 100000 in
set_option maxHeartbeats 8000000 in
/-- **parts has its contract: all parts, in their order; it stops where a round says 'no more'** -/
theorem parts_stops (F : Fence) (n : Nat) (hf : F.fn 76) (hf2 : F.fn 89) (hro : F.round = none) (hn : 2 ≤ n) (B : Nat) (w : World) (hBw : B ≤ w.heap.size) :
    SeqStopsK F n Tryz.prog 76 #[] (fun p : Gd.Pt => #[ptV p]) (KeepsC B) (fun xs => xs = Gd.partsL) (fun pre => pre <+: Gd.partsL) 179 w := fun l J Jx W hW hJa _ hY h0 => by
  have HBW : Hid (B ≤ W.heap.size) := Lib.hid (Nat.le_trans hBw hW.size)
  clear hBw hW
  have h1 : 1 ≤ n := by omega
  have HY := Lib.hid hY
  have H0 := Lib.hid h0
  have HJa := Lib.hid hJa
  clear hY h0 hJa
  refine callsIn_of_wp Tryz.func76 rfl hf ?_ hro
  simp only [Tryz.ntmps76, List.size_toArray, List.length_cons, List.length_nil, Nat.reduceAdd, Nat.reduceSub, Array.replicate_succ, Array.replicate_zero, List.push_toArray, List.append_toArray, List.nil_append, List.cons_append]
  gi_wp2_with (gi_at_call 89; refine (rows_in F (n - 1) hf2 hro _).mono ?_; rintro e w' ⟨rfl, rfl⟩)
  obtain ⟨w1, hw1⟩ : ∃ v, v = W.alloc (.cells rowCs.toArray 148) := ⟨_, rfl⟩
  rw [← hw1]
  obtain ⟨rb, hrb⟩ : ∃ rb, rb = W.heap.size := ⟨_, rfl⟩
  rw [← hrb]
  have HR1 : Hid (w1.heap[rb]? = some (.cells rowCs.toArray 148 (0, 0))) := Lib.hid (by rw [hw1, hrb]; exact heap_alloc_new _ _)
  have HJ1 : Hid (J [] w1) := Lib.hid (by rw [hw1]; exact HJa.out [] W _ none H0.out (World.grownBy_alloc W _ none) (fun r e => by cases e))
  have HBr : Hid (B ≤ rb) := Lib.hid (by rw [hrb]; exact HBW.out)
  clear hw1 hrb
  gi_wp2
  gi_loopw [2, 9] (fun u z wr => ∃ i : Nat, z = .int .i64 i ∧ i ≤ 7 ∧ u = .int .i64 (Gd.startOf i) ∧ Hid (J (Gd.preP i 0) wr) ∧ Hid (wr.heap[rb]? = some (.cells rowCs.toArray 148 (0, 0)))) (fun _ z _ => 7 - (intOf z).toNat)
  case atStart => exact ⟨0, rfl, by omega, rfl, HJ1, HR1⟩
  case round =>
    obtain ⟨i, rfl, hi, rfl, HJ, HR⟩ := hrel
    by_cases hlt : i < 7
    · obtain ⟨r, hr⟩ : ∃ r, Gd.rowsT[i]? = some r := ⟨_, List.getElem?_eq_getElem hlt⟩
      obtain ⟨q1, q2, q3, q4, q5, q6⟩ := Gd.start_next hr
      obtain ⟨g0, g1, g2⟩ := rowCs_get hr
      have c0 : wr.cell? ⟨rb, i * 3, none⟩ = some (.int .i64 r.k) := (cell_of_row wr rb (i * 3) _ _ _ HR.out).trans (by rw [List.getElem?_toArray]; exact g0)
      have c1 : wr.cell? ⟨rb, i * 3 + 1, none⟩ = some (.int .i64 r.m) := (cell_of_row wr rb (i * 3 + 1) _ _ _ HR.out).trans (by rw [List.getElem?_toArray]; exact g1)
      have c2 : wr.cell? ⟨rb, i * 3 + 2, none⟩ = some (.int .i64 r.s) := (cell_of_row wr rb (i * 3 + 2) _ _ _ HR.out).trans (by rw [List.getElem?_toArray]; exact g2)
      have e1 : (i : Int) < 7 := by omega
      have e0 : (0 : Int) ≤ i := by omega
      have HRi := Lib.hid hr
      have HQ := Lib.hid (And.intro q1 (And.intro q2 (And.intro q3 (And.intro q5 q6))))
      rw [q1]
      clear hr g0 g1 g2 q1 q2 q3 hlt
      rcases q4 with q4 | ⟨q4, q7⟩
      · have hm0 : (r.m : Int) = 0 := by omega
        rw [hm0] at c1
        have HM : Hid (max 1 r.m = 1) := Lib.hid (by omega)
        obtain ⟨k', hk'⟩ : ∃ k', k' = r.k := ⟨_, rfl⟩
        obtain ⟨s', hs'⟩ : ∃ s', s' = r.s := ⟨_, rfl⟩
        obtain ⟨a', ha'⟩ : ∃ a', a' = r.a := ⟨_, rfl⟩
        rw [← hk'] at c0
        rw [← hs'] at c2
        rw [← ha']
        have Hks := Lib.hid (And.intro hk' (And.intro hs' ha'))
        have hs4 : s' ≤ 4096 := by omega
        have ha4 : a' ≤ 14976 := by omega
        clear hk' hs' ha' q5 q6
        gi_wp2
        obtain ⟨wz, hwz⟩ : ∃ v, v = wr.alloc (.cells #[.int .i64 k', .int .i64 0, .int .i64 s'] 148) := ⟨_, rfl⟩
        rw [← hwz]
        obtain ⟨bx, hbx⟩ : ∃ bx, bx = wr.heap.size := ⟨_, rfl⟩
        rw [← hbx]
        have HBz : Hid (wz.heap[bx]? = some (.cells #[.int .i64 k', .int .i64 0, .int .i64 s'] 148 (0, 0))) := Lib.hid (by rw [hwz, hbx]; exact heap_alloc_new _ _)
        have HJz : Hid (J (Gd.preP i 0) wz) := Lib.hid (by rw [hwz]; exact HJa.out _ wr _ none HJ.out (World.grownBy_alloc wr _ none) (fun r e => by cases e))
        have HRz : Hid (wz.heap[rb]? = some (.cells rowCs.toArray 148 (0, 0))) := Lib.hid (by rw [hwz]; exact (Below.heap_alloc wr _ rb (lt_get' HR.out)).trans HR.out)
        have HBb : Hid (B ≤ bx) := Lib.hid (by rw [hbx]; have := lt_get' HR.out; have := HBr.out; omega)
        clear hwz hbx c0 c1 c2
        gi_loopw [2, 16] (fun u z ws => ∃ (j A : Nat), z = .int .i64 j ∧ j ≤ 1 ∧ u = .int .i64 A ∧ A ≤ a' + j * 4096 ∧ Hid (A = a' + j * s') ∧ Hid (J (Gd.preP i j) ws) ∧ Hid (ws.heap[rb]? = some (.cells rowCs.toArray 148 (0, 0))) ∧ Hid (ws.heap[bx]? = some (.cells #[.int .i64 k', .int .i64 0, .int .i64 s'] 148 (0, 0)))) (fun _ z _ => 1 - (intOf z).toNat)
        case atStart => exact ⟨0, a', rfl, by omega, rfl, by omega, Lib.hid (by rw [Nat.zero_mul]; rfl), HJz, HRz, HBz⟩
        case round =>
          obtain ⟨j, A, rfl, hj, rfl, hA, HA, HJj, HRj, HBj⟩ := hrel
          by_cases hjl : j < 1
          · have hpl := Gd.preP_short HRi.out (by rw [HM.out]; exact hjl)
            have hps := Gd.preP_step HRi.out (j := j) (by rw [HM.out]; exact hjl)
            rw [if_pos q4] at hps
            rw [← Hks.out.1, ← Hks.out.2.1, ← Hks.out.2.2, ← HA.out] at hps
            obtain ⟨fn, tmps, assign, body, hy, hR⟩ := HY.out (Gd.preP i j) ⟨k', 0, A, s'⟩ wr HJj.out hpl.1
            unfold ptV at hy
            dsimp only at hy
            rw [show ((0 : Nat) : Int) = 0 by omega] at hy
            rw [← hps] at hR
            have HRR := Lib.hid hR
            have HPl := Lib.hid hpl.2
            have d0 := cell_of_row wr bx 0 _ _ _ HBj.out
            have d1 := cell_of_row wr bx 1 _ _ _ HBj.out
            have d2 := cell_of_row wr bx 2 _ _ _ HBj.out
            have f1 : (j : Int) < 1 := by omega
            have f2 : (A : Int) ≤ 1000000 := by omega
            clear hps hR hpl hjl
            gi_wp2
            refine HRR.out.mono ?_
            rintro e W3 (⟨rfl, hJ3, hk3⟩ | ⟨rfl, hJx3⟩)
            · have HJ3 := Lib.hid hJ3
              have HR3 := Lib.hid (hk3 _ HBr.out _ _ _ HRj.out)
              have HB3 := Lib.hid (hk3 _ HBb.out _ _ _ HBj.out)
              have g0 := cell_of_row W3 bx 0 _ _ _ HB3.out
              have g1 := cell_of_row W3 bx 1 _ _ _ HB3.out
              have g2 := cell_of_row W3 bx 2 _ _ _ HB3.out
              have HA3 : Hid (A + s' = a' + (j + 1) * s') := Lib.hid (by rw [HA.out, Nat.add_mul, Nat.one_mul, Nat.add_assoc])
              clear hJ3 hk3 d0 d1 d2 hy HRR
              gi_wp2
              go_roundw
              case rel => exact ⟨j + 1, A + s', by go_num, by omega, by go_num, by omega, HA3, HJ3, HR3, HB3⟩
              case measure => simp [intOf]; omega
            · have HX3 := Lib.hid hJx3
              clear hJx3 d0 d1 d2 hy HRR
              gi_wp2
              refine bodyPost_ret (results_none rfl _ _ _) rfl ?_
              exact ⟨⟨_, rfl⟩, Or.inr ⟨_, HPl.out, HX3.out⟩⟩
          · obtain rfl : j = 1 := by omega
            have HA2 : Hid (A = Gd.startOf (i + 1)) := Lib.hid (by rw [HA.out, HQ.out.2.1, HM.out, Hks.out.2.1, Hks.out.2.2])
            have HJ2 : Hid (J (Gd.preP (i + 1) 0) wr) := Lib.hid (by rw [← Gd.preP_row HRi.out, HM.out]; exact HJj.out)
            clear hjl
            gi_wp2
            go_roundw
            case rel => exact ⟨i + 1, by go_num, by omega, by rw [HA2.out], HJ2, HRj⟩
            case measure => simp [intOf]; omega

      · obtain ⟨m, hm⟩ : ∃ m, m = r.m := ⟨_, rfl⟩
        rw [← hm] at c1 q4 q7
        have Hm := Lib.hid hm
        have hm1 : (1 : Int) < m := by omega
        have hm2 : 1 < m := by omega
        have HM : Hid (max 1 r.m = m) := Lib.hid (by omega)
        clear hm
        obtain ⟨k', hk'⟩ : ∃ k', k' = r.k := ⟨_, rfl⟩
        obtain ⟨s', hs'⟩ : ∃ s', s' = r.s := ⟨_, rfl⟩
        obtain ⟨a', ha'⟩ : ∃ a', a' = r.a := ⟨_, rfl⟩
        rw [← hk'] at c0
        rw [← hs'] at c2
        rw [← ha']
        have Hks := Lib.hid (And.intro hk' (And.intro hs' ha'))
        have hs4 : s' ≤ 4096 := by omega
        have ha4 : a' ≤ 14976 := by omega
        clear hk' hs' ha' q5 q6
        gi_wp2
        obtain ⟨wz, hwz⟩ : ∃ v, v = wr.alloc (.cells #[.int .i64 k', .int .i64 m, .int .i64 s'] 148) := ⟨_, rfl⟩
        rw [← hwz]
        obtain ⟨bx, hbx⟩ : ∃ bx, bx = wr.heap.size := ⟨_, rfl⟩
        rw [← hbx]
        have HBz : Hid (wz.heap[bx]? = some (.cells #[.int .i64 k', .int .i64 m, .int .i64 s'] 148 (0, 0))) := Lib.hid (by rw [hwz, hbx]; exact heap_alloc_new _ _)
        have HJz : Hid (J (Gd.preP i 0) wz) := Lib.hid (by rw [hwz]; exact HJa.out _ wr _ none HJ.out (World.grownBy_alloc wr _ none) (fun r e => by cases e))
        have HRz : Hid (wz.heap[rb]? = some (.cells rowCs.toArray 148 (0, 0))) := Lib.hid (by rw [hwz]; exact (Below.heap_alloc wr _ rb (lt_get' HR.out)).trans HR.out)
        have HBb : Hid (B ≤ bx) := Lib.hid (by rw [hbx]; have := lt_get' HR.out; have := HBr.out; omega)
        clear hwz hbx c0 c1 c2
        gi_loopw [2, 16] (fun u z ws => ∃ (j A : Nat), z = .int .i64 j ∧ j ≤ m ∧ u = .int .i64 A ∧ A ≤ a' + j * 4096 ∧ Hid (A = a' + j * s') ∧ Hid (J (Gd.preP i j) ws) ∧ Hid (ws.heap[rb]? = some (.cells rowCs.toArray 148 (0, 0))) ∧ Hid (ws.heap[bx]? = some (.cells #[.int .i64 k', .int .i64 m, .int .i64 s'] 148 (0, 0)))) (fun _ z _ => m - (intOf z).toNat)
        case atStart => exact ⟨0, a', rfl, by omega, rfl, by omega, Lib.hid (by rw [Nat.zero_mul]; rfl), HJz, HRz, HBz⟩
        case round =>
          obtain ⟨j, A, rfl, hj, rfl, hA, HA, HJj, HRj, HBj⟩ := hrel
          by_cases hjl : j < m
          · have hpl := Gd.preP_short HRi.out (by rw [HM.out]; exact hjl)
            have hps := Gd.preP_step HRi.out (j := j) (by rw [HM.out]; exact hjl)
            rw [if_neg (show ¬ r.m = 0 by have := Hm.out; omega)] at hps
            rw [← Hks.out.1, ← Hks.out.2.1, ← Hks.out.2.2, ← HA.out] at hps
            obtain ⟨fn, tmps, assign, body, hy, hR⟩ := HY.out (Gd.preP i j) ⟨k', (j + 1), A, s'⟩ wr HJj.out hpl.1
            unfold ptV at hy
            dsimp only at hy
            rw [show (((j + 1) : Nat) : Int) = (j : Int) + 1 by omega] at hy
            rw [← hps] at hR
            have HRR := Lib.hid hR
            have HPl := Lib.hid hpl.2
            have d0 := cell_of_row wr bx 0 _ _ _ HBj.out
            have d1 := cell_of_row wr bx 1 _ _ _ HBj.out
            have d2 := cell_of_row wr bx 2 _ _ _ HBj.out
            have f1 : (j : Int) < m := by omega
            have f2 : (A : Int) ≤ 1000000 := by omega
            clear hps hR hpl hjl
            gi_wp2
            refine HRR.out.mono ?_
            rintro e W3 (⟨rfl, hJ3, hk3⟩ | ⟨rfl, hJx3⟩)
            · have HJ3 := Lib.hid hJ3
              have HR3 := Lib.hid (hk3 _ HBr.out _ _ _ HRj.out)
              have HB3 := Lib.hid (hk3 _ HBb.out _ _ _ HBj.out)
              have g0 := cell_of_row W3 bx 0 _ _ _ HB3.out
              have g1 := cell_of_row W3 bx 1 _ _ _ HB3.out
              have g2 := cell_of_row W3 bx 2 _ _ _ HB3.out
              have HA3 : Hid (A + s' = a' + (j + 1) * s') := Lib.hid (by rw [HA.out, Nat.add_mul, Nat.one_mul, Nat.add_assoc])
              clear hJ3 hk3 d0 d1 d2 hy HRR
              gi_wp2
              go_roundw
              case rel => exact ⟨j + 1, A + s', by go_num, by omega, by go_num, by omega, HA3, HJ3, HR3, HB3⟩
              case measure => simp [intOf]; omega
            · have HX3 := Lib.hid hJx3
              clear hJx3 d0 d1 d2 hy HRR
              gi_wp2
              refine bodyPost_ret (results_none rfl _ _ _) rfl ?_
              exact ⟨⟨_, rfl⟩, Or.inr ⟨_, HPl.out, HX3.out⟩⟩
          · obtain rfl : j = m := by omega
            have HA2 : Hid (A = Gd.startOf (i + 1)) := Lib.hid (by rw [HA.out, HQ.out.2.1, HM.out, Hks.out.2.1, Hks.out.2.2])
            have HJ2 : Hid (J (Gd.preP (i + 1) 0) wr) := Lib.hid (by rw [← Gd.preP_row HRi.out, HM.out]; exact HJj.out)
            clear hjl
            gi_wp2
            go_roundw
            case rel => exact ⟨i + 1, by go_num, by omega, by rw [HA2.out], HJ2, HRj⟩
            case measure => simp [intOf]; omega

    · obtain rfl : i = 7 := by omega
      clear hlt
      gi_wp2
      go_end0
      exact ⟨⟨_, rfl⟩, Or.inl ⟨_, Gd.preP_end, HJ.out⟩⟩

end Go.Proofs.YtiinponoeaihcaaGreat

/- Walks: layout.Find and layout.Size. -/
namespace Go.Proofs.YtiinponoeaihcaaGreat
open Go.RowKit Go.Shelf

attribute [local go_sem] Oper.semAt_some

/-- the cells of a block, of no frame -/
def CellsAt (W : World) (B : Nat) (t : TypeId) (cs : Array Value) : Prop := W.heap[B]? = some (.cells cs t (0, 0))
theorem CellsAt.lt {W : World} {B : Nat} {t : TypeId} {cs : Array Value} (h : CellsAt W B t cs) : B < W.heap.size := (Array.getElem?_eq_some_iff.1 h).1
theorem CellsAt.alloc {W : World} {B : Nat} {t : TypeId} {cs : Array Value} (h : CellsAt W B t cs) (o : Obj) : CellsAt (W.alloc o) B t cs := (Below.heap_alloc W o B h.lt).trans h
theorem cellsAt_own {β : Type} (B : Nat) (t : TypeId) (f : β → Array Value) : Own (fun s W => CellsAt W B t (f s)) := fun s X Y row hs hg hrow => by
  have hne : some B ≠ row := fun e' => by obtain ⟨o, ho, hc⟩ := hrow B e'.symm; rw [show X.heap[B]? = _ from hs] at ho; cases ho; cases hc
  exact (hg.block B hs.lt hne).trans hs

theorem keepsC_r (D : Nat) (W : World) : KeepsC D W W := fun _ _ _ _ _ h => h
def ptC (p : Gd.Pt) : Array Value := #[.int .i64 p.k, .int .i64 p.n, .int .i64 p.a, .int .i64 p.s]
namespace Gd
def isP (k m : Int) (p : Pt) : Bool := ((p.k : Int) == k) && ((p.n : Int) == m)
def findP (k m : Int) : Option Pt := partsL.find? (isP k m)
end Gd
def ptO : Option Gd.Pt → Value
  | some p => ptV p
  | none => .agg #[.int .i64 0, .int .i64 0, .int .i64 0, .int .i64 0]

set_option maxRecDepth 100000 in
set_option maxHeartbeats 8000000 in
theorem find_in (F : Fence) (n : Nat) (hf : F.fn 57) (hf2 : F.fn 76) (hf3 : F.fn 89) (hro : F.round = none) (hn : 6 ≤ n) (k m : Int) (w : World) :
    CallsIn F n Tryz.prog 57 #[.int .i64 k, .int .i64 m] w fun e W' => e = .returned (.tuple #[ptO (Gd.findP k m), .bool (Gd.findP k m).isSome]) ∧ Below w.heap.size w W' := by
  have h1 : 1 ≤ n := by omega
  refine callsIn_of_wp_marks Tryz.func57 rfl hf ?_ hro
  simp only [Tryz.ntmps57, List.size_toArray, List.length_cons, List.length_nil, Nat.reduceAdd, Nat.reduceSub, Array.replicate_succ, Array.replicate_zero, List.push_toArray, List.append_toArray, List.nil_append, List.cons_append]
  gi_wp2
  obtain ⟨W0, hW0⟩ : ∃ W0, W0 = (((w.alloc (.cells #[.int .i64 k] 3)).alloc (.cells #[.int .i64 m] 3)).alloc (.cells #[.int .i64 0, .int .i64 0, .int .i64 0, .int .i64 0] 107)).alloc (.cells #[.bool false] 4) := ⟨_, rfl⟩
  have c0 : CellsAt W0 w.heap.size 3 #[.int .i64 k] := by rw [hW0]; exact (((CellsAt.alloc (heap_alloc_new w _) _).alloc _).alloc _)
  have c1 : CellsAt W0 (w.heap.size + 1) 3 #[.int .i64 m] := by rw [hW0]; have := heap_alloc_new (w.alloc (.cells #[.int .i64 k] 3)) (.cells #[.int .i64 m] 3); rw [World.size_alloc] at this; exact (CellsAt.alloc this _).alloc _
  have c2 : CellsAt W0 (w.heap.size + 1 + 1) 107 #[.int .i64 0, .int .i64 0, .int .i64 0, .int .i64 0] := by rw [hW0]; have := heap_alloc_new ((w.alloc (.cells #[.int .i64 k] 3)).alloc (.cells #[.int .i64 m] 3)) (.cells #[.int .i64 0, .int .i64 0, .int .i64 0, .int .i64 0] 107); rw [World.size_alloc, World.size_alloc] at this; exact CellsAt.alloc this _
  have c3 : CellsAt W0 (w.heap.size + 1 + 1 + 1) 4 #[.bool false] := by rw [hW0]; have := heap_alloc_new (((w.alloc (.cells #[.int .i64 k] 3)).alloc (.cells #[.int .i64 m] 3)).alloc (.cells #[.int .i64 0, .int .i64 0, .int .i64 0, .int .i64 0] 107)) (.cells #[.bool false] 4); rw [World.size_alloc, World.size_alloc, World.size_alloc] at this; exact this
  have hB0 : Below w.heap.size w W0 := by rw [hW0]; exact ((((Below.refl _ w).alloc (Nat.le_refl _) _).alloc (by simp) _).alloc (by simp; omega) _).alloc (by simp; omega) _
  have hsz : W0.heap.size = w.heap.size + 4 := by rw [hW0]; simp
  rw [← hW0]
  clear hW0
  refine wpIn_rangeFunc_ownH hro h1 (gf := 76) (lb := #[]) rfl hf2 (enters_of Tryz.func76 (by kernel_rfl) rfl)
    (parts_stops F (n - 1) hf2 hf3 hro (by omega) 0 W0 (Nat.zero_le _)) (keepsC_t 0) (keepsC_b 0 (w := W0)) (Below.refl _ _) (fun _ => rfl)
    (fun pre W => (((((∀ p ∈ pre, Gd.isP k m p = false) ∧ CellsAt W w.heap.size 3 #[.int .i64 k]) ∧ CellsAt W (w.heap.size + 1) 3 #[.int .i64 m]) ∧ CellsAt W (w.heap.size + 1 + 1) 107 #[.int .i64 0, .int .i64 0, .int .i64 0, .int .i64 0]) ∧ CellsAt W (w.heap.size + 1 + 1 + 1) 4 #[.bool false]) ∧ Below w.heap.size w W)
    (fun c pre W => (c = .ret ∧ (∃ q p, (pre = q ++ [p] ∧ (∀ r ∈ q, Gd.isP k m r = false) ∧ Gd.isP k m p = true) ∧ CellsAt W (w.heap.size + 1 + 1) 107 (ptC p)) ∧ CellsAt W (w.heap.size + 1 + 1 + 1) 4 #[.bool true]) ∧ Below w.heap.size w W)
    ?o1 ?o2 ?o3
    (fun x a' W => ∃ Bx, w.heap.size + 4 ≤ Bx ∧ CellsAt W Bx 107 (ptC x) ∧ a' = { tmps := #[.int .i64 k, .int .i64 m, .pointer (some ⟨w.heap.size, 0, none⟩), .pointer (some ⟨w.heap.size + 1, 0, none⟩), .pointer (some ⟨w.heap.size + 1 + 1, 0, none⟩), .pointer (some ⟨w.heap.size + 1 + 1 + 1, 0, none⟩), .pointer (some ⟨Bx, 0, none⟩), ptV x, undef, undef, undef, undef, undef, undef, undef, undef, undef, undef, undef], defers := [] })
    ?o4 ?assign ?body ?done ?stop
  case o1 => exact OwnFrom.and (OwnFrom.and (OwnFrom.and (OwnFrom.and (OwnFrom.and (ownFrom_pure _ _) (Own.from (cellsAt_own _ _ _) _)) (Own.from (cellsAt_own _ _ _) _)) (Own.from (cellsAt_own _ _ _) _)) (Own.from (cellsAt_own _ _ _) _)) (ownFrom_below (Nat.le_refl _) (by omega))
  case o2 =>
    refine fun c => OwnFrom.and (OwnFrom.and (ownFrom_pure _ _) (OwnFrom.and ?_ (Own.from (cellsAt_own _ _ _) _))) (ownFrom_below (Nat.le_refl _) (by omega))
    rintro s X Y row ⟨q, p, hp, hc⟩ hg hr
    exact ⟨q, p, hp, cellsAt_own _ _ (fun (_ : Unit) => ptC p) () X Y row hc hg (fun r e => (hr r e).2)⟩
  case o4 =>
    rintro x a' _ X Y row ⟨Bx, e1, e2, e3⟩ hg hr
    exact ⟨Bx, e1, cellsAt_own _ _ (fun (_ : Unit) => ptC x) () X Y row e2 hg (fun r e => (hr r e).2), e3⟩
  case o3 => exact ⟨⟨⟨⟨⟨by simp, c0⟩, c1⟩, c2⟩, c3⟩, hB0⟩
  case assign =>
    rintro l pre ⟨pk, pn, pa, ps⟩ W K ⟨⟨⟨⟨⟨hp, q0⟩, q1⟩, q2⟩, q3⟩, hB1⟩ hK
    have HK := Lib.hid hK
    have HP := Lib.hid (And.intro hp (And.intro q0 (And.intro q1 (And.intro q2 q3))))
    have HB := Lib.hid hB1
    have hlt := hB1.size
    have hlt3 := q3.lt
    clear hK hp q0 q1 q2 q3 hB1
    unfold ptV
    gi_wp2
    exact HK.out _ _ ((KeepsOthers.alloc _ _).from _) (keepsC_below _ ((Below.refl _ W).alloc (Nat.le_refl _) _)) ⟨⟨⟨⟨⟨HP.out.1, HP.out.2.1.alloc _⟩, HP.out.2.2.1.alloc _⟩, HP.out.2.2.2.1.alloc _⟩, HP.out.2.2.2.2.alloc _⟩, HB.out.alloc hlt _⟩ ⟨W.heap.size, by omega, heap_alloc_new W _, rfl⟩
  case body =>
    rintro l pre ⟨pk, pn, pa, ps⟩ a' W hl ⟨r, hr⟩ ⟨⟨⟨⟨⟨hp, q0⟩, q1⟩, q2⟩, q3⟩, hB1⟩ ⟨Bx, hBx, bX, rfl⟩ hlt
    have HP := Lib.hid (And.intro hp (And.intro q0 (And.intro q1 (And.intro q2 q3))))
    have HB := Lib.hid hB1
    have HR := Lib.hid (And.intro hl (And.intro hr bX))
    have x0 := cell_of_row W Bx 0 _ _ _ bX
    have x1 := cell_of_row W Bx 1 _ _ _ bX
    have x2 := cell_of_row W Bx 2 _ _ _ bX
    have x3 := cell_of_row W Bx 3 _ _ _ bX
    have xk := cell_of_row W _ 0 _ _ _ q0
    have xm := cell_of_row W _ 0 _ _ _ q1
    unfold ptC at x0 x1 x2 x3
    have y0 := cell_of_row W _ 0 _ _ _ q2
    have y1 := cell_of_row W _ 1 _ _ _ q2
    have y2 := cell_of_row W _ 2 _ _ _ q2
    have y3 := cell_of_row W _ 3 _ _ _ q2
    have z0 := frozen_of_row W _ 0 _ _ q2
    have z1 := frozen_of_row W _ 1 _ _ q2
    have z2 := frozen_of_row W _ 2 _ _ q2
    have z3 := frozen_of_row W _ 3 _ _ q2
    have yb := cell_of_row W _ 0 _ _ _ q3
    have zb := frozen_of_row W _ 0 _ _ q3
    have HL : Hid (pre ++ [⟨pk, pn, pa, ps⟩] <+: Gd.partsL ∨ True) := Lib.hid (Or.inr trivial)
    clear hl hr bX hp q0 q1 q2 q3 hB1 hlt
    unfold ptV
    by_cases hk : (pk : Int) = k
    · by_cases hm : (pn : Int) = m
      · subst hk hm
        gi_wp2
        have s0 : CellsAt _ (w.heap.size + 1 + 1) 107 _ := Go.heap_setCell_same W _ 0 _ _ (.int .i64 pk) HP.out.2.2.2.1
        have s1 : CellsAt _ (w.heap.size + 1 + 1) 107 _ := Go.heap_setCell_same _ _ 1 _ _ (.int .i64 pn) s0
        have s2 : CellsAt _ (w.heap.size + 1 + 1) 107 _ := Go.heap_setCell_same _ _ 2 _ _ (.int .i64 pa) s1
        have s3 : CellsAt _ (w.heap.size + 1 + 1) 107 _ := Go.heap_setCell_same _ _ 3 _ _ (.int .i64 ps) s2
        have b0 : ∀ (V : World) (i : Nat) (v : Value), CellsAt V (w.heap.size + 1 + 1 + 1) 4 #[.bool false] → CellsAt (V.setCell ⟨w.heap.size + 1 + 1, i, none⟩ v) (w.heap.size + 1 + 1 + 1) 4 #[.bool false] := fun V i v h => (Go.heap_setCell_other V ⟨w.heap.size + 1 + 1, i, none⟩ _ v (by simp)).trans h
        have kk : ∀ (V : World) (a : Addr) (v : Value), KeepsFrom (w.heap.size + 4) W V → KeepsFrom (w.heap.size + 4) W (V.setCell a v) := fun V a v h => h.trans ((KeepsOthers.setCell V a v).from _)
        have bb : ∀ (V : World) (i : Nat) (j : Nat) (v : Value), w.heap.size ≤ i → Below w.heap.size w V → Below w.heap.size w (V.setCell ⟨i, j, none⟩ v) := fun V i j v hi h => h.setCell hi v
        refine ⟨kk _ _ _ (kk _ _ _ (kk _ _ _ (kk _ _ _ (kk _ _ _ (KeepsFrom.refl _ _))))), ⟨rfl, ⟨pre, ⟨pk, pn, pa, ps⟩, ⟨rfl, HP.out.1, by simp [Gd.isP]⟩, (Go.heap_setCell_other _ _ _ _ (by simp)).trans s3⟩, ?_⟩, bb _ _ _ _ (by omega) (bb _ _ _ _ (by omega) (bb _ _ _ _ (by omega) (bb _ _ _ _ (by omega) (bb _ _ _ _ (by omega) HB.out))))⟩
        exact Go.heap_setCell_same _ _ 0 _ _ (.bool true) (b0 _ _ _ (b0 _ _ _ (b0 _ _ _ (b0 _ _ _ HP.out.2.2.2.2))))
      · have HN : Hid (Gd.isP k m ⟨pk, pn, pa, ps⟩ = false) := Lib.hid (by simp [Gd.isP, hm])
        have hm' : m ≠ (pn : Int) := fun e => hm e.symm
        gi_wp2
        exact ⟨KeepsFrom.refl _ _, keepsC_r _ _, ⟨⟨⟨⟨fun r hr => (List.mem_append.1 hr).elim (HP.out.1 r) (fun e => by rw [List.mem_singleton.1 e]; exact HN.out), HP.out.2.1⟩, HP.out.2.2.1⟩, HP.out.2.2.2.1⟩, HP.out.2.2.2.2⟩, HB.out⟩
    · have HN : Hid (Gd.isP k m ⟨pk, pn, pa, ps⟩ = false) := Lib.hid (by simp [Gd.isP, hk])
      have hk' : k ≠ (pk : Int) := fun e => hk e.symm
      gi_wp2
      exact ⟨KeepsFrom.refl _ _, keepsC_r _ _, ⟨⟨⟨⟨fun r hr => (List.mem_append.1 hr).elim (HP.out.1 r) (fun e => by rw [List.mem_singleton.1 e]; exact HN.out), HP.out.2.1⟩, HP.out.2.2.1⟩, HP.out.2.2.2.1⟩, HP.out.2.2.2.2⟩, HB.out⟩
  case done =>
    rintro D zs W hD rfl ⟨⟨⟨⟨⟨hp, q0⟩, q1⟩, q2⟩, q3⟩, hB1⟩ hK
    have HN : Hid (Gd.findP k m = none) := Lib.hid (List.find?_eq_none.2 fun p h => by rw [hp p h]; decide)
    have y0 := cell_of_row W _ 0 _ _ _ q2
    have y1 := cell_of_row W _ 1 _ _ _ q2
    have y2 := cell_of_row W _ 2 _ _ _ q2
    have y3 := cell_of_row W _ 3 _ _ _ q2
    have z0 := frozen_of_row W _ 0 _ _ q2
    have z1 := frozen_of_row W _ 1 _ _ q2
    have z2 := frozen_of_row W _ 2 _ _ q2
    have z3 := frozen_of_row W _ 3 _ _ q2
    have yb := cell_of_row W _ 0 _ _ _ q3
    have zb := frozen_of_row W _ 0 _ _ q3
    have HK := Lib.hid (And.intro hD (And.intro q2 (And.intro q3 (And.intro hB1 hK))))
    clear hp q0 q1 q2 q3 hB1 hK
    gi_wp2
    have b0 : ∀ (V : World) (i : Nat) (v : Value), CellsAt V (w.heap.size + 1 + 1 + 1) 4 #[.bool false] → CellsAt (V.setCell ⟨w.heap.size + 1 + 1, i, none⟩ v) (w.heap.size + 1 + 1 + 1) 4 #[.bool false] := fun V i v h => (Go.heap_setCell_other V ⟨w.heap.size + 1 + 1, i, none⟩ _ v (by simp)).trans h
    have bb : ∀ (V : World) (i : Nat) (j : Nat) (v : Value), w.heap.size ≤ i → Below w.heap.size w V → Below w.heap.size w (V.setCell ⟨i, j, none⟩ v) := fun V i j v hi h => h.setCell hi v
    have dd : ∀ (V : World) (i : Nat) (j : Nat) (v : Value), i < w.heap.size + 4 → V.heap[D]? = some (.deferred (some [])) → (V.setCell ⟨i, j, none⟩ v).heap[D]? = some (.deferred (some [])) := fun V i j v hi h => (Go.heap_setCell_other V ⟨i, j, none⟩ _ v (show D ≠ i by omega)).trans h
    have s0 : CellsAt _ (w.heap.size + 1 + 1) 107 _ := Go.heap_setCell_same W _ 0 _ _ (.int .i64 0) HK.out.2.1
    have s1 : CellsAt _ (w.heap.size + 1 + 1) 107 _ := Go.heap_setCell_same _ _ 1 _ _ (.int .i64 0) s0
    have s2 : CellsAt _ (w.heap.size + 1 + 1) 107 _ := Go.heap_setCell_same _ _ 2 _ _ (.int .i64 0) s1
    have s3 : CellsAt _ (w.heap.size + 1 + 1) 107 _ := Go.heap_setCell_same _ _ 3 _ _ (.int .i64 0) s2
    obtain ⟨V, hV⟩ : ∃ V, V = ((((W.setCell ⟨w.heap.size + 1 + 1, 0, none⟩ (.int .i64 0)).setCell ⟨w.heap.size + 1 + 1, 1, none⟩ (.int .i64 0)).setCell ⟨w.heap.size + 1 + 1, 2, none⟩ (.int .i64 0)).setCell ⟨w.heap.size + 1 + 1, 3, none⟩ (.int .i64 0)).setCell ⟨w.heap.size + 1 + 1 + 1, 0, none⟩ (.bool false) := ⟨_, rfl⟩
    rw [← hV]
    have v2 : CellsAt V (w.heap.size + 1 + 1) 107 #[.int .i64 0, .int .i64 0, .int .i64 0, .int .i64 0] := by rw [hV]; exact (Go.heap_setCell_other _ ⟨w.heap.size + 1 + 1 + 1, 0, none⟩ _ (.bool false) (by simp)).trans s3
    have v3 : CellsAt V (w.heap.size + 1 + 1 + 1) 4 #[.bool false] := by rw [hV]; exact Go.heap_setCell_same _ _ 0 _ _ (.bool false) (b0 _ _ _ (b0 _ _ _ (b0 _ _ _ (b0 _ _ _ HK.out.2.2.1))))
    have vk : V.heap[D]? = some (.deferred (some [])) := by rw [hV]; exact dd _ _ _ _ (by omega) (dd _ _ _ _ (by omega) (dd _ _ _ _ (by omega) (dd _ _ _ _ (by omega) (dd _ _ _ _ (by omega) HK.out.2.2.2.2))))
    have vb : Below w.heap.size w V := by rw [hV]; exact bb _ _ _ _ (by omega) (bb _ _ _ _ (by omega) (bb _ _ _ _ (by omega) (bb _ _ _ _ (by omega) (bb _ _ _ _ (by omega) HK.out.2.2.2.1))))
    clear hV s0 s1 s2 s3 b0 bb dd y0 y1 y2 y3 z0 z1 z2 z3 yb zb
    have e2 : CellsAt (V.putObj D (.deferred none)) (w.heap.size + 1 + 1) 107 _ := (World.putObj_heap_other (show w.heap.size + 1 + 1 ≠ D by omega)).trans v2
    have e3 : CellsAt (V.putObj D (.deferred none)) (w.heap.size + 1 + 1 + 1) 4 _ := (World.putObj_heap_other (show w.heap.size + 1 + 1 + 1 ≠ D by omega)).trans v3
    have y0 := cell_of_row _ _ 0 _ _ _ e2
    have y1 := cell_of_row _ _ 1 _ _ _ e2
    have y2 := cell_of_row _ _ 2 _ _ _ e2
    have y3 := cell_of_row _ _ 3 _ _ _ e2
    have y4 := cell_of_row _ _ 0 _ _ _ e3
    refine ⟨by simp, .inl ⟨_, _, rfl, run_takeDeferred vk, ?_⟩⟩
    refine ⟨.tuple #[.agg #[.int .i64 0, .int .i64 0, .int .i64 0, .int .i64 0], .bool false], ?_, by rw [HN.out]; rfl, vb.trans ?_⟩
    · simp [results, Tryz.f57, go_sem, y0, y1, y2, y3, y4]
    · exact belowK_b (w := w) (Nat.le_refl _) _ D _ _ (by omega) vk rfl rfl
  case stop =>
    rintro D c pre W hD hpre ⟨⟨rfl, ⟨q, p, ⟨rfl, hq, hp⟩, q2⟩, q3⟩, hB1⟩ hK
    have HF : Hid (Gd.findP k m = some p) := Lib.hid (by
      obtain ⟨s, hs⟩ := hpre
      unfold Gd.findP
      rw [← hs, List.append_assoc, List.find?_append, List.find?_eq_none.2 (fun r h => by rw [hq r h]; decide)]
      simp [hp])
    gi_wp2
    have hs := hB1.size
    have e2 : CellsAt (W.putObj D (.deferred none)) (w.heap.size + 1 + 1) 107 _ := (World.putObj_heap_other (show w.heap.size + 1 + 1 ≠ D by omega)).trans q2
    have e3 : CellsAt (W.putObj D (.deferred none)) (w.heap.size + 1 + 1 + 1) 4 _ := (World.putObj_heap_other (show w.heap.size + 1 + 1 + 1 ≠ D by omega)).trans q3
    unfold ptC at e2
    have y0 := cell_of_row _ _ 0 _ _ _ e2
    have y1 := cell_of_row _ _ 1 _ _ _ e2
    have y2 := cell_of_row _ _ 2 _ _ _ e2
    have y3 := cell_of_row _ _ 3 _ _ _ e2
    have y4 := cell_of_row _ _ 0 _ _ _ e3
    refine ⟨by simp, .inl ⟨_, _, rfl, run_takeDeferred hK, ?_⟩⟩
    refine ⟨.tuple #[ptV p, .bool true], ?_, by rw [HF.out]; rfl, hB1.trans ?_⟩
    · simp [results, Tryz.f57, go_sem, y0, y1, y2, y3, y4, ptV]
    · exact belowK_b (w := w) (Nat.le_refl _) _ D _ _ (by omega) hK rfl rfl

end Go.Proofs.YtiinponoeaihcaaGreat

/- Walk: layout.Size; and where a part lies. -/
namespace Go.Proofs.YtiinponoeaihcaaGreat
open Go.RowKit Go.Shelf

attribute [local go_sem] Oper.semAt_some

namespace Gd
deriving instance DecidableEq for Pt
def ptAt (k m : Int) : Option Pt := (partAt k m).map fun x => ⟨k.toNat, m.toNat, x.1, x.2⟩
theorem findP_some : ∀ (k : Fin 8) (m : Fin 129), findP (k.val : Int) (m.val : Int) = ptAt (k.val : Int) (m.val : Int) := by decide +kernel
theorem parts_in : ∀ p ∈ partsL, p.k ≤ 7 ∧ p.n ≤ 128 := by decide +kernel
theorem findP_at (k m : Int) : findP k m = ptAt k m := by
  by_cases h : 0 ≤ k ∧ k ≤ 7 ∧ 0 ≤ m ∧ m ≤ 128
  · have := findP_some ⟨k.toNat, by omega⟩ ⟨m.toNat, by omega⟩
    rw [show ((⟨k.toNat, by omega⟩ : Fin 8).val : Int) = k by simp; omega, show ((⟨m.toNat, by omega⟩ : Fin 129).val : Int) = m by simp; omega] at this
    exact this
  · have e : findP k m = none := List.find?_eq_none.2 fun p hp => by
      have := parts_in p hp
      simp only [isP, Bool.and_eq_true, beq_iff_eq, not_and]
      intro h1 h2
      omega
    rw [e]
    unfold ptAt partAt
    symm
    rw [Option.map_eq_none_iff]
    split <;> (try split) <;> (try split) <;> (try split) <;> (try split) <;> (try split) <;> (try split) <;> (try split) <;> first | rfl | omega
theorem parts_small : ∀ p ∈ partsL, p.s ≤ 4096 := by decide +kernel
theorem parts_size : (partsL.map (fun p => p.s)).sum = 23168 := by decide +kernel
end Gd

def SizeIs (pre : List Gd.Pt) (v : Int) : Prop := (∀ p ∈ pre, p.s ≤ 4096) → v = ((pre.map fun p => p.s).sum : Nat) ∧ (pre.map fun p => p.s).sum ≤ pre.length * 4096

end Go.Proofs.YtiinponoeaihcaaGreat

/- Walks: the log: its end, keep, Clear. -/
namespace Go.Proofs.YtiinponoeaihcaaGreat
open Go.RowKit Go.Shelf

attribute [local go_sem] Oper.semAt_some

theorem le_get {N : Nat} (hN : N < 9223372036854775808) : Gd.get (Gd.le N 8) 0 8 = N := by
  have e : Gd.getN (Gd.le N 8) 0 8 = N := by
    unfold Gd.getN
    rw [List.drop_zero, List.take_of_length_le (by rw [Gd.le_length]; exact Nat.le_refl _)]
    exact Gd.unle_le 8 N (by omega)
  unfold Gd.get Gd.getB
  rw [Gd.le_length, show (0 : Int).toNat = 0 from rfl, e]
  simp
  omega

end Go.Proofs.YtiinponoeaihcaaGreat

/- Walks: the log: keep, Clear. -/
namespace Go.Proofs.YtiinponoeaihcaaGreat
open Go.RowKit Go.Shelf

attribute [local go_sem] Oper.semAt_some

/-- the blocks of a memory that its calls may turn -/
def Mem3 (sb lb ab : Nat) (k : Nat) : Prop := k = sb ∨ k = lb ∨ k = ab
theorem made8 (W : World) : (Instr.makeSlice 42 (.int .i64 8) (.int .i64 8)).run Tryz.prog W = .ok (.slice (some ⟨W.heap.size, 0, none⟩) 8 8) (W.alloc (.cells (cellsB (List.replicate 8 0)) 5)) := by
  obtain ⟨i0, hi, hz0, hz1, hz2⟩ := info_parts Tryz.infoU8
  have := run_makeSlice (P := Tryz.prog) (w := W) 42 5 i0 _ Tryz.underlying42 hi hz0 .i64 .i64 8 8 (by omega) (by omega) (by rw [hz1]; decide) (by rw [hz2]; omega) (by omega)
  rw [hz1, show madeCells (Value.int .u8 0).cells (Int.toNat 8 * 1) = cellsB (List.replicate 8 0) from by first | kernel_rfl | rfl | decide] at this
  exact this
theorem made_at (W : World) (L : List UInt8) (c : Nat) : BytesAt (W.alloc (.cells (cellsB L) 5)) (.slice (some ⟨W.heap.size, 0, none⟩) L.length c) L :=
  ⟨_, _, rfl, Or.inr ⟨_, 0, rfl, by simp, fun j x hx => by
    rw [Nat.zero_add]
    exact (cell_of_row _ _ j _ _ _ (heap_alloc_new W _)).trans (cellsB_get hx)⟩⟩

end Go.Proofs.YtiinponoeaihcaaGreat

/- Noughts behind bytes that the call owns. -/
namespace Go.Proofs.YtiinponoeaihcaaGreat
open Go.RowKit Go.Lib

theorem zeros_cells (k : Nat) : (Builtin.zeroCells (Value.int .u8 0).cells k).toList = Lib.byteCells (List.replicate k 0) := by
  have hz : (Value.int IntKind.u8 0).cells = #[Value.int .u8 0] := rfl
  rw [hz]
  unfold Builtin.zeroCells Lib.byteCells
  rw [Array.toList_map, Array.toList_range]
  apply List.ext_getElem?
  intro j
  rw [List.getElem?_map, List.getElem?_map]
  by_cases h : j < k
  · rw [List.getElem?_range (by simpa using h), List.getElem?_replicate, if_pos h]
    simp [Nat.mod_one]
  · rw [List.getElem?_eq_none (by simpa using h), List.getElem?_eq_none (by simpa using h)]
    rfl
theorem zeros_one (k : Nat) : ∀ u ∈ Lib.byteCells (List.replicate k 0), u.oneCell' = true := by
  intro u hu
  simp only [Lib.byteCells, List.mem_map] at hu
  obtain ⟨b, _, rfl⟩ := hu
  rfl
theorem byteCells_len' (L : List UInt8) : (Lib.byteCells L).length = L.length := by
  unfold Lib.byteCells
  rw [List.length_map]

section
variable {P : Program} (w : World)
theorem run_append_room_zeros (t tn ty e : TypeId) (i : TypeInfo) (kq kn : IntKind) (ht : P.underlying t = some (.slice e)) (htn : P.underlying tn = some (.int kn)) (hi : P.info? e = some i) (hz : i.zero = some (.int .u8 0)) (hs1 : i.size = 1) (hby : i.bytes = 1)
    (g sLen sCap : Nat) (cur : Array Value) (hg : w.heap[g]? = some (.cells cur e (0, 0))) (k : Nat) (h0 : 0 < k) (hk : k ≤ 1000000)
    (hroom : sLen + k ≤ sCap) (hfit : sLen + k ≤ cur.size) :
    (Builtin.append_ #[t, tn] ty #[.slice (some ⟨g, 0, none⟩) sLen sCap, .int kq k]).run P w =
      .ok (.slice (some ⟨g, 0, none⟩) (sLen + k) sCap) (w.setRow g (cur.toList.take sLen ++ Lib.byteCells (List.replicate k 0) ++ cur.toList.drop (sLen + k)).toArray) := by
  have hw : IntKind.i64.wrap (k : Int) = k := by rw [IntKind.wrap_i64]; omega
  have h48i : ¬ (281474976710656 < (k : Int)) := by omega
  have hneg : ¬ ((k : Int) < 0) := by omega
  have hk0 : k ≠ 0 := by omega
  have hst := run_storeCells_at P g sLen e (Lib.byteCells (List.replicate k 0)) 0 cur w hg (by simpa [byteCells_len'] using hfit) (zeros_one k)
  simp only [Nat.add_zero, byteCells_len', List.length_replicate] at hst
  have hzc := zeros_cells k
  simp [Builtin.append_, run_underlying ht, run_underlying htn, sizeOf, typeInfo, zeroValue, hi, hz, hs1, hby, asInt, asIntOf, hw, hroom, hneg, hk0, h48i, Addr.add_lit, hst, hzc]

/-- noughts behind bytes that the call owns -/
theorem run_append_own_zeros (base : Nat) (t tn ty e : TypeId) (i : TypeInfo) (kq kn : IntKind) (ht : P.underlying t = some (.slice e)) (htn : P.underlying tn = some (.int kn)) (hi : P.info? e = some i) (hz : i.zero = some (.int .u8 0)) (hsize : i.size = 1) (hby : i.bytes = 1)
    (v : Value) (n : Nat) (xs : List Value) (hown : w.ownsRow base e 1 v n xs) (k : Nat) (hk : n + k ≤ 1000000) (hbase : base ≤ w.heap.size) :
    ∃ v' w', (Builtin.append_ #[t, tn] ty #[v, .int kq k]).run P w = .ok v' w' ∧ w'.ownsRow base e 1 v' (n + k) (xs ++ Lib.byteCells (List.replicate k 0)) ∧ w.grownBy w' v.ownBlock := by
  have hxl : xs.length = n := by simpa using hown.1
  have hbl : (Lib.byteCells (List.replicate k 0)).length = k := by rw [byteCells_len', List.length_replicate]
  have hlen : (xs ++ Lib.byteCells (List.replicate k 0)).length = (n + k) * 1 := by rw [List.length_append, hxl, hbl, Nat.mul_one]
  by_cases h0 : k = 0
  · subst h0
    refine ⟨v, w, ?_, by simpa [Lib.byteCells] using hown, ⟨rfl, rfl, rfl, Nat.le_refl _, fun _ _ _ => rfl⟩⟩
    have hw0 : IntKind.i64.wrap 0 = 0 := by rw [IntKind.wrap_i64]; omega
    rcases hown.2 with ⟨rfl, rfl⟩ | ⟨g, cap, cur, rfl, hbg, hg, hnc, hcm, hcs, htake⟩
    · simp [Builtin.append_, run_underlying ht, run_underlying htn, sizeOf, typeInfo, hi, hsize, hby, asInt, asIntOf, hw0]
    · simp [Builtin.append_, run_underlying ht, run_underlying htn, sizeOf, typeInfo, hi, hsize, hby, asInt, asIntOf, hw0, hnc, storeCells]
  have grown : ∀ (old : Nat), old < n + k → ∀ (row : Option Nat),
      (w.drew.alloc (.cells (xs.toArray ++ Builtin.zeroCells (Value.int .u8 0).cells k ++ Builtin.zeroCells (Value.int .u8 0).cells (grownCap w (n + k) old e - (n + k))) e)).ownsRow base e 1
        (.slice (some ⟨w.heap.size, 0, none⟩) (n + k) (grownCap w (n + k) old e)) (n + k) (xs ++ Lib.byteCells (List.replicate k 0)) ∧
      w.grownBy (w.drew.alloc (.cells (xs.toArray ++ Builtin.zeroCells (Value.int .u8 0).cells k ++ Builtin.zeroCells (Value.int .u8 0).cells (grownCap w (n + k) old e - (n + k))) e)) row := by
    intro old ho row
    have hge := grownCap_ge w (n + k) old e
    have hcm : grownCap w (n + k) old e ≤ maxLen := grownCap_le_maxLen w (n + k) old e (by unfold maxLen; omega)
    refine ⟨⟨hlen, .inr ⟨w.heap.size, _, _, rfl, hbase, heap_alloc_new w.drew _, hge, hcm, ?_, ?_⟩⟩, ⟨rfl, rfl, rfl, by simp, fun j hj _ => Below.heap_alloc w.drew _ j hj⟩⟩
    · have hz1 : (Value.int IntKind.u8 0).cells.size = 1 := rfl
      simp only [Array.size_append, List.size_toArray, size_zeroCells, hz1, hxl]
      omega
    · simp only [Array.toList_append, zeros_cells, List.append_assoc]
      rw [← List.append_assoc, ← hlen]
      exact List.take_left
  rcases hown.2 with ⟨rfl, rfl⟩ | ⟨g, cap, cur, rfl, hbg, hg, hnc, hcm, hcs, htake⟩
  · have hx : xs = [] := List.eq_nil_of_length_eq_zero hxl
    subst hx
    have hr := run_append_nil_zeros (P := P) w t tn ty e i (.int .u8 0) kq kn ht htn hi hz k (by omega) (by omega) (by omega) (by rw [hby]; omega)
    have hgr := grown 0 (by omega) (Value.ownBlock (.slice none 0 0))
    simp only [Nat.zero_add, List.nil_append, Array.empty_append] at hgr ⊢
    exact ⟨_, _, hr, hgr.1, hgr.2⟩
  · by_cases hroom : n + k ≤ cap
    · have hcs' : cur.size = cap := by simpa using hcs
      have hr := run_append_room_zeros (P := P) w t tn ty e i kq kn ht htn hi hz hsize hby g n cap cur hg k (by omega) (by omega) hroom (by omega)
      refine ⟨_, _, hr, ⟨hlen, .inr ⟨g, cap, _, rfl, hbg, setRow_heap w g cur _ e _ hg, hroom, hcm, ?_, ?_⟩⟩, ⟨rfl, rfl, rfl, by simp, fun j _ hj => setRow_other w g j _ (fun e => hj (by simp [Value.ownBlock, e]))⟩⟩
      · simp only [List.size_toArray, List.length_append, List.length_take, List.length_drop, Array.length_toList, hbl]
        omega
      · have ht' : cur.toList.take n = xs := by simpa using htake
        rw [ht', ← hlen]
        exact List.take_left
    · have holds : ∀ j u, xs[j]? = some u → w.drew.cell? ((⟨g, 0, none⟩ : Addr).add j) = some u := hown.cells (g := g) rfl
      have hf := run_firstCells_some (P := P) w.drew i.size n ⟨g, 0, none⟩ n cap xs (by rw [hsize]; simpa using hxl) holds
      have hr := run_append_grow_zeros (P := P) w t tn ty e i (.int .u8 0) kq kn ht htn hi hz (some ⟨g, 0, none⟩) n cap xs hf k (by omega) (by omega) (by omega) (by omega) (by rw [hby]; omega) (by rw [hby]; exact growslice_fits (by omega) (by omega))
      have hgr := grown cap (by omega) (Value.ownBlock (.slice (some ⟨g, 0, none⟩) n cap))
      exact ⟨_, _, hr, hgr.1, hgr.2⟩
end

theorem Tryz.intU : Tryz.prog.underlying 3 = some (.int .i64) := Tryz.underlying3
/-- the operation -/
theorem app_zeros {ops : Array Oper} {rest : List Oper} {o : Oper} {a : Act} {Q : Exit → Act → World → Prop} (hgd : o.guard = none) (s x : Operand) (ho : o.op = .call { callee := .builtin .append, args := #[s, x], argTypes := #[42, 3] })
    (B : Nat) (v : Value) (L : List UInt8) (w0 : World) (hs : a.eval s = v) (hown : OwnB w0 B v L) (k : Nat) (ck : Int) (hx : a.eval x = .int .i64 ck) (hck : ck = k) (hlen : L.length + k ≤ 1000000) (hB : B ≤ w0.heap.size)
    (h : ∀ v' w', OwnB w' B v' (L ++ List.replicate k 0) → Below B w0 w' → wpList Tryz.prog ops Q rest (a.put o.dst v') w') : wpList Tryz.prog ops Q (o :: rest) a w0 := by
  subst hck
  obtain ⟨i0, hi, hz0, hz1, hz2⟩ := info_parts Tryz.infoU8
  have hb := own_block hown
  obtain ⟨v', w', hr, h1, h2⟩ := run_append_own_zeros (P := Tryz.prog) w0 B 42 3 o.type 5 i0 .i64 .i64 Tryz.underlying42 Tryz.intU hi hz0 hz1 hz2 v L.length (Lib.byteCells L) hown k hlen hB
  refine wpList_append_run w0 hgd s x _ _ ho v _ hs hx v' w' hr (h v' w' ?_ (below_grown h2 hB fun k hk => (hb k hk).1))
  unfold OwnB
  rw [List.length_append, List.length_replicate, ← byteCells_app]
  exact h1

end Go.Proofs.YtiinponoeaihcaaGreat

/- Walk: plog.Encode. -/
namespace Go.Proofs.YtiinponoeaihcaaGreat
open Go.RowKit Go.Shelf

attribute [local go_sem] Oper.semAt_some

theorem putn_any (v : Value) (L : List UInt8) (n k : Nat) (hk : Gd.wid k) (hn : n < 256 ^ k) (hn2 : n ≤ 9223372036854775807) (w : World) (h : BytesAt w v L) (hl : L.length ≤ 900000) : Calls Tryz.prog 63 #[v, .int .i64 n, .int .i64 k] w (GivesB w (L ++ Gd.le n k)) := by
  have := put_any v L n k hk (nat_I64 hn2) w h hl
  unfold Gd.put at this
  rw [if_pos (by unfold Gd.fitsB; rw [decide_eq_true (show (0 : Int) ≤ n by omega), Bool.true_and, decide_eq_true (show (n : Int) < ((256 ^ k : Nat) : Int) by omega), Bool.or_true]), Int.toNat_natCast] at this
  exact this
theorem strCells_bytes (L : List UInt8) : Lib.strCells ⟨L.toArray⟩ = Lib.byteCells L := rfl
theorem app_str {ops : Array Oper} {rest : List Oper} {o : Oper} {a : Act} {Q : Exit → Act → World → Prop} (hgd : o.guard = none) (s x : Operand) (ho : o.op = .call { callee := .builtin .append, args := #[s, x], argTypes := #[42, 9] })
    (B : Nat) (v : Value) (L : List UInt8) (w0 : World) (hs : a.eval s = v) (hown : OwnB w0 B v L) (M : List UInt8) (sM : ByteArray) (hsM : sM = ⟨M.toArray⟩) (hx : a.eval x = .string sM) (hlen : L.length + M.length ≤ 1000000) (hB : B ≤ w0.heap.size)
    (h : ∀ v' w', OwnB w' B v' (L ++ M) → Below B w0 w' → wpList Tryz.prog ops Q rest (a.put o.dst v') w') : wpList Tryz.prog ops Q (o :: rest) a w0 := by
  obtain ⟨i0, hi, hz0, hz1, hz2⟩ := info_parts Tryz.infoU8
  have hb := own_block hown
  subst hsM
  have hsz : (⟨M.toArray⟩ : ByteArray).size = M.length := rfl
  refine Lib.wpList_append_own_string w0 hgd s x _ _ ho B 5 i0 Tryz.underlying42 Tryz.underlying9 hi hz0 hz1 hz2 v L.length (Lib.byteCells L) hs hown ⟨M.toArray⟩ hx (by rw [hsz]; unfold maxLen; omega) (by rw [hsz]; omega) hB ?_
  intro v' w' h1 h2 _
  refine h v' w' ?_ (below_grown h2 hB fun k hk => (hb k hk).1)
  unfold OwnB
  rw [hsz, strCells_bytes] at h1
  rw [List.length_append, ← byteCells_app]
  exact h1
/-- a row of changes -/
def PasAt (w : World) (v : Value) (P : List Gd.Pa) : Prop := ∃ A c, v = .slice A P.length c ∧ ((A = none ∧ P = []) ∨ ∃ b, A = some ⟨b, 0, none⟩ ∧ b < w.heap.size ∧ ∀ (k : Nat) (p : Gd.Pa), P[k]? = some p → w.cell? ⟨b, k * 2, none⟩ = some (.int .i64 p.1) ∧ w.cell? ⟨b, k * 2 + 1, none⟩ = some (.string ⟨p.2.toArray⟩))
theorem pas_step {P : List Gd.Pa} {i : Nat} {p : Gd.Pa} (h : P[i]? = some p) : Gd.pasB (P.take (i + 1)) = Gd.pasB (P.take i) ++ Gd.le p.1 4 ++ Gd.le p.2.length 2 ++ p.2 := by
  rw [Gd.take_next h, Gd.pasB_snoc]
  unfold Gd.paB
  simp only [List.append_assoc]
theorem pas_len : ∀ {P : List Gd.Pa} (_ : ∀ p ∈ P, Gd.PaMay p), (Gd.pasB P).length ≤ P.length * 262
  | [], _ => Nat.le_refl _
  | p :: r, h => by
    have h1 := pas_len (P := r) fun q hq => h q (List.mem_cons_of_mem _ hq)
    have h2 := (h p (List.mem_cons_self ..)).2
    show (Gd.paB p ++ Gd.pasB r).length ≤ _
    rw [List.length_append, Gd.paB_length, List.length_cons]
    omega

end Go.Proofs.YtiinponoeaihcaaGreat

/- A log's record, read piece by piece. -/
namespace Go.Proofs.YtiinponoeaihcaaGreat
namespace Gd
theorem dec_many {P : List Pa} (h : P.length ≤ 64) : getN (recB P) 0 2 = P.length := by
  have e : recB P = [] ++ (le P.length 2 ++ (pasB P ++ (le (crc (recBody P)) 4 ++ pad8 ((recBody P).length + 4)))) := by
    unfold recB recBody
    simp only [List.append_assoc, List.nil_append]
  rw [e]
  exact getN_mid [] _ P.length 2 (by omega)
theorem dec_at {P : List Pa} {k : Nat} {p : Pa} (h : P[k]? = some p) (hp : PaMay p) :
    getN (recB P) (paOff P k) 4 = p.1 ∧ getN (recB P) (paOff P k + 4) 2 = p.2.length ∧ part (recB P) (paOff P k + 4 + 2) p.2.length = p.2 ∧ paOff P k + 4 + 2 + p.2.length ≤ (recB P).length := by
  obtain ⟨A, C, e, hA⟩ := recB_split h
  have hp1 := hp.1
  have hp2 := hp.2
  have h4 : (A ++ le p.1 4).length = paOff P k + 4 := by rw [List.length_append, le_length, hA]
  have h6 : (A ++ le p.1 4 ++ le p.2.length 2).length = paOff P k + 4 + 2 := by rw [List.length_append, h4, le_length]
  refine ⟨?_, ?_, ?_, ?_⟩
  · rw [e, ← hA]
    exact getN_mid A _ p.1 4 (by omega)
  · rw [e, ← h4, ← List.append_assoc]
    exact getN_mid _ _ p.2.length 2 (by omega)
  · rw [e, ← h6, ← List.append_assoc, ← List.append_assoc]
    exact part_mid _ p.2 C
  · rw [e, List.length_append, List.length_append, List.length_append, List.length_append, le_length, le_length, hA]
    omega
theorem dec_end (P : List Pa) : getN (recB P) (recBody P).length 4 = crc (recBody P) ∧ part (recB P) 0 (recBody P).length = recBody P ∧ (recB P).length = up8 ((recBody P).length + 4) ∧ ∀ j, (recBody P).length + 4 ≤ j → j < (recB P).length → (recB P)[j]? = some 0 := by
  have e : recB P = recBody P ++ (le (crc (recBody P)) 4 ++ pad8 ((recBody P).length + 4)) := by
    unfold recB
    rw [List.append_assoc]
  have hl : (recB P).length = up8 ((recBody P).length + 4) := by
    rw [recB_length, recBody_length]
    congr 1
    omega
  refine ⟨?_, ?_, hl, fun j h1 h2 => ?_⟩
  · rw [e]
    exact getN_mid _ _ _ 4 (by have := crc_lt (recBody P); omega)
  · rw [e]
    exact part_mid [] (recBody P) _
  · have h3 := hl ▸ h2
    rw [e, List.getElem?_append_right (by omega), List.getElem?_append_right (by rw [le_length]; omega), le_length]
    unfold pad8
    rw [List.getElem?_replicate, if_pos (by omega)]
end Gd
end Go.Proofs.YtiinponoeaihcaaGreat

/- Walk: plog.Decode's next number. -/
namespace Go.Proofs.YtiinponoeaihcaaGreat
open Go.RowKit Go.Shelf

attribute [local go_sem] Oper.semAt_some

/-- what Decode holds beside its bytes: three boxes: the bytes, where, whether they ended -/
structure DecSt (w0 : World) (v : Value) (at_ : Nat) (w : World) : Prop where
  below : Below w0.heap.size w0 w
  c1 : CellsAt w w0.heap.size 42 #[v]
  c2 : CellsAt w (w0.heap.size + 1) 3 #[.int .i64 at_]
  c3 : CellsAt w (w0.heap.size + 1 + 1) 4 #[.bool false]
theorem DecSt.read {w0 w w' : World} {v : Value} {at_ : Nat} (h : DecSt w0 v at_ w) (hb : Below w.heap.size w w') : DecSt w0 v at_ w' :=
  ⟨h.below.trans (hb.mono h.below.size), (hb.block _ h.c1.lt).trans h.c1, (hb.block _ h.c2.lt).trans h.c2, (hb.block _ h.c3.lt).trans h.c3⟩
def Dec2 (w0 : World) (k : Nat) : Prop := k = w0.heap.size + 1 ∨ k = w0.heap.size + 1 + 1

end Go.Proofs.YtiinponoeaihcaaGreat

/- Walk: plog.Decode, of a record. -/
namespace Go.Proofs.YtiinponoeaihcaaGreat
open Go.RowKit Go.Shelf

attribute [local go_sem] Oper.semAt_some

theorem row_only {w w' : World} {B e s n : Nat} {v : Value} {xs : List Value} {F : Nat → Prop} (h : w.ownsRow B e s v n xs) (hO : Only F w w') (hF : ∀ k, B ≤ k → ¬ F k) : w'.ownsRow B e s v n xs :=
  ⟨h.1, h.2.imp id fun ⟨q, cap, cur, hv, hB, hg, hr⟩ => ⟨q, cap, cur, hv, hB, (hO.block q (lt_get hg) (hF q hB)).trans hg, hr⟩⟩
theorem row_below {w w' : World} {B e s n : Nat} {v : Value} {xs : List Value} (h : w.ownsRow B e s v n xs) (hb : Below w.heap.size w w') : w'.ownsRow B e s v n xs :=
  ⟨h.1, h.2.imp id fun ⟨q, cap, cur, hv, hB, hg, hr⟩ => ⟨q, cap, cur, hv, hB, (hb.block q (lt_get hg)).trans hg, hr⟩⟩
theorem row_set {w : World} {B e s n : Nat} {v : Value} {xs : List Value} (h : w.ownsRow B e s v n xs) (a : Addr) (u : Value) (hne : ∀ k, v.ownBlock = some k → k ≠ a.block) : (w.setCell a u).ownsRow B e s v n xs :=
  ⟨h.1, h.2.imp id fun ⟨q, cap, cur, hv, hB, hg, hr⟩ => ⟨q, cap, cur, hv, hB, (Go.heap_setCell_other w a q u (hne q (by rw [hv]; rfl))).trans hg, hr⟩⟩
theorem dec2_not (w0 : World) : ∀ k, w0.heap.size + 3 ≤ k → ¬ Dec2 w0 k := fun k h e => by rcases e with e | e <;> omega

end Go.Proofs.YtiinponoeaihcaaGreat
