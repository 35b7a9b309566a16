/- A client: slices.Clone of numbers; Told. -/
import Derived.Test.YtiinponoeaihcaaGreatU06
import Derived.Maps.AppendAt
set_option linter.unusedVariables false
set_option linter.unusedSimpArgs false
set_option linter.unusedSectionVars false
namespace Go.Proofs.YtiinponoeaihcaaGreat
open Go.RowKit Go.Shelf

attribute [local go_sem] Oper.semAt_some
theorem ints_nil (b o n c : Nat) (w : World) : (binOp .eql 98 (.slice (some ⟨b, o, none⟩) n c) (.slice none 0 0)).run Tryz.prog w = .ok (.bool false) w := Lib.run_eql_slice_nil w _ _ _ n c 0 0 Tryz.underlying98
theorem Tryz.sizeRep : (Tryz.prog.info? 35).map (fun i => i.size) = some 7 := by kernel_rfl
theorem Ck.cellA {cb : Nat} {S : Cs} {w0 w : World} {Ls : List (Nat × Obj)} (h : Ck cb S w0 Ls w) (o : Obj) (i : Nat) : (w.alloc o).cell? ⟨cb, i, none⟩ = (clC S)[i]? := (h.below ((Below.refl _ _).alloc (Nat.le_refl _) _)).cell i
section
variable {cb : Nat} {S : Cs} {w0 : World} {Ls : List (Nat × Obj)}
set_option maxHeartbeats 4000000 in
set_option maxRecDepth 100000 in
theorem sclone_any (b o c : Nat) (xs : List Int) (hn : xs.length ≤ 1000) (w : World) (hlt : b < w.heap.size) (h : ∀ (j : Nat) (x : Int), xs[j]? = some x → w.cell? ⟨b, o + j, none⟩ = some (.int .i64 x)) :
    Calls Tryz.prog 54 #[.slice (some ⟨b, o, none⟩) xs.length c] w fun e w' => ∃ (g k : Nat) (X : Array Value), e = .returned (.slice (some ⟨g, 0, none⟩) xs.length k) ∧ w'.heap[g]? = some (.cells X 3 (0, 0)) ∧ X.toList.take xs.length = xs.map (.int .i64 ·) ∧ xs.length ≤ X.size ∧ w.heap.size ≤ g ∧ Below w.heap.size w w' := by
  have hnil := ints_nil b o xs.length c
  obtain ⟨i0, hi, hz0, hz1, hz2⟩ := info_parts Tryz.infoInt8
  have Hc : Hid (∀ W, Below w.heap.size w W → ∀ (j : Nat) u, (xs.map (Value.int .i64 ·))[j]? = some u → W.cell? ((⟨b, o, none⟩ : Addr).add j) = some u) := Lib.hid fun W hW j u hj => by
    rw [List.getElem?_map] at hj
    cases hx : xs[j]? with
    | none => rw [hx] at hj; cases hj
    | some x =>
      rw [hx] at hj
      cases hj
      rw [Addr.add_mid]
      exact (hW.cell (p := ⟨b, o + j, none⟩) hlt).trans (h j x hx)
  clear h hlt
  go_enter Tryz.func54, Tryz.ntmps54
  go_wp2_with (at_builtin; go_loud (refine wpList_append_own_at _ rfl _ _ 98 rfl w.heap.size 3 i0 _ 1 8 Tryz.underlying98 hi hz0 hz1 hz2 rfl (by decide) (.slice (some ⟨w.heap.size, 0, none⟩) 0 0) 0 [] rfl ⟨rfl, Or.inr ⟨w.heap.size, 0, #[], rfl, Nat.le_refl _, heap_alloc_new _ _, Nat.le_refl _, Nat.zero_le _, rfl, rfl⟩⟩ ⟨b, o, none⟩ xs.length c (xs.map (Value.int .i64 ·)) rfl (by simp) ?_ (by intro u hu; obtain ⟨x, _, rfl⟩ := List.mem_map.1 hu; rfl) (by unfold maxLen; omega) (by omega) (by simp) ?_))
  · exact Hc.out _ ((Below.refl w.heap.size w).alloc (Nat.le_refl _) _)
  intro v' w1 hown hgrow hne hat
  have hb1 : Below w.heap.size w w1 := ((Below.refl w.heap.size w).alloc (Nat.le_refl _) (.cells #[] 3)).trans ((grown_only (F := fun k => k = w.heap.size) hgrow fun k e => by cases e; rfl).below (by simp) fun k hk e => by omega)
  obtain ⟨g, k, X, rfl, hg, hX, hXs, hge⟩ : ∃ (g k : Nat) (X : Array Value), v' = .slice (some ⟨g, 0, none⟩) xs.length k ∧ w1.heap[g]? = some (.cells X 3 (0, 0)) ∧ X.toList.take xs.length = xs.map (Value.int .i64 ·) ∧ xs.length ≤ X.size ∧ w.heap.size ≤ g := by
    rcases hown.2 with ⟨h1, h0⟩ | ⟨g, cap, cur, h1, hB, hg, hcap, hcm, hcs, hcur⟩
    · exact absurd h1 hne
    · simp only [Nat.mul_one, Nat.zero_add] at h1 hcs hcur hcap
      exact ⟨g, cap, cur, h1, hg, hcur, by omega, hB⟩
  have HB := Lib.hid hb1
  have HG := Lib.hid (And.intro hg (And.intro hX (And.intro hXs hge)))
  clear hown hgrow hat hb1 hne hg hge hX hXs
  go_wp2
  go_ret
  exact ⟨g, k, X, rfl, HG.out.1, HG.out.2.1, HG.out.2.2.1, HG.out.2.2.2, HB.out⟩
def toldS (S : Cs) : Cs := { S with te := 0, tf := 0, td := ⟨#[]⟩, tn := .slice none 0 0, tk := 0, tl := 0, ts := 0, done := false }
set_option maxHeartbeats 4000000 in
set_option maxRecDepth 100000 in
theorem ctold_any (A : Option Addr) (m c : Nat) (hA : S.tn = .slice A m c) (w : World) (h : Ck cb S w0 Ls w) :
    Calls Tryz.prog 10 #[pC cb] w fun e w' => e = .returned (.tuple #[.agg #[.int .i64 S.te, .int .i64 S.tf, .string S.td, .slice A m c, .int .i64 S.tk, .int .i64 S.tl, .int .i64 S.ts], .bool S.done]) ∧ Ck cb (toldS S) w0 Ls w' := by
  have H := Lib.hid h
  have HA := Lib.hid hA
  clear h hA
  go_enter Tryz.func10, Tryz.ntmps10
  go_upto_region 1 with fail
  obtain ⟨w1, hw⟩ : ∃ u, u = w.alloc (.cells #[.int .i64 0, .int .i64 0, .string ⟨#[]⟩, .slice none 0 0, .int .i64 0, .int .i64 0, .int .i64 0] 35) := ⟨_, rfl⟩
  obtain ⟨n0, hn0⟩ : ∃ u, u = w.heap.size := ⟨_, rfl⟩
  rw [← hw, ← hn0]
  have H1 : Hid (Ck cb S w0 ((n0, .cells #[.int .i64 0, .int .i64 0, .string ⟨#[]⟩, .slice none 0 0, .int .i64 0, .int .i64 0, .int .i64 0] 35 (0, 0)) :: Ls) w1) := Lib.hid (by rw [hw, hn0]; exact H.out.box _ _)
  have c67 : w1.cell? ⟨cb, 67, none⟩ = some (.int .i64 S.te) := H1.out.cell 67
  have c68 : w1.cell? ⟨cb, 68, none⟩ = some (.int .i64 S.tf) := H1.out.cell 68
  have c69 : w1.cell? ⟨cb, 69, none⟩ = some (.string S.td) := H1.out.cell 69
  have c70 : w1.cell? ⟨cb, 70, none⟩ = some (.slice A m c) := by rw [← HA.out]; exact H1.out.cell 70
  have c71 : w1.cell? ⟨cb, 71, none⟩ = some (.int .i64 S.tk) := H1.out.cell 71
  have c72 : w1.cell? ⟨cb, 72, none⟩ = some (.int .i64 S.tl) := H1.out.cell 72
  have c73 : w1.cell? ⟨cb, 73, none⟩ = some (.int .i64 S.ts) := H1.out.cell 73
  have c74 : w1.cell? ⟨cb, 74, none⟩ = some (.bool S.done) := H1.out.cell 74
  have e67 : ∀ o, (w1.alloc o).cell? ⟨cb, 67, none⟩ = some (.int .i64 S.te) := fun o => H1.out.cellA o 67
  have e68 : ∀ o, (w1.alloc o).cell? ⟨cb, 68, none⟩ = some (.int .i64 S.tf) := fun o => H1.out.cellA o 68
  have e69 : ∀ o, (w1.alloc o).cell? ⟨cb, 69, none⟩ = some (.string S.td) := fun o => H1.out.cellA o 69
  have e70 : ∀ o, (w1.alloc o).cell? ⟨cb, 70, none⟩ = some (.slice A m c) := fun o => by rw [← HA.out]; exact H1.out.cellA o 70
  have e71 : ∀ o, (w1.alloc o).cell? ⟨cb, 71, none⟩ = some (.int .i64 S.tk) := fun o => H1.out.cellA o 71
  have e72 : ∀ o, (w1.alloc o).cell? ⟨cb, 72, none⟩ = some (.int .i64 S.tl) := fun o => H1.out.cellA o 72
  have e73 : ∀ o, (w1.alloc o).cell? ⟨cb, 73, none⟩ = some (.int .i64 S.ts) := fun o => H1.out.cellA o 73
  have e74 : ∀ o, (w1.alloc o).cell? ⟨cb, 74, none⟩ = some (.bool S.done) := fun o => H1.out.cellA o 74
  have Hn0 := Lib.hid hn0
  clear hw hn0
  go_region
  obtain ⟨w2, hw2⟩ : ∃ u, u = (w1.alloc (.cells #[.int .i64 S.te, .int .i64 S.tf, .string S.td, .slice A m c, .int .i64 S.tk, .int .i64 S.tl, .int .i64 S.ts] 35)).drew := ⟨_, rfl⟩
  obtain ⟨n1, hn1⟩ : ∃ u, u = w1.heap.size := ⟨_, rfl⟩
  rw [← hw2, ← hn1]
  have H2 : Hid (Ck cb S w0 ((n1, .cells #[.int .i64 S.te, .int .i64 S.tf, .string S.td, .slice A m c, .int .i64 S.tk, .int .i64 S.tl, .int .i64 S.ts] 35 (0, 0)) :: (n0, .cells #[.int .i64 0, .int .i64 0, .string ⟨#[]⟩, .slice none 0 0, .int .i64 0, .int .i64 0, .int .i64 0] 35 (0, 0)) :: Ls) w2) := Lib.hid (by rw [hw2, hn1]; exact (H1.out.box _ _).drew)
  have Hne : Hid ((∀ p ∈ Ls, p.1 ≠ n0) ∧ n0 ≠ n1) := Lib.hid ⟨fun p hp => by rw [Hn0.out]; exact H.out.fresh p hp, fun e => by have := (H1.out.ge (k := n0) List.mem_cons_self).2; omega⟩
  clear hw2 hn1 c67 c68 c69 c70 c71 c72 c73 c74 e67 e68 e69 e70 e71 e72 e73 e74 H1 H Hn0
  have c67 : w2.cell? ⟨cb, 67, none⟩ = some (.int .i64 S.te) := H2.out.cell 67
  have c68 : w2.cell? ⟨cb, 68, none⟩ = some (.int .i64 S.tf) := H2.out.cell 68
  have c69 : w2.cell? ⟨cb, 69, none⟩ = some (.string S.td) := H2.out.cell 69
  have c70 : w2.cell? ⟨cb, 70, none⟩ = some (.slice A m c) := by rw [← HA.out]; exact H2.out.cell 70
  have c71 : w2.cell? ⟨cb, 71, none⟩ = some (.int .i64 S.tk) := H2.out.cell 71
  have c72 : w2.cell? ⟨cb, 72, none⟩ = some (.int .i64 S.tl) := H2.out.cell 72
  have c73 : w2.cell? ⟨cb, 73, none⟩ = some (.int .i64 S.ts) := H2.out.cell 73
  have c74 : w2.cell? ⟨cb, 74, none⟩ = some (.bool S.done) := H2.out.cell 74
  have g := fun i => H2.out.fz i
  go_upto_region 3 with fail
  obtain ⟨w3, hw3⟩ : ∃ u, u = ((((((((w2.setCell ⟨cb, 67, none⟩ (.int .i64 0)).setCell ⟨cb, 68, none⟩ (.int .i64 0)).setCell ⟨cb, 69, none⟩ (.string ⟨#[]⟩)).setCell ⟨cb, 70, none⟩ (.slice none 0 0)).setCell ⟨cb, 71, none⟩ (.int .i64 0)).setCell ⟨cb, 72, none⟩ (.int .i64 0)).setCell ⟨cb, 73, none⟩ (.int .i64 0))).setCell ⟨cb, 74, none⟩ (.bool false) := ⟨_, rfl⟩
  rw [← hw3]
  have H3 : Hid (Ck cb (toldS S) w0 ((n1, .cells #[.int .i64 S.te, .int .i64 S.tf, .string S.td, .slice A m c, .int .i64 S.tk, .int .i64 S.tl, .int .i64 S.ts] 35 (0, 0)) :: (n0, .cells #[.int .i64 0, .int .i64 0, .string ⟨#[]⟩, .slice none 0 0, .int .i64 0, .int .i64 0, .int .i64 0] 35 (0, 0)) :: Ls) w3) := Lib.hid (by
    rw [hw3]
    exact H2.out.sts (T := toldS S) (o := 67) (vs := [.int .i64 0, .int .i64 0, .string ⟨#[]⟩, .slice none 0 0, .int .i64 0, .int .i64 0, .int .i64 0, .bool false]) (by kernel_rfl) ⟨rfl, rfl, .inl rfl, rfl, rfl, rfl⟩)
  clear hw3 c67 c68 c69 c70 c71 c72 c73 c74 g H2
  have hb := H3.out.get (k := n1) List.mem_cons_self
  have hr := H3.out.get (k := n0) (List.mem_cons_of_mem _ List.mem_cons_self)
  have d0 : w3.cell? ⟨n1, 0, none⟩ = some (.int .i64 S.te) := cell_of_row w3 n1 0 _ _ _ hb
  have d1 : w3.cell? ⟨n1, 1, none⟩ = some (.int .i64 S.tf) := cell_of_row w3 n1 1 _ _ _ hb
  have d2 : w3.cell? ⟨n1, 2, none⟩ = some (.string S.td) := cell_of_row w3 n1 2 _ _ _ hb
  have d3 : w3.cell? ⟨n1, 3, none⟩ = some (.slice A m c) := cell_of_row w3 n1 3 _ _ _ hb
  have d4 : w3.cell? ⟨n1, 4, none⟩ = some (.int .i64 S.tk) := cell_of_row w3 n1 4 _ _ _ hb
  have d5 : w3.cell? ⟨n1, 5, none⟩ = some (.int .i64 S.tl) := cell_of_row w3 n1 5 _ _ _ hb
  have d6 : w3.cell? ⟨n1, 6, none⟩ = some (.int .i64 S.ts) := cell_of_row w3 n1 6 _ _ _ hb
  have r0 : w3.cell? ⟨n0, 0, none⟩ = some (.int .i64 0) := cell_of_row w3 n0 0 _ _ _ hr
  have r1 : w3.cell? ⟨n0, 1, none⟩ = some (.int .i64 0) := cell_of_row w3 n0 1 _ _ _ hr
  have r2 : w3.cell? ⟨n0, 2, none⟩ = some (.string ⟨#[]⟩) := cell_of_row w3 n0 2 _ _ _ hr
  have r3 : w3.cell? ⟨n0, 3, none⟩ = some (.slice none 0 0) := cell_of_row w3 n0 3 _ _ _ hr
  have r4 : w3.cell? ⟨n0, 4, none⟩ = some (.int .i64 0) := cell_of_row w3 n0 4 _ _ _ hr
  have r5 : w3.cell? ⟨n0, 5, none⟩ = some (.int .i64 0) := cell_of_row w3 n0 5 _ _ _ hr
  have r6 : w3.cell? ⟨n0, 6, none⟩ = some (.int .i64 0) := cell_of_row w3 n0 6 _ _ _ hr
  have gr := fun i => frozen_of_row w3 n0 i _ _ hr
  have HR := Lib.hid hr
  clear hb hr
  go_wp2_with fail
  have H4 : Hid (Ck cb (toldS S) w0 Ls (w3.setCells n0 0 [.int .i64 S.te, .int .i64 S.tf, .string S.td, .slice A m c, .int .i64 S.tk, .int .i64 S.tl, .int .i64 S.ts]) ∧ (w3.setCells n0 0 [.int .i64 S.te, .int .i64 S.tf, .string S.td, .slice A m c, .int .i64 S.tk, .int .i64 S.tl, .int .i64 S.ts]).heap[n0]? = some (.cells #[.int .i64 S.te, .int .i64 S.tf, .string S.td, .slice A m c, .int .i64 S.tk, .int .i64 S.tl, .int .i64 S.ts] 35 (0, 0))) := Lib.hid (by
    have hr : (w3.setCells n0 0 [.int .i64 S.te, .int .i64 S.tf, .string S.td, .slice A m c, .int .i64 S.tk, .int .i64 S.tl, .int .i64 S.ts]).heap[n0]? = some (.cells #[.int .i64 S.te, .int .i64 S.tf, .string S.td, .slice A m c, .int .i64 S.tk, .int .i64 S.tl, .int .i64 S.ts] 35 (0, 0)) := by
      rw [setCells_heap2 n0 _ _ 0 w3 _ HR.out]
      rfl
    refine ⟨H3.out.put (k := n0) (List.mem_cons_of_mem _ List.mem_cons_self) (only_setCells _ _ _ _) Ls fun p hp => Or.inr ⟨List.mem_cons_of_mem _ (List.mem_cons_of_mem _ hp), Hne.out.1 p hp⟩, hr⟩)
  refine bodyPost_ret (results_row_tmp rfl _ _ n0 35 #[.int .i64 S.te, .int .i64 S.tf, .string S.td, .slice A m c, .int .i64 S.tk, .int .i64 S.tl, .int .i64 S.ts] (0, 0) _ rfl H4.out.2 Tryz.underlying35 rfl Tryz.sizeRep) rfl ?_
  exact ⟨rfl, H4.out.1⟩
end
end Go.Proofs.YtiinponoeaihcaaGreat
