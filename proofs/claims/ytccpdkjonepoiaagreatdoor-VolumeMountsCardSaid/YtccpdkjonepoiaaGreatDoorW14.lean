/- Walks: a directory's table: Read. -/
import Derived.Test.YtccpdkjonepoiaaGreatDoorW13
import Derived.Test.YtccpdkjonepoiaaGreatDoorW11
set_option linter.unusedVariables false
set_option linter.unusedSimpArgs false
set_option linter.unusedSectionVars false
namespace Go.Proofs.YtccpdkjonepoiaaGreatDoor
open Go.RowKit Go.Shelf

attribute [local go_sem] Oper.semAt_some

set_option maxHeartbeats 8000000 in
set_option maxRecDepth 100000 in
theorem tread_any (T T2 : Gd.Tab) (hOk : Gd.TabOk T) (hOk2 : Gd.TabOk T2) (k : Nat) (hk : k < 4) (v : Value) (B : Nat) (w : World) (hv : OwnB w B v (Gd.blkT T2 k)) :
    Calls Tryz.prog 191 #[tabV T, .int .i64 k, v] w fun e w' => e = .returned (.tuple #[tabV (Gd.rdT T T2 k 4), .int .i64 0]) ∧ Below w.heap.size w w' := by
  obtain ⟨T4, hTe⟩ : ∃ T4, T4 = Gd.rdT T T2 k 4 := ⟨_, rfl⟩
  rw [← hTe]
  have HTe := Lib.hid hTe
  clear hTe
  have hlen : (Gd.blkT T2 k).length = 64 := Gd.blkT_len hOk2 hk
  obtain ⟨b, c, rfl, hc, -, hbl, hcell⟩ := hv.lies (by intro h; rw [h] at hlen; simp at hlen)
  rw [hlen] at hc ⊢
  have hsz := tabC_size hOk.len
  obtain ⟨tb, htb⟩ : ∃ tb, tb = w.heap.size := ⟨_, rfl⟩
  obtain ⟨w2, hw2⟩ : ∃ u, u = (w.alloc (.cells (tabC T) 194)).alloc (.cells (tabC Gd.noTab) 194) := ⟨_, rfl⟩
  obtain ⟨w3, hw3⟩ : ∃ u, u = w2.alloc (.cells (tabC Gd.noTab) 194) := ⟨_, rfl⟩
  have hs2 : w2.heap.size = tb + 1 + 1 := by rw [hw2, htb]; simp
  have hB2 : Below w.heap.size w w2 := by rw [hw2]; exact ((Below.refl _ _).alloc (Nat.le_refl _) _).alloc (by simp) _
  have hB3 : Below w.heap.size w w3 := by rw [hw3]; exact hB2.alloc hB2.size _
  have r0 : w2.heap[tb]? = some (.cells (tabC T) 194 (0, 0)) := by rw [hw2, htb]; exact CellsAt.alloc (heap_alloc_new w _) _
  have r1 : w2.heap[tb + 1]? = some (.cells (tabC Gd.noTab) 194 (0, 0)) := by
    have := heap_alloc_new (w.alloc (.cells (tabC T) 194)) (.cells (tabC Gd.noTab) 194)
    rw [World.size_alloc] at this
    rw [hw2, htb]
    exact this
  have s1 : w3.heap[tb + 1]? = some (.cells (tabC Gd.noTab) 194 (0, 0)) := by rw [hw3]; exact CellsAt.alloc r1 _
  have s2 : w3.heap[tb + 1 + 1]? = some (.cells (tabC Gd.noTab) 194 (0, 0)) := by rw [hw3, ← hs2]; exact heap_alloc_new _ _
  have HI := Lib.hid fun W => dis_any (k : Int) W
  rw [show (decide ((0 : Int) ≤ k) && decide ((k : Int) < 4)) = true by simp; omega] at HI
  have HZs : Hid ((tabC Gd.noTab).size = 32) := Lib.hid (tabC_size rfl)
  have HS := Lib.hid hsz
  have Htb := Lib.hid htb.symm
  have HW2 := Lib.hid hw2
  have HW3 := Lib.hid hw3
  have Hs2 := Lib.hid hs2
  have HB2 := Lib.hid hB2
  have HB3 := Lib.hid hB3
  have HR0 := Lib.hid r0
  have HS1 := Lib.hid s1
  have HS2 := Lib.hid s2
  have HOk := Lib.hid (And.intro hOk hOk2)
  have HCl := Lib.hid (And.intro hbl hcell)
  have hk4 : (k : Int) < 4 := by omega
  have hk0 : (0 : Int) ≤ k := by omega
  clear hlen hv hbl hcell hsz htb hw2 hw3 hs2 hB2 hB3 r0 r1 s1 s2 hOk hOk2
  unfold tabV
  go_enter Tryz.func191, Tryz.ntmps191
  go_upto_region 1 with fail
  rw [← zTab, ← HW2.out, Htb.out]
  go_upto_region 5 with (go_at_call 209; refine (HI.out _).mono ?_; rintro e wq ⟨rfl, rfl⟩)
  go_upto_region 6 with (first | (refine wpList_load_row rfl 194 _ rfl tb rfl 194 (tabC T) (0, 0) _ HR0.out Tryz.underlying194 rfl (by rw [HS.out]; exact Tryz.sizeTab) ?_) | (rw [← zTab, ← HW3.out, Hs2.out]; refine wpList_store_mid rfl 194 _ _ rfl (tb + 1 + 1) 0 (tabC T) rfl rfl (there_at HS2.out (by rw [HZs.out, HS.out])) (by rw [HS.out]; exact Tryz.sizeTab) (tabC_one _) ?_; obtain ⟨hbw, hbg⟩ := whole_at HS2.out (vs := (tabC T).toList) (B := tb + 1 + 1) (by rw [HZs.out, Array.length_toList, HS.out]) (Nat.le_refl _); generalize (World.setCells _ _ _ _) = w4 at hbw hbg ⊢))
  have HN4 : Hid (w4.heap[tb + 1 + 1]? = some (.cells (tabC T) 194 (0, 0))) := Lib.hid hbg
  have HR4 : Hid (w4.heap[tb + 1]? = some (.cells (tabC Gd.noTab) 194 (0, 0))) := Lib.hid ((hbw.block (tb + 1) (show tb + 1 < tb + 1 + 1 by omega)).trans HS1.out)
  have HB4 := Lib.hid (HB3.out.trans (hbw.mono (show w.heap.size ≤ tb + 1 + 1 by rw [Htb.out]; omega)))
  clear hbw hbg
  go_upto_region 7 with fail
  go_loopw [9, 10, 11, 25] (fun _ _ _ z wr => ∃ i : Nat, z = .int .i64 i ∧ i ≤ 4 ∧ Hid (wr.heap[tb + 1 + 1]? = some (.cells (tabC (Gd.rdT T T2 k i)) 194 (0, 0))) ∧ Hid (wr.heap[tb + 1]? = some (.cells (tabC Gd.noTab) 194 (0, 0))) ∧ Hid (Below w.heap.size w wr)) (fun _ _ _ z _ => 4 - (intOf z).toNat)
  case atStart => exact ⟨0, rfl, by omega, HN4, HR4, HB4⟩
  case round =>
    obtain ⟨i, rfl, hin, HN, HR, HB⟩ := hrel
    by_cases hlt : i < 4
    · obtain ⟨e, he⟩ : ∃ e, e = Gd.entAt T2 (4 * k + i) := ⟨_, rfl⟩
      have hem := Gd.May.len (Gd.entAt_may HOk.out.2 (4 * k + i))
      rw [← he] at hem
      obtain ⟨b0, b1, bs⟩ := Gd.blkT_read HOk.out.2 hk hlt he
      obtain ⟨q, hq⟩ : ∃ q, q = e.i := ⟨_, rfl⟩
      obtain ⟨s, hs⟩ : ∃ s : ByteArray, s = ⟨e.s.toArray⟩ := ⟨_, rfl⟩
      obtain ⟨l, hl⟩ : ∃ l, l = e.s.length := ⟨_, rfl⟩
      rw [← hl] at hem b1
      rw [← hq] at hem b0
      have c0 := HCl.out.2 _ _ b0
      have c1 := HCl.out.2 _ _ b1
      rw [UInt8.toNat_ofNat', Nat.mod_eq_of_lt (by omega)] at c0 c1
      have d0 := (HB.out.cell (p := ⟨b, 16 * i, none⟩) HCl.out.1).trans c0
      have d1 := (HB.out.cell (p := ⟨b, 16 * i + 1, none⟩) HCl.out.1).trans c1
      have h1 : (i : Int) < 4 := by omega
      have h0 : (0 : Int) ≤ i := by omega
      have hl12 : (l : Int) ≤ 12 := by omega
      have hCV : ∀ W, Below w.heap.size w W → W.cell? ⟨b, 16 * i, none⟩ = some (.int .u8 q) ∧ (convert 22 9 (.slice (some ⟨b, 16 * i + 2, none⟩) l (c - 16 * i - 2))).run Tryz.prog W = .ok (.string s) W := fun W hW => by
        refine ⟨(hW.cell (p := ⟨b, 16 * i, none⟩) HCl.out.1).trans c0, ?_⟩
        rw [hs]
        exact conv_any _ _ _ ⟨_, _, by rw [hl], Or.inr ⟨b, 16 * i + 2, rfl, Nat.lt_of_lt_of_le HCl.out.1 hW.size, fun j x hx => (hW.cell (p := ⟨b, 16 * i + 2 + j, none⟩) HCl.out.1).trans (HCl.out.2 _ _ (bs j x hx))⟩⟩
      have HCV := Lib.hid hCV
      have hS1 : ∀ W, (Instr.slice 22 (.slice (some ⟨b, 0, none⟩) 64 c) (some (.int .i64 (16 * (i : Int)))) (some (.int .i64 (16 * ((i : Int) + 1)))) none).run Tryz.prog W = .ok (.slice (some ⟨b, 16 * i, none⟩) 16 (c - 16 * i)) W := fun W => by
        have := sliceB (b := b) (o := 0) (n := 64) (c := c) (l := 16 * i) (h := 16 * (i + 1)) (by omega) (by omega) (by omega) W
        rw [show 0 + 16 * i = 16 * i by omega, show 16 * (i + 1) - 16 * i = 16 by omega] at this
        rw [← this]
        push_cast
        rfl
      have hS2 : ∀ W, (Instr.slice 22 (.slice (some ⟨b, 16 * i, none⟩) 16 (c - 16 * i)) (some (.int .i64 2)) (some (.int .i64 (2 + (l : Int)))) none).run Tryz.prog W = .ok (.slice (some ⟨b, 16 * i + 2, none⟩) l (c - 16 * i - 2)) W := fun W => by
        have := sliceB (b := b) (o := 16 * i) (n := 16) (c := c - 16 * i) (l := 2) (h := 2 + l) (by omega) (by omega) (by omega) W
        rw [show 2 + l - 2 = l by omega] at this
        rw [← this]
        push_cast
        rfl
      have HE := Lib.hid (And.intro he (And.intro hq (And.intro hs hl)))
      clear he b0 b1 bs hq hs hl c0 c1 hlt hCV
      go_upto_region 13 with fail
      have hs0 := HCV.out wr.drew HB.out.drew
      obtain ⟨n0, n1⟩ := tab_cells HN.out (Gd.entAt_get (Gd.rdT_ok HOk.out.1 HOk.out.2 k i).len (show 4 * k + i < 16 by omega))
      have m0 := frozen_of_row wr (tb + 1 + 1) ((4 * k + i) * 2) _ _ HN.out
      have m1 := frozen_of_row wr (tb + 1 + 1) ((4 * k + i) * 2 + 1) _ _ HN.out
      obtain ⟨w5, hw5⟩ : ∃ u, u = ((wr.setCell ⟨tb + 1 + 1, (4 * k + i) * 2, none⟩ (.string s)).setCell ⟨tb + 1 + 1, (4 * k + i) * 2 + 1, none⟩ (.int .i64 q)).drew := ⟨_, rfl⟩
      have hsl : ∀ x : Nat, x ≠ tb + 1 + 1 → w5.heap[x]? = wr.heap[x]? := fun x hx => by
        rw [hw5]
        exact (Go.heap_setCell_other _ ⟨tb + 1 + 1, (4 * k + i) * 2 + 1, none⟩ x _ hx).trans (Go.heap_setCell_other _ ⟨tb + 1 + 1, (4 * k + i) * 2, none⟩ x _ hx)
      have HB5 : Hid (Below w.heap.size w w5) := Lib.hid (by rw [hw5]; exact ((HB.out.setCell (show w.heap.size ≤ tb + 1 + 1 by rw [Htb.out]; omega) _).setCell (show w.heap.size ≤ tb + 1 + 1 by rw [Htb.out]; omega) _).drew)
      have HR5 : Hid (w5.heap[tb + 1]? = some (.cells (tabC Gd.noTab) 194 (0, 0))) := Lib.hid ((hsl (tb + 1) (by omega)).trans HR.out)
      have HN5 : Hid (w5.heap[tb + 1 + 1]? = some (.cells (tabC (Gd.rdT T T2 k (i + 1))) 194 (0, 0))) := Lib.hid (by
        unfold Gd.rdT
        rw [tabC_set (by rw [(Gd.rdT_ok HOk.out.1 HOk.out.2 k i).len]; omega), ← HE.out.1, ← HE.out.2.1, ← HE.out.2.2.1, hw5]
        exact Go.heap_setCell_same _ (tb + 1 + 1) _ _ _ _ (Go.heap_setCell_same wr (tb + 1 + 1) _ _ _ _ HN.out))
      have HW5 := Lib.hid hw5
      have hs5 := HCV.out w5 HB5.out
      have g7 : IntKind.i64.wrap (q : Int) = q := by rw [IntKind.wrap_i64]; omega
      clear d0 d1 hem hw5 hsl
      have g1 : IntKind.i64.wrap (2 + (l : Int)) = 2 + l := by rw [IntKind.wrap_i64]; omega
      have g2 : IntKind.i64.wrap (4 * (k : Int)) = 4 * k := by rw [IntKind.wrap_i64]; omega
      have g3 : IntKind.i64.wrap (4 * (k : Int) + i) = 4 * k + i := by rw [IntKind.wrap_i64]; omega
      have g4 : (0 : Int) ≤ 4 * (k : Int) + i := by omega
      have g5 : 4 * (k : Int) + i < 16 := by omega
      have g6 : (4 * (k : Int) + i).toNat = 4 * k + i := by omega
      refine wp_region_held_drew (S := (fun W => W.cell? ⟨b, 16 * i, none⟩ = some (.int .u8 q) ∧ (convert 22 9 (.slice (some ⟨b, 16 * i + 2, none⟩) l (c - 16 * i - 2))).run Tryz.prog W = .ok (.string s) W)) (by kernel_rfl) ?_ (fun hHeld => ?_)
      · exact hs0
      refine wpAnyH_take (i := 0) (oi := _) (v := ?_) rfl (by kernel_rfl) (by kernel_rfl) (by kernel_rfl) (fun _ _ _ h => h) (Or.inl ⟨by rfl, ?_⟩) (by assumption) ?_
      rotate_left
      · intro w hSw
        (try dsimp only at hSw)
        first | (go_simp; done) | (go_simp; with_reducible rfl)
      try simp only [List.getElem_toArray, List.getElem_cons_succ, List.getElem_cons_zero, Act.put, List.setIfInBounds_toArray, List.set_cons_zero, List.set_cons_succ]
      refine wpAnyH_take (i := 1) (oi := _) (v := ?_) rfl (by kernel_rfl) (by kernel_rfl) (by kernel_rfl) (fun _ _ _ h => h) (Or.inl ⟨by rfl, ?_⟩) (by assumption) ?_
      rotate_left
      · intro w hSw
        (try dsimp only at hSw)
        first | (go_simp; done) | (go_simp; with_reducible rfl)
      try simp only [List.getElem_toArray, List.getElem_cons_succ, List.getElem_cons_zero, Act.put, List.setIfInBounds_toArray, List.set_cons_zero, List.set_cons_succ]
      refine wpAnyH_take (i := 2) (oi := _) (v := ?_) rfl (by kernel_rfl) (by kernel_rfl) (by kernel_rfl) (fun _ _ _ h => h) (Or.inl ⟨by rfl, ?_⟩) (by assumption) ?_
      rotate_left
      · intro w hSw
        (try dsimp only at hSw)
        first | (go_simp; done) | (go_simp; with_reducible rfl)
      try simp only [List.getElem_toArray, List.getElem_cons_succ, List.getElem_cons_zero, Act.put, List.setIfInBounds_toArray, List.set_cons_zero, List.set_cons_succ]
      refine wpAnyH_take (i := 3) (oi := _) (v := ?_) rfl (by kernel_rfl) (by kernel_rfl) (by kernel_rfl) (fun _ _ _ h => h) (Or.inl ⟨by rfl, ?_⟩) (by assumption) ?_
      rotate_left
      · intro w hSw
        (try dsimp only at hSw)
        first | (go_simp; done) | (go_simp; with_reducible rfl)
      try simp only [List.getElem_toArray, List.getElem_cons_succ, List.getElem_cons_zero, Act.put, List.setIfInBounds_toArray, List.set_cons_zero, List.set_cons_succ]
      refine wpAnyH_take (i := 4) (oi := _) (v := ?_) rfl (by kernel_rfl) (by kernel_rfl) (by kernel_rfl) (fun _ _ _ h => h) (Or.inl ⟨by rfl, ?_⟩) (by assumption) ?_
      rotate_left
      · intro w hSw
        (try dsimp only at hSw)
        first | (go_simp; done) | (go_simp; with_reducible rfl)
      try simp only [List.getElem_toArray, List.getElem_cons_succ, List.getElem_cons_zero, Act.put, List.setIfInBounds_toArray, List.set_cons_zero, List.set_cons_succ]
      refine wpAnyH_take (i := 5) (oi := _) (v := ?_) rfl (by kernel_rfl) (by kernel_rfl) (by kernel_rfl) (fun _ _ _ h => h) (Or.inl ⟨by rfl, ?_⟩) (by assumption) ?_
      rotate_left
      · intro w hSw
        (try dsimp only at hSw)
        first | (go_simp; done) | (go_simp; with_reducible rfl)
      try simp only [List.getElem_toArray, List.getElem_cons_succ, List.getElem_cons_zero, Act.put, List.setIfInBounds_toArray, List.set_cons_zero, List.set_cons_succ]
      refine wpAnyH_take (i := 6) (oi := _) (v := ?_) rfl (by kernel_rfl) (by kernel_rfl) (by kernel_rfl) (fun _ _ _ h => h) (Or.inl ⟨by rfl, ?_⟩) (by assumption) ?_
      rotate_left
      · intro w hSw
        (try dsimp only at hSw)
        first | (go_simp; done) | (go_simp; with_reducible rfl)
      try simp only [List.getElem_toArray, List.getElem_cons_succ, List.getElem_cons_zero, Act.put, List.setIfInBounds_toArray, List.set_cons_zero, List.set_cons_succ]
      refine wpAnyH_take (i := 7) (oi := _) (v := ?_) rfl (by kernel_rfl) (by kernel_rfl) (by kernel_rfl) (fun _ _ _ h => h) (Or.inl ⟨by rfl, ?_⟩) (by assumption) ?_
      rotate_left
      · intro w hSw
        (try dsimp only at hSw)
        first | (go_simp; done) | (go_simp; with_reducible rfl)
      try simp only [List.getElem_toArray, List.getElem_cons_succ, List.getElem_cons_zero, Act.put, List.setIfInBounds_toArray, List.set_cons_zero, List.set_cons_succ]
      refine wpAnyH_take (i := 8) (oi := _) (v := ?_) rfl (by kernel_rfl) (by kernel_rfl) (by kernel_rfl) (fun _ _ _ h => h) (Or.inl ⟨by rfl, ?_⟩) (by assumption) ?_
      rotate_left
      · intro w hSw
        (try dsimp only at hSw)
        first | (go_simp; done) | (go_simp; with_reducible rfl)
      try simp only [List.getElem_toArray, List.getElem_cons_succ, List.getElem_cons_zero, Act.put, List.setIfInBounds_toArray, List.set_cons_zero, List.set_cons_succ]
      refine wpAnyH_take (i := 9) (oi := _) (v := ?_) rfl (by kernel_rfl) (by kernel_rfl) (by kernel_rfl) (fun _ _ _ h => h) (Or.inl ⟨by rfl, ?_⟩) (by assumption) ?_
      rotate_left
      · intro w hSw
        (try dsimp only at hSw)
        first | (go_simp; done) | (go_simp; with_reducible rfl)
      try simp only [List.getElem_toArray, List.getElem_cons_succ, List.getElem_cons_zero, Act.put, List.setIfInBounds_toArray, List.set_cons_zero, List.set_cons_succ]
      refine wpAnyH_take (i := 10) (oi := _) (v := ?_) rfl (by kernel_rfl) (by kernel_rfl) (by kernel_rfl) (fun _ _ _ h => h) (Or.inl ⟨by rfl, ?_⟩) (by assumption) ?_
      rotate_left
      · intro w hSw
        (try dsimp only at hSw)
        first | (go_simp; done) | (go_simp; with_reducible rfl)
      try simp only [List.getElem_toArray, List.getElem_cons_succ, List.getElem_cons_zero, Act.put, List.setIfInBounds_toArray, List.set_cons_zero, List.set_cons_succ]
      refine wpAnyH_take (i := 11) (oi := _) (v := ?_) rfl (by kernel_rfl) (by kernel_rfl) (by kernel_rfl) (fun _ _ _ h => h) (Or.inl ⟨by rfl, ?_⟩) (by assumption) ?_
      rotate_left
      · intro w hSw
        (try dsimp only at hSw)
        first | (go_simp; done) | (go_simp; with_reducible rfl)
      try simp only [List.getElem_toArray, List.getElem_cons_succ, List.getElem_cons_zero, Act.put, List.setIfInBounds_toArray, List.set_cons_zero, List.set_cons_succ]
      refine wpAnyH_take (i := 12) (oi := _) (v := ?_) rfl (by kernel_rfl) (by kernel_rfl) (by kernel_rfl) (fun _ _ _ h => h) (Or.inl ⟨by rfl, ?_⟩) (by assumption) ?_
      rotate_left
      · intro w hSw
        (try dsimp only at hSw)
        first | (go_simp; done) | (go_simp; with_reducible rfl)
      try simp only [List.getElem_toArray, List.getElem_cons_succ, List.getElem_cons_zero, Act.put, List.setIfInBounds_toArray, List.set_cons_zero, List.set_cons_succ]
      refine wpAnyH_take (i := 13) (oi := _) (v := ?_) rfl (by kernel_rfl) (by kernel_rfl) (by kernel_rfl) (fun _ _ _ h => h) (Or.inl ⟨by rfl, ?_⟩) (by assumption) ?_
      rotate_left
      · intro w hSw
        (try dsimp only at hSw)
        first | (go_simp; done) | (go_simp; with_reducible rfl)
      try simp only [List.getElem_toArray, List.getElem_cons_succ, List.getElem_cons_zero, Act.put, List.setIfInBounds_toArray, List.set_cons_zero, List.set_cons_succ]
      refine wpAnyH_take (i := 14) (oi := _) (v := ?_) rfl (by kernel_rfl) (by kernel_rfl) (by kernel_rfl) (fun _ _ _ h => h) (Or.inl ⟨by rfl, ?_⟩) (by assumption) ?_
      rotate_left
      · intro w hSw
        (try dsimp only at hSw)
        first | (go_simp; done) | (go_simp; with_reducible rfl)
      try simp only [List.getElem_toArray, List.getElem_cons_succ, List.getElem_cons_zero, Act.put, List.setIfInBounds_toArray, List.set_cons_zero, List.set_cons_succ]
      refine wpAnyH_ready (rs := [15]) (by kernel_rfl) (by simp) ?_
      refine AllReadyH.cons (o := _) rfl (fun K hK => ?_) AllReadyH.nil
      go_simp
      rw [← HW5.out]
      try dsimp only
      refine hK.out _ _ hs5 (fun hHeld => ?_)
      clear hK K
      try simp only [List.getElem_toArray, List.getElem_cons_succ, List.getElem_cons_zero, Act.put, List.setIfInBounds_toArray, List.set_cons_zero, List.set_cons_succ]
      refine wpAnyH_done (by kernel_rfl) ?_ _
      (try simp only [Exit.then])
      go_wp2
      go_roundw
      case rel => exact ⟨i + 1, by go_num, by omega, HN5, HR5, HB5⟩
      case measure => simp [intOf]; omega
    · obtain rfl : i = 4 := by omega
      clear hlt
      have hT4 := Gd.rdT_ok HOk.out.1 HOk.out.2 k 4
      have hbk := Gd.rdT_blk HOk.out.1 HOk.out.2 hk
      rw [← HTe.out] at hT4 hbk HN
      have HBk := Lib.hid (tblock_any T4 hT4 k hk wr)
      rw [hbk] at HBk
      have HS4 := Lib.hid (tabC_size hT4.len)
      obtain ⟨M, hM⟩ : ∃ M, M = Gd.blkT T2 k := ⟨_, rfl⟩
      have hMl : M.length = 64 := by rw [hM]; exact Gd.blkT_len HOk.out.2 hk
      rw [← hM] at HBk HCl
      have HMl := Lib.hid hMl
      have hc64 : (64 : Int) ≤ c := by omega
      clear hT4 hbk hM hMl
      unfold tabV at HBk
      go_upto_region 16 with (first | (refine wpList_load_row rfl 194 _ rfl (tb + 1 + 1) rfl 194 (tabC T4) (0, 0) _ HN.out Tryz.underlying194 rfl (by rw [HS4.out]; exact Tryz.sizeTab) ?_) | (go_at_call 194; refine HBk.out.mono ?_; rintro e w5 ⟨v5, rfl, ho5, hb5⟩))
      have HB5 := Lib.hid (HB.out.trans (hb5.mono HB.out.size))
      have hn5 := (hb5.block _ (lt_get HN.out)).trans HN.out
      have hr5 := (hb5.block _ (lt_get HR.out)).trans HR.out
      have HN5 := Lib.hid hn5
      have HR5 := Lib.hid hr5
      have HEq := Lib.hid (sequal_any v5 (.slice (some ⟨b, 0, none⟩) 64 c) M w5 ho5.at_ ⟨_, _, by rw [HMl.out], Or.inr ⟨b, 0, rfl, Nat.lt_of_lt_of_le HCl.out.1 HB5.out.size, fun j x hx => by rw [Nat.zero_add]; exact (HB5.out.cell (p := ⟨b, j, none⟩) HCl.out.1).trans (HCl.out.2 j x hx)⟩⟩ (by rw [HMl.out]; omega))
      clear hb5 ho5 hn5 hr5 HBk
      go_upto_region 18 with (go_at_call 210; refine HEq.out.mono ?_; rintro e w6 ⟨rfl, hb6⟩)
      have HB6 := Lib.hid (HB5.out.trans (hb6.mono HB5.out.size))
      have HN6 := Lib.hid ((hb6.block _ (lt_get HN5.out)).trans HN5.out)
      have HR6 := Lib.hid ((hb6.block _ (lt_get HR5.out)).trans HR5.out)
      clear hb6
      go_wp2_with (first | (refine wpList_load_row rfl 194 _ rfl (tb + 1 + 1) rfl 194 (tabC T4) (0, 0) _ HN6.out Tryz.underlying194 rfl (by rw [HS4.out]; exact Tryz.sizeTab) ?_) | (refine wpList_store_mid rfl 194 _ _ rfl (tb + 1) 0 (tabC T4) rfl rfl (there_at HR6.out (by rw [HZs.out, HS4.out])) (by rw [HS4.out]; exact Tryz.sizeTab) (tabC_one _) ?_; obtain ⟨hbw, hbg⟩ := whole_at HR6.out (vs := (tabC T4).toList) (B := tb) (by rw [HZs.out, Array.length_toList, HS4.out]) (show tb ≤ tb + 1 by omega); generalize (World.setCells _ _ _ _) = wf at hbw hbg ⊢))
      refine bodyPost_ret (results_row_tmp rfl _ _ (tb + 1) 194 (tabC T4) (0, 0) _ rfl hbg Tryz.underlying194 rfl (by rw [HS4.out]; exact Tryz.sizeTab)) rfl ?_
      exact ⟨rfl, HB6.out.trans (by rw [Htb.out]; exact hbw)⟩

end Go.Proofs.YtccpdkjonepoiaaGreatDoor

/- Walks: metadata: a directory's table. -/
namespace Go.Proofs.YtccpdkjonepoiaaGreatDoor
open Go.RowKit Go.Shelf

attribute [local go_sem] Oper.semAt_some

namespace Gd
/-- a directory in a volume, and its table -/
structure DirOf (M : Vol) (d : Nat) (T : Tab) : Prop where
  lo : 1 ≤ d
  hi : d ≤ 32
  kind : (M.ino d).k = 2
  ok : TabOk T
  blk : ∀ k, k < 4 → ∃ n : Nat, (M.ino d).B[k]? = some (n : Int) ∧ ((n = 0 ∧ ∀ i, i < 4 → entAt T (4 * k + i) = noEnt) ∨ (1 ≤ n ∧ n ≤ 128 ∧ M.blk n = blkT T k))
/-- a table's first blocks -/
def upT (T : Tab) (k : Nat) : Tab := (List.range 16).map fun j => if j < 4 * k then entAt T j else noEnt
theorem upT_len (T : Tab) (k : Nat) : (upT T k).length = 16 := by unfold upT; rw [List.length_map, List.length_range]
theorem upT_at (T : Tab) (k : Nat) {j : Nat} (hj : j < 16) : entAt (upT T k) j = if j < 4 * k then entAt T j else noEnt := by
  show (upT T k).getD j noEnt = _
  unfold upT
  rw [List.getD_eq_getElem?_getD, List.getElem?_map, List.getElem?_range hj]
  rfl
theorem upT_ok {T : Tab} (h : TabOk T) (k : Nat) : TabOk (upT T k) := ⟨upT_len T k, fun e he => by
  unfold upT at he
  obtain ⟨j, _, rfl⟩ := List.mem_map.1 he
  split
  · exact entAt_may h j
  · exact Or.inl rfl⟩
theorem noTab_at (j : Nat) : entAt noTab j = noEnt := by
  unfold entAt noTab
  rw [List.getD_eq_getElem?_getD, List.getElem?_replicate]
  split <;> rfl
theorem upT_zero (T : Tab) : upT T 0 = noTab := tab_ext (upT_len T 0) rfl fun j hj => by rw [upT_at T 0 hj, if_neg (by omega), noTab_at]
theorem upT_skip {T : Tab} {k : Nat} (hk : k < 4) (h : ∀ i, i < 4 → entAt T (4 * k + i) = noEnt) : upT T (k + 1) = upT T k := tab_ext (upT_len _ _) (upT_len _ _) fun j hj => by
  rw [upT_at _ _ hj, upT_at _ _ hj]
  by_cases h1 : j < 4 * k
  · rw [if_pos h1, if_pos (by omega)]
  · rw [if_neg h1]
    by_cases h2 : j < 4 * (k + 1)
    · rw [if_pos h2, show j = 4 * k + (j - 4 * k) by omega, h _ (by omega)]
    · rw [if_neg h2]
theorem upT_read {T : Tab} (hT : TabOk T) {k : Nat} (hk : k < 4) : rdT (upT T k) T k 4 = upT T (k + 1) := tab_ext (rdT_ok (upT_ok hT k) hT k 4).len (upT_len _ _) fun j hj => by
  rw [rdT_at (upT_ok hT k) hT hk 4 (Nat.le_refl _), upT_at _ _ hj, upT_at _ _ hj]
  by_cases h1 : 4 * k ≤ j ∧ j < 4 * k + 4
  · rw [if_pos h1, if_pos (by omega)]
  · rw [if_neg h1]
    by_cases h2 : j < 4 * k
    · rw [if_pos h2, if_pos (by omega)]
    · rw [if_neg h2, if_neg (by omega)]
theorem upT_all {T : Tab} (hT : TabOk T) : upT T 4 = T := tab_ext (upT_len _ _) hT.len fun j hj => by rw [upT_at _ _ hj, if_pos (by omega)]
end Gd

theorem zIno_lit : zIno = #[Value.int .i64 0, Value.int .i64 0, Value.int .i64 0, Value.int .i64 0, Value.int .i64 0, Value.int .i64 0, Value.int .i64 0, Value.int .i64 0, Value.int .i64 0, Value.int .i64 0, Value.int .i64 0, Value.int .i64 0, Value.int .i64 0, Value.int .i64 0, Value.int .i64 0] := by rfl
/-- a new variable, stored whole -/
theorem new_whole2 (w : World) (Z : Array Value) (t : TypeId) (vs : List Value) (h : Z.size = vs.length) :
    Below w.heap.size w ((w.alloc (.cells Z t)).setCells w.heap.size 0 vs) ∧ ((w.alloc (.cells Z t)).setCells w.heap.size 0 vs).heap[w.heap.size]? = some (.cells vs.toArray t (0, 0)) := by
  obtain ⟨h1, h2⟩ := whole_at (heap_alloc_new w (.cells Z t)) h (Nat.le_refl _)
  exact ⟨((Below.refl _ w).alloc (Nat.le_refl _) _).trans h1, h2⟩
theorem noTab_size : (tabC Gd.noTab).size = 32 := tabC_size rfl

set_option maxHeartbeats 8000000 in
set_option maxRecDepth 100000 in
theorem table_any [MemNo] {x t c K d : Nat} {S : List UInt8} {M : Gd.Vol} {T : Gd.Tab} {F : Nat → Prop} (w : World) (h : MetaV x t S M c K w F) (hD : Gd.DirOf M d T) :
    Calls Tryz.prog 169 #[.pointer (some ⟨x, 0, none⟩), inoV (M.ino d)] w fun e w' => e = .returned (.tuple #[tabV T, .int .i64 0]) ∧ Below w.heap.size w w' := by
  obtain ⟨P, h, hG⟩ := h
  have hs := hG.shape d hD.lo hD.hi
  have hblk := hD.blk
  obtain ⟨y, hy⟩ : ∃ y, y = M.ino d := ⟨_, rfl⟩
  rw [← hy] at hs hblk ⊢
  obtain ⟨hb0, hbb⟩ := ino_box w hs
  obtain ⟨b, hbe⟩ : ∃ b, b = w.heap.size := ⟨_, rfl⟩
  obtain ⟨wb, hwb⟩ : ∃ u, u = w.alloc (.cells (inoC y) 40) := ⟨_, rfl⟩
  rw [← hwb, ← hbe] at hb0
  rw [← hwb] at hbb
  have hsb : wb.heap.size = b + 1 := by rw [hwb, hbe]; simp
  obtain ⟨w2, hw2⟩ : ∃ u, u = (wb.alloc (.cells (tabC Gd.noTab) 194)).alloc (.cells (tabC Gd.noTab) 194) := ⟨_, rfl⟩
  have hb2 : Below wb.heap.size wb w2 := by rw [hw2]; exact ((Below.refl _ _).alloc (Nat.le_refl _) _).alloc (by simp) _
  have r4 : w2.heap[b + 1]? = some (.cells (tabC Gd.noTab) 194 (0, 0)) := by rw [hw2, ← hsb]; exact CellsAt.alloc (heap_alloc_new wb _) _
  have r6 : w2.heap[b + 1 + 1]? = some (.cells (tabC Gd.noTab) 194 (0, 0)) := by
    have := heap_alloc_new (wb.alloc (.cells (tabC Gd.noTab) 194)) (.cells (tabC Gd.noTab) 194)
    rw [World.size_alloc, hsb] at this
    rw [hw2]
    exact this
  have hI2 := hb0.keep hb2
  have hB2 : Below w.heap.size w w2 := hbb.trans (hb2.mono hbb.size)
  have H := Lib.hid h
  have HG := Lib.hid hG
  have HBl := Lib.hid hblk
  have HOk := Lib.hid hD.ok
  have Hbe := Lib.hid hbe.symm
  have Hwb := Lib.hid hwb.symm
  have Hsb := Lib.hid hsb
  have Hw2 := Lib.hid hw2.symm
  have HB2 := Lib.hid hB2
  have HR4 := Lib.hid r4
  have HR6 : Hid (w2.heap[b + 1 + 1]? = some (.cells (tabC (Gd.upT T 0)) 194 (0, 0))) := Lib.hid (by rw [Gd.upT_zero]; exact r6)
  have HI := Lib.hid hI2
  have HL : Hid ((intC y.B).length = 4) := Lib.hid (by rw [intC_len]; exact hs.1)
  clear h hG hs hblk hD hy hb0 hbb hbe hwb hsb hw2 hb2 r4 r6 hI2 hB2
  unfold inoV tabV at *
  go_enter Tryz.func169, Tryz.ntmps169
  go_upto_region 2 with fail
  rw [Hwb.out, Hbe.out, ← zTab, Hw2.out]
  (try rw [Hsb.out])
  go_upto_region 3 with (refine wpList_load_mid rfl 37 _ rfl b 3 rfl (intC y.B) _ HI.out.blocks Tryz.underlying37 rfl (by rw [HL.out]; exact Tryz.size4) ?_)
  go_loopw [15] (fun z wr => ∃ i : Nat, z = .int .i64 i ∧ i ≤ 4 ∧ Hid (wr.heap[b + 1]? = some (.cells (tabC Gd.noTab) 194 (0, 0))) ∧ Hid (wr.heap[b + 1 + 1]? = some (.cells (tabC (Gd.upT T i)) 194 (0, 0))) ∧ Hid (Below w.heap.size w wr)) (fun z _ => 4 - (intOf z).toNat)
  case atStart => exact ⟨0, rfl, by omega, HR4, HR6, HB2⟩
  case round =>
    obtain ⟨i, rfl, hi, HR, HT, HB⟩ := hrel
    by_cases hlt : i < 4
    · obtain ⟨n, hn, hnb⟩ := HBl.out i hlt
      have hc := run_index_one 37 3 4 (intC y.B).toArray .i64 .i64 i _ wr Tryz.underlying37 Tryz.underlying3 Tryz.infoInts hlt (by rw [List.getElem?_toArray]; exact intC_get hn)
      have h1 : (i : Int) < 4 := by omega
      by_cases h0 : n = 0
      · have hno : ∀ j, j < 4 → Gd.entAt T (4 * i + j) = Gd.noEnt := by
          rcases hnb with ⟨_, h⟩ | ⟨h, _⟩
          · exact h
          · omega
        have HT2 : Hid (wr.heap[b + 1 + 1]? = some (.cells (tabC (Gd.upT T (i + 1))) 194 (0, 0))) := Lib.hid (by rw [Gd.upT_skip hlt hno]; exact HT.out)
        subst h0
        clear hn hnb hlt hno
        go_wp2_with fail
        go_roundw
        case rel => exact ⟨i + 1, by go_num, by omega, HR, HT2, HB⟩
        case measure => simp [intOf]; omega
      · have hnb : 1 ≤ n ∧ n ≤ 128 ∧ M.blk n = Gd.blkT T i := by
          rcases hnb with ⟨h, _⟩ | h
          · omega
          · exact h
        have hn0 : ¬ (n : Int) = 0 := by omega
        have HLd := Lib.hid (load_some 7 n _ wr (H.out.below HB.out) (Gd.ptAt_block hnb.1 hnb.2.1))
        dsimp only at HLd
        rw [HG.out.blk n hnb.1 hnb.2.1, hnb.2.2] at HLd
        have HRd := Lib.hid fun v B W hv => tread_any (Gd.upT T i) T (Gd.upT_ok HOk.out i) HOk.out i hlt v B W hv
        rw [Gd.upT_read HOk.out hlt] at HRd
        unfold tabV at HRd
        have HSi := Lib.hid (tabC_size (Gd.upT_len T i))
        have HSj := Lib.hid (tabC_size (Gd.upT_len T (i + 1)))
        clear hn hnb hlt
        go_wp2_with fail
        refine HLd.out.mono ?_
        rintro e w3 ⟨v3, rfl, ho3, hb3⟩
        have HO3 := Lib.hid ho3
        have HB3 := Lib.hid (HB.out.trans (hb3.mono HB.out.size))
        have hrr := (hb3.block _ (lt_get HR.out)).trans HR.out
        have htt := (hb3.block _ (lt_get HT.out)).trans HT.out
        have HR3 := Lib.hid hrr
        have HT3 := Lib.hid htt
        clear ho3 hb3 hrr htt HLd hc
        go_upto_region 8 with (first | (refine wpList_load_row rfl 194 _ rfl (b + 1 + 1) rfl 194 (tabC (Gd.upT T i)) (0, 0) _ HT3.out Tryz.underlying194 rfl (by rw [HSi.out]; exact Tryz.sizeTab) ?_) | (go_at_call 191; refine (HRd.out v3 _ w3 HO3.out).mono ?_; rintro e w4 ⟨rfl, hb4⟩; have HB4 := Lib.hid (HB3.out.trans (hb4.mono HB3.out.size)); have HR4 := Lib.hid ((hb4.block _ (lt_get HR3.out)).trans HR3.out); have HT4 := Lib.hid ((hb4.block _ (lt_get HT3.out)).trans HT3.out); clear hb4) | (rw [← zTab]; refine wpList_store_mid rfl 194 _ _ rfl w4.heap.size 0 (tabC (Gd.upT T (i + 1))) rfl rfl (there_at (heap_alloc_new _ _) (by rw [noTab_size, HSj.out])) (by rw [HSj.out]; exact Tryz.sizeTab) (tabC_one _) ?_; obtain ⟨hbw, hbg⟩ := new_whole2 w4 (tabC Gd.noTab) 194 (tabC (Gd.upT T (i + 1))).toList (by rw [noTab_size, Array.length_toList, HSj.out]); generalize (World.setCells _ _ _ _) = w5 at hbw hbg ⊢; have HN5 : Hid (w5.heap[w4.heap.size]? = some (.cells (tabC (Gd.upT T (i + 1))) 194 (0, 0))) := Lib.hid hbg; have HB5 := Lib.hid (HB4.out.trans (hbw.mono HB4.out.size)); have HR5 := Lib.hid ((hbw.block _ (lt_get HR4.out)).trans HR4.out); have HT5 := Lib.hid ((hbw.block _ (lt_get HT4.out)).trans HT4.out); clear hbw hbg))
        go_upto_region 11 with (first | (refine wpList_load_row rfl 194 _ rfl w4.heap.size rfl 194 (tabC (Gd.upT T (i + 1))) (0, 0) _ HN5.out Tryz.underlying194 rfl (by rw [HSj.out]; exact Tryz.sizeTab) ?_) | (refine wpList_store_mid rfl 194 _ _ rfl (b + 1 + 1) 0 (tabC (Gd.upT T (i + 1))) rfl rfl (there_at HT5.out (by rw [HSi.out, HSj.out])) (by rw [HSj.out]; exact Tryz.sizeTab) (tabC_one _) ?_; obtain ⟨hbw, hbg⟩ := whole_at HT5.out (vs := (tabC (Gd.upT T (i + 1))).toList) (B := b + 1 + 1) (by rw [HSi.out, Array.length_toList, HSj.out]) (Nat.le_refl _); generalize (World.setCells _ _ _ _) = w6 at hbw hbg ⊢))
        have HB6 := Lib.hid (HB5.out.trans (hbw.mono (show w.heap.size ≤ b + 1 + 1 by rw [Hbe.out]; omega)))
        have HR6 := Lib.hid ((hbw.block (b + 1) (show b + 1 < b + 1 + 1 by omega)).trans HR5.out)
        have HT6 : Hid (w6.heap[b + 1 + 1]? = some (.cells (tabC (Gd.upT T (i + 1))) 194 (0, 0))) := Lib.hid hbg
        clear hbw hbg
        go_wp2
        go_roundw
        case rel => exact ⟨i + 1, by go_num, by omega, HR6, HT6, HB6⟩
        case measure => simp [intOf]; omega
    · obtain rfl : i = 4 := by omega
      clear hlt
      have hu := Gd.upT_all HOk.out
      rw [hu] at HT
      have HS4 := Lib.hid (tabC_size HOk.out.len)
      clear hu
      go_wp2_with (first | (refine wpList_load_row rfl 194 _ rfl (b + 1 + 1) rfl 194 (tabC T) (0, 0) _ HT.out Tryz.underlying194 rfl (by rw [HS4.out]; exact Tryz.sizeTab) ?_) | (refine wpList_store_mid rfl 194 _ _ rfl (b + 1) 0 (tabC T) rfl rfl (there_at HR.out (by rw [noTab_size, HS4.out])) (by rw [HS4.out]; exact Tryz.sizeTab) (tabC_one _) ?_; obtain ⟨hbw, hbg⟩ := whole_at HR.out (vs := (tabC T).toList) (B := b) (by rw [noTab_size, Array.length_toList, HS4.out]) (show b ≤ b + 1 by omega); generalize (World.setCells _ _ _ _) = wf at hbw hbg ⊢))
      refine bodyPost_ret (results_row_tmp rfl _ _ (b + 1) 194 (tabC T) (0, 0) _ rfl hbg Tryz.underlying194 rfl (by rw [HS4.out]; exact Tryz.sizeTab)) rfl ?_
      exact ⟨rfl, HB.out.trans (by rw [Hbe.out]; exact hbw)⟩

end Go.Proofs.YtccpdkjonepoiaaGreatDoor

/- Walks: metadata: Table, node. -/
namespace Go.Proofs.YtccpdkjonepoiaaGreatDoor
open Go.RowKit Go.Shelf

attribute [local go_sem] Oper.semAt_some

theorem inoC_size2 {M : Gd.Vol} {V : List UInt8} (hG : Gd.Good V M) {i : Nat} (h1 : 1 ≤ i) (h2 : i ≤ 32) : (inoC (M.ino i)).size = 15 := inoC_size (hG.shape i h1 h2)
theorem zIno_size : zIno.size = 15 := rfl

set_option maxHeartbeats 8000000 in
set_option maxRecDepth 100000 in
theorem tableI_dir [MemNo] {x t c K d : Nat} {S : List UInt8} {M : Gd.Vol} {T : Gd.Tab} {F : Nat → Prop} (w : World) (h : MetaV x t S M c K w F) (hD : Gd.DirOf M d T) :
    Calls Tryz.prog 134 #[.pointer (some ⟨x, 0, none⟩), .int .i64 d] w fun e w' => e = .returned (.tuple #[tabV T, .int .i64 0]) ∧ Below w.heap.size w w' := by
  obtain ⟨w0, hw0⟩ : ∃ u, u = w.alloc (.cells (tabC Gd.noTab) 194) := ⟨_, rfl⟩
  have hb0 : Below w.heap.size w w0 := by rw [hw0]; exact (Below.refl _ _).alloc (Nat.le_refl _) _
  have hr0 : w0.heap[w.heap.size]? = some (.cells (tabC Gd.noTab) 194 (0, 0)) := by rw [hw0]; exact heap_alloc_new _ _
  obtain ⟨r, hr⟩ : ∃ r, r = w.heap.size := ⟨_, rfl⟩
  rw [← hr] at hr0
  have HIn := Lib.hid (inode_ok (d : Int) w0 (h.below hb0) (by have := hD.lo; omega) (by have := hD.hi; omega))
  rw [Int.toNat_natCast] at HIn
  have HTb := Lib.hid fun W hW => table_any W (h.below hW) hD
  have HS : Hid ((inoC (M.ino d)).size = 15) := Lib.hid (by
    obtain ⟨P, h1, h2⟩ := h
    exact inoC_size2 h2 hD.lo hD.hi)
  have HTs := Lib.hid (tabC_size hD.ok.len)
  have HK := Lib.hid hD.kind
  obtain ⟨y, hy⟩ : ∃ y, y = M.ino d := ⟨_, rfl⟩
  rw [← hy] at HIn HTb HS HK
  have HR0 := Lib.hid hr0
  have HB0 := Lib.hid hb0
  have HW0 := Lib.hid hw0.symm
  have Hr := Lib.hid hr.symm
  clear h hD hw0 hb0 hr0 hr hy
  unfold inoV tabV at *
  go_enter Tryz.func134, Tryz.ntmps134
  go_upto_region 1 with fail
  rw [← zTab, HW0.out, Hr.out]
  go_upto_region 2 with (first | (go_at_call 16; refine HIn.out.mono ?_; rintro e w2 ⟨rfl, hb2⟩; have HR2 := Lib.hid ((hb2.block r (lt_get HR0.out)).trans HR0.out); have HB2 := Lib.hid (HB0.out.trans (hb2.mono HB0.out.size)); clear hb2) | (rw [← zIno_lit]; refine wpList_store_mid rfl 40 _ _ rfl w2.heap.size 0 (inoC y) rfl rfl (there_at (heap_alloc_new _ _) (by rw [zIno_size, HS.out])) (by rw [HS.out]; exact Tryz.sizeIno) (inoC_one _) ?_; obtain ⟨hbw, hbg⟩ := new_whole2 w2 zIno 40 (inoC y).toList (by rw [zIno_size, Array.length_toList, HS.out]); generalize (World.setCells _ _ _ _) = w3 at hbw hbg ⊢; have HN3 : Hid (w3.heap[w2.heap.size]? = some (.cells (inoC y) 40 (0, 0))) := Lib.hid hbg; have HB3 := Lib.hid (HB2.out.trans (hbw.mono HB2.out.size)); have HR3 := Lib.hid ((hbw.block _ (lt_get HR2.out)).trans HR2.out); clear hbw hbg))
  have n0 : w3.cell? ⟨w2.heap.size, 0, none⟩ = some (.int .i64 2) := by
    have := cell_of_row w3 w2.heap.size 0 _ _ _ HN3.out
    rw [this, ← HK.out]
    exact inoC_get rfl
  go_upto_region 6 with fail
  have HTc := Lib.hid (HTb.out w3 HB3.out)
  go_wp2_with (first | (refine wpList_load_row rfl 40 _ rfl w2.heap.size rfl 40 (inoC y) (0, 0) _ HN3.out Tryz.underlying40 rfl (by rw [HS.out]; exact Tryz.sizeIno) ?_) | (go_at_call 169; refine HTc.out.mono ?_; rintro e w4 ⟨rfl, hb4⟩; have HR4 := Lib.hid ((hb4.block r (lt_get HR3.out)).trans HR3.out); have HB4 := Lib.hid (HB3.out.trans (hb4.mono HB3.out.size)); clear hb4) | (refine wpList_store_mid rfl 194 _ _ rfl r 0 (tabC T) rfl rfl (there_at HR4.out (by rw [noTab_size, HTs.out])) (by rw [HTs.out]; exact Tryz.sizeTab) (tabC_one _) ?_; obtain ⟨hbw, hbg⟩ := whole_at HR4.out (vs := (tabC T).toList) (B := r) (by rw [noTab_size, Array.length_toList, HTs.out]) (Nat.le_refl r); generalize (World.setCells _ _ _ _) = wf at hbw hbg ⊢))
  refine bodyPost_ret (results_row_tmp rfl _ _ r 194 (tabC T) (0, 0) _ rfl hbg Tryz.underlying194 rfl (by rw [HTs.out]; exact Tryz.sizeTab)) rfl ?_
  exact ⟨rfl, HB4.out.trans (by rw [Hr.out]; exact hbw)⟩

set_option maxHeartbeats 8000000 in
set_option maxRecDepth 100000 in
theorem tableI_not [MemNo] {x t c K d : Nat} {S : List UInt8} {M : Gd.Vol} {F : Nat → Prop} (w : World) (h : MetaV x t S M c K w F) (h1 : 1 ≤ d) (h2 : d ≤ 32) (hk : (M.ino d).k ≠ 2) :
    Calls Tryz.prog 134 #[.pointer (some ⟨x, 0, none⟩), .int .i64 d] w fun e w' => e = .returned (.tuple #[tabV Gd.noTab, .int .i64 12]) ∧ Below w.heap.size w w' := by
  obtain ⟨w0, hw0⟩ : ∃ u, u = w.alloc (.cells (tabC Gd.noTab) 194) := ⟨_, rfl⟩
  have hb0 : Below w.heap.size w w0 := by rw [hw0]; exact (Below.refl _ _).alloc (Nat.le_refl _) _
  have hr0 : w0.heap[w.heap.size]? = some (.cells (tabC Gd.noTab) 194 (0, 0)) := by rw [hw0]; exact heap_alloc_new _ _
  obtain ⟨r, hr⟩ : ∃ r, r = w.heap.size := ⟨_, rfl⟩
  rw [← hr] at hr0
  have HIn := Lib.hid (inode_ok (d : Int) w0 (h.below hb0) (by omega) (by omega))
  rw [Int.toNat_natCast] at HIn
  have HS : Hid ((inoC (M.ino d)).size = 15) := Lib.hid (by
    obtain ⟨P, h3, h4⟩ := h
    exact inoC_size2 h4 h1 h2)
  obtain ⟨y, hy⟩ : ∃ y, y = M.ino d := ⟨_, rfl⟩
  rw [← hy] at HIn HS hk
  have HR0 := Lib.hid hr0
  have HB0 := Lib.hid hb0
  have HW0 := Lib.hid hw0.symm
  have Hr := Lib.hid hr.symm
  clear h hw0 hb0 hr0 hr hy h1 h2
  unfold inoV tabV at *
  go_enter Tryz.func134, Tryz.ntmps134
  go_upto_region 1 with fail
  rw [← zTab, HW0.out, Hr.out]
  go_upto_region 2 with (first | (go_at_call 16; refine HIn.out.mono ?_; rintro e w2 ⟨rfl, hb2⟩; have HR2 := Lib.hid ((hb2.block r (lt_get HR0.out)).trans HR0.out); have HB2 := Lib.hid (HB0.out.trans (hb2.mono HB0.out.size)); clear hb2) | (rw [← zIno_lit]; refine wpList_store_mid rfl 40 _ _ rfl w2.heap.size 0 (inoC y) rfl rfl (there_at (heap_alloc_new _ _) (by rw [zIno_size, HS.out])) (by rw [HS.out]; exact Tryz.sizeIno) (inoC_one _) ?_; obtain ⟨hbw, hbg⟩ := new_whole2 w2 zIno 40 (inoC y).toList (by rw [zIno_size, Array.length_toList, HS.out]); generalize (World.setCells _ _ _ _) = w3 at hbw hbg ⊢; have HN3 : Hid (w3.heap[w2.heap.size]? = some (.cells (inoC y) 40 (0, 0))) := Lib.hid hbg; have HB3 := Lib.hid (HB2.out.trans (hbw.mono HB2.out.size)); have HR3 := Lib.hid ((hbw.block _ (lt_get HR2.out)).trans HR2.out); clear hbw hbg))
  have n0 : w3.cell? ⟨w2.heap.size, 0, none⟩ = some (.int .i64 y.k) := (cell_of_row w3 w2.heap.size 0 _ _ _ HN3.out).trans (inoC_get rfl)
  go_upto_region 5 with fail
  go_wp2_with (refine wpList_store_mid rfl 194 _ _ rfl r 0 (tabC Gd.noTab) rfl rfl (there_at HR3.out noTab_size) (by rw [noTab_size]; exact Tryz.sizeTab) (tabC_one _) ?_; obtain ⟨hbw, hbg⟩ := whole_at HR3.out (vs := (tabC Gd.noTab).toList) (B := r) (by rw [noTab_size, Array.length_toList, noTab_size]) (Nat.le_refl r); generalize (World.setCells _ _ _ _) = wf at hbw hbg ⊢)
  refine bodyPost_ret (results_row_tmp rfl _ _ r 194 (tabC Gd.noTab) (0, 0) _ rfl hbg Tryz.underlying194 rfl (by rw [noTab_size]; exact Tryz.sizeTab)) rfl ?_
  exact ⟨rfl, HB3.out.trans (by rw [Hr.out]; exact hbw)⟩

set_option maxHeartbeats 8000000 in
set_option maxRecDepth 100000 in
theorem node_ok [MemNo] {x t c K : Nat} {S : List UInt8} {M : Gd.Vol} {F : Nat → Prop} (d : Nat) (w : World) (h : MetaV x t S M c K w F) (h1 : 1 ≤ d) (h2 : d ≤ 32) (hk : (M.ino d).k ≠ 0) :
    Calls Tryz.prog 168 #[.pointer (some ⟨x, 0, none⟩), .int .i64 d] w fun e w' => e = .returned (.tuple #[inoV (M.ino d), .int .i64 0]) ∧ Below w.heap.size w w' := by
  obtain ⟨w0, hw0⟩ : ∃ u, u = w.alloc (.cells zIno 40) := ⟨_, rfl⟩
  have hb0 : Below w.heap.size w w0 := by rw [hw0]; exact (Below.refl _ _).alloc (Nat.le_refl _) _
  have hr0 : w0.heap[w.heap.size]? = some (.cells zIno 40 (0, 0)) := by rw [hw0]; exact heap_alloc_new _ _
  obtain ⟨r, hr⟩ : ∃ r, r = w.heap.size := ⟨_, rfl⟩
  rw [← hr] at hr0
  have HIn := Lib.hid (inode_ok (d : Int) w0 (h.below hb0) (by omega) (by omega))
  rw [Int.toNat_natCast] at HIn
  have HS : Hid ((inoC (M.ino d)).size = 15) := Lib.hid (by
    obtain ⟨P, h3, h4⟩ := h
    exact inoC_size2 h4 h1 h2)
  obtain ⟨y, hy⟩ : ∃ y, y = M.ino d := ⟨_, rfl⟩
  rw [← hy] at HIn HS hk
  rw [← hy]
  have HR0 := Lib.hid hr0
  have HB0 := Lib.hid hb0
  have HW0 := Lib.hid hw0.symm
  have Hr := Lib.hid hr.symm
  clear h hw0 hb0 hr0 hr hy h1 h2
  unfold inoV at *
  go_enter Tryz.func168, Tryz.ntmps168
  go_upto_region 1 with fail
  rw [← zIno_lit, HW0.out, Hr.out]
  go_upto_region 2 with (first | (go_at_call 16; refine HIn.out.mono ?_; rintro e w2 ⟨rfl, hb2⟩; have HR2 := Lib.hid ((hb2.block r (lt_get HR0.out)).trans HR0.out); have HB2 := Lib.hid (HB0.out.trans (hb2.mono HB0.out.size)); clear hb2) | (rw [← zIno_lit]; refine wpList_store_mid rfl 40 _ _ rfl w2.heap.size 0 (inoC y) rfl rfl (there_at (heap_alloc_new _ _) (by rw [zIno_size, HS.out])) (by rw [HS.out]; exact Tryz.sizeIno) (inoC_one _) ?_; obtain ⟨hbw, hbg⟩ := new_whole2 w2 zIno 40 (inoC y).toList (by rw [zIno_size, Array.length_toList, HS.out]); generalize (World.setCells _ _ _ _) = w3 at hbw hbg ⊢; have HN3 : Hid (w3.heap[w2.heap.size]? = some (.cells (inoC y) 40 (0, 0))) := Lib.hid hbg; have HB3 := Lib.hid (HB2.out.trans (hbw.mono HB2.out.size)); have HR3 := Lib.hid ((hbw.block _ (lt_get HR2.out)).trans HR2.out); clear hbw hbg))
  have n0 : w3.cell? ⟨w2.heap.size, 0, none⟩ = some (.int .i64 y.k) := (cell_of_row w3 w2.heap.size 0 _ _ _ HN3.out).trans (inoC_get rfl)
  go_upto_region 4 with fail
  go_wp2_with (first | (refine wpList_load_row rfl 40 _ rfl w2.heap.size rfl 40 (inoC y) (0, 0) _ HN3.out Tryz.underlying40 rfl (by rw [HS.out]; exact Tryz.sizeIno) ?_) | (refine wpList_store_mid rfl 40 _ _ rfl r 0 (inoC y) rfl rfl (there_at HR3.out (by rw [zIno_size, HS.out])) (by rw [HS.out]; exact Tryz.sizeIno) (inoC_one _) ?_; obtain ⟨hbw, hbg⟩ := whole_at HR3.out (vs := (inoC y).toList) (B := r) (by rw [zIno_size, Array.length_toList, HS.out]) (Nat.le_refl r); generalize (World.setCells _ _ _ _) = wf at hbw hbg ⊢))
  refine bodyPost_ret (results_row_tmp rfl _ _ r 40 (inoC y) (0, 0) _ rfl hbg Tryz.underlying40 rfl (by rw [HS.out]; exact Tryz.sizeIno)) rfl ?_
  exact ⟨rfl, HB3.out.trans (by rw [Hr.out]; exact hbw)⟩

end Go.Proofs.YtccpdkjonepoiaaGreatDoor

/- Walks: metadata: walk. -/
namespace Go.Proofs.YtccpdkjonepoiaaGreatDoor
open Go.RowKit Go.Shelf

attribute [local go_sem] Oper.semAt_some

namespace Gd
def hN (s : List UInt8) : Nat := Np.hashN s / 268435456
/-- directories, all of them, and that what they name is there -/
structure Tree (M : Vol) (T : Nat → Tab) : Prop where
  root : (M.ino 1).k = 2
  dir : ∀ d, 1 ≤ d → d ≤ 32 → (M.ino d).k = 2 → DirOf M d (T d)
  ent : ∀ d, 1 ≤ d → d ≤ 32 → (M.ino d).k = 2 → ∀ e ∈ T d, e ≠ noEnt → (M.ino e.i).k ≠ 0
/-- the node of names, and an error -/
def walkT (M : Vol) (T : Nat → Tab) : List (List UInt8) → Nat → Nat × Nat
  | [], i => (i, 0)
  | s :: r, i => if (M.ino i).k = 2 then (match findT (T i) s (hN s) with | none => (0, 10) | some j => walkT M T r (entAt (T i) j.val).i) else (0, 12)
theorem find_ent {M : Vol} {T : Nat → Tab} (hT : Tree M T) {d : Nat} (h1 : 1 ≤ d) (h2 : d ≤ 32) (hk : (M.ino d).k = 2) {s : List UInt8} {h : Nat} {j : Fin 16} (hj : findT (T d) s h = some j) :
    1 ≤ (entAt (T d) j.val).i ∧ (entAt (T d) j.val).i ≤ 32 ∧ (M.ino (entAt (T d) j.val).i).k ≠ 0 ∧ (T d)[j.val]? = some (entAt (T d) j.val) := by
  have hD := hT.dir d h1 h2 hk
  have hg := entAt_get hD.ok.len j.isLt
  have hm := List.find?_some hj
  simp only [Bool.and_eq_true, decide_eq_true_eq] at hm
  have hne : entAt (T d) j.val ≠ noEnt := by
    intro h
    rw [h] at hm
    obtain ⟨h3, h4⟩ := hm
    rw [← h3] at h4
    exact absurd h4 (by decide)
  have hi := hT.ent d h1 h2 hk _ (List.mem_of_getElem? hg) hne
  rcases entAt_may hD.ok j.val with h | ⟨_, h3, h4⟩
  · exact absurd h hne
  · exact ⟨h3, h4, hi, hg⟩
end Gd

set_option maxHeartbeats 8000000 in
set_option maxRecDepth 100000 in
theorem walk_any [MemNo] {x t c K : Nat} {S : List UInt8} {M : Gd.Vol} {T : Nat → Gd.Tab} {F : Nat → Prop} (A : Option Addr) (L : List (List UInt8)) (cc B : Nat) (w : World) (h : MetaV x t S M c K w F) (hT : Gd.Tree M T) (hS : Strs w B A L) (hL : ∀ s ∈ L, s ≠ [] ∧ s.length ≤ 1000) (hl : L.length ≤ 1000) :
    Calls Tryz.prog 132 #[.pointer (some ⟨x, 0, none⟩), .slice A L.length cc] w fun e w' => e = .returned (.tuple #[.int .i64 (Gd.walkT M T L 1).1, .int .i64 (Gd.walkT M T L 1).2]) ∧ Below w.heap.size w w' := by
  obtain ⟨R, hR⟩ : ∃ R, R = Gd.walkT M T L 1 := ⟨_, rfl⟩
  rw [← hR]
  have HR := Lib.hid hR
  have H := Lib.hid h
  have HT := Lib.hid hT
  have HS := Lib.hid hS
  have HL := Lib.hid hL
  clear hR h hT hS hL
  go_enter Tryz.func132, Tryz.ntmps132
  go_upto_region 3 with fail
  go_loopw [6, 16] (fun v z wr => ∃ (i d : Nat), z = .int .i64 i ∧ v = .int .i64 d ∧ i ≤ L.length ∧ Hid (R = Gd.walkT M T (L.drop i) d ∧ 1 ≤ d ∧ d ≤ 32) ∧ Hid (Below w.heap.size w wr)) (fun _ z _ => L.length - (intOf z).toNat)
  case atStart => exact ⟨0, 1, rfl, rfl, by omega, Lib.hid ⟨by rw [HR.out]; rfl, by omega, by omega⟩, Lib.hid (Below.refl _ _)⟩
  case round =>
    obtain ⟨i, d, rfl, rfl, hi, HW, HB⟩ := hrel
    by_cases hlt : i < L.length
    · obtain ⟨s, hs⟩ : ∃ s, L[i]? = some s := ⟨_, List.getElem?_eq_getElem hlt⟩
      rcases HS.out with h | ⟨b, o, rfl, hb1, hb2, hcell, -⟩
      · subst h; simp at hlt
      have c0 := (HB.out.cell (p := ⟨b, o + i, none⟩) hb2).trans (hcell i s hs)
      have hdrop : L.drop i = s :: L.drop (i + 1) := by
        rw [List.drop_eq_getElem_cons hlt, (List.getElem?_eq_some_iff.1 hs).2]
      have hsl := HL.out s (List.mem_of_getElem? hs)
      have hW := HW.out.1
      rw [hdrop] at hW
      unfold Gd.walkT at hW
      have h1 : (i : Int) < L.length := by omega
      have h0 : (0 : Int) ≤ i := by omega
      by_cases hk : (M.ino d).k = 2
      · rw [if_pos hk] at hW
        have hD := HT.out.dir d HW.out.2.1 HW.out.2.2 hk
        have HTb := Lib.hid (tableI_dir wr (H.out.below HB.out) hD)
        have HTs := Lib.hid (tabC_size hD.ok.len)
        have HFd := Lib.hid fun W => tfind_any (T d) hD.ok.len ⟨s.toArray⟩ (by rw [Lib.size_eq]; show s.length ≤ _; omega) hsl.1 (Gd.hN s) rfl W
        rw [show (⟨s.toArray⟩ : ByteArray).data.toList = s from rfl] at HFd
        obtain ⟨sb, hsb⟩ : ∃ sb : ByteArray, sb = ⟨s.toArray⟩ := ⟨_, rfl⟩
        rw [← hsb] at c0 HFd
        obtain ⟨f, hf⟩ : ∃ f, f = Gd.findT (T d) s (Gd.hN s) := ⟨_, rfl⟩
        rw [← hf] at hW HFd
        obtain ⟨D, hDe⟩ : ∃ D, D = T d := ⟨_, rfl⟩
        have HDe := Lib.hid hDe
        rw [← hDe] at HTb HTs HFd
        have Hf := Lib.hid hf
        have HW2 := Lib.hid hW
        have Hk := Lib.hid hk
        unfold tabV at HTb HFd
        clear hs hcell hdrop hsl hW hk hD hsb hDe hlt hf
        go_upto_region 8 with (first | (go_at_call 134; refine HTb.out.mono ?_; rintro e w2 ⟨rfl, hb2⟩; have HB2 := Lib.hid (HB.out.trans (hb2.mono HB.out.size)); clear hb2) | (rw [← zTab]; refine wpList_store_mid rfl 194 _ _ rfl w2.heap.size 0 (tabC D) rfl rfl (there_at (heap_alloc_new _ _) (by rw [noTab_size, HTs.out])) (by rw [HTs.out]; exact Tryz.sizeTab) (tabC_one _) ?_; obtain ⟨hbw, hbg⟩ := new_whole2 w2 (tabC Gd.noTab) 194 (tabC D).toList (by rw [noTab_size, Array.length_toList, HTs.out]); generalize (World.setCells _ _ _ _) = w3 at hbw hbg ⊢; have HN3 : Hid (w3.heap[w2.heap.size]? = some (.cells (tabC D) 194 (0, 0))) := Lib.hid hbg; have HB3 := Lib.hid (HB2.out.trans (hbw.mono HB2.out.size)); clear hbw hbg))
        go_upto_region 9 with (first | (refine wpList_load_row rfl 194 _ rfl w2.heap.size rfl 194 (tabC D) (0, 0) _ HN3.out Tryz.underlying194 rfl (by rw [HTs.out]; exact Tryz.sizeTab) ?_) | (go_at_call 167; refine (HFd.out w3).mono ?_; rintro e w4 ⟨rfl, hb4⟩; have HB4 := Lib.hid (HB3.out.trans (hb4.mono HB3.out.size)); have HN4 := Lib.hid ((hb4.block _ (lt_get HN3.out)).trans HN3.out); clear hb4))
        cases f with
        | none =>
          have HR0 : Hid (R = (0, 10)) := HW2
          have hn1 : numO none = -1 := rfl
          rw [hn1]
          go_wp2
          go_ret2
          refine ⟨?_, HB4.out⟩
          rw [HR0.out]
          rfl
        | some j =>
          have HR0 : Hid (R = Gd.walkT M T (L.drop (i + 1)) (Gd.entAt (T d) j.val).i) := HW2
          have hfe := Gd.find_ent HT.out HW.out.2.1 HW.out.2.2 Hk.out Hf.out.symm
          rw [← HDe.out] at hfe HR0
          obtain ⟨q, hq⟩ : ∃ q, q = (Gd.entAt D j.val).i := ⟨_, rfl⟩
          obtain ⟨-, n1⟩ := tab_cells HN4.out hfe.2.2.2
          rw [← hq] at hfe HR0 n1
          have hj16 := j.isLt
          obtain ⟨k, hk⟩ : ∃ k, k = j.val := ⟨_, rfl⟩
          have hnk : numO (some j) = (k : Int) := by rw [hk]; rfl
          rw [← hk] at n1 hj16
          rw [hnk]
          have HNd := Lib.hid (node_ok q w4 (H.out.below HB4.out) hfe.1 hfe.2.1 hfe.2.2.1)
          have HSq : Hid ((inoC (M.ino q)).size = 15) := Lib.hid (by
            obtain ⟨P, h3, h4⟩ := H.out
            exact inoC_size2 h4 hfe.1 hfe.2.1)
          have HQ := Lib.hid (And.intro hfe.1 hfe.2.1)
          obtain ⟨y, hy⟩ : ∃ y, y = M.ino q := ⟨_, rfl⟩
          rw [← hy] at HNd HSq
          unfold inoV at HNd
          have hk16 : (k : Int) < 16 := by omega
          have hk0 : (0 : Int) ≤ k := by omega
          clear hfe hq hk hnk hy HFd hj16
          go_upto_region 13 with (first | (go_at_call 168; refine HNd.out.mono ?_; rintro e w5 ⟨rfl, hb5⟩; have HB5 := Lib.hid (HB4.out.trans (hb5.mono HB4.out.size)); clear hb5) | (rw [← zIno_lit]; refine wpList_store_mid rfl 40 _ _ rfl w5.heap.size 0 (inoC y) rfl rfl (there_at (heap_alloc_new _ _) (by rw [zIno_size, HSq.out])) (by rw [HSq.out]; exact Tryz.sizeIno) (inoC_one _) ?_; obtain ⟨hbw, hbg⟩ := new_whole2 w5 zIno 40 (inoC y).toList (by rw [zIno_size, Array.length_toList, HSq.out]); generalize (World.setCells _ _ _ _) = w6 at hbw hbg ⊢; have HB6 := Lib.hid (HB5.out.trans (hbw.mono HB5.out.size)); clear hbw hbg))
          go_wp2
          go_roundw
          case rel => exact ⟨i + 1, q, by go_num, rfl, by omega, Lib.hid ⟨HR0.out, HQ.out⟩, HB6⟩
          case measure => simp [intOf]; omega
      · rw [if_neg hk] at hW
        have HR0 := Lib.hid hW
        have HTb := Lib.hid (tableI_not wr (H.out.below HB.out) HW.out.2.1 HW.out.2.2 hk)
        unfold tabV at HTb
        clear hs hcell hdrop hsl hW hk hlt
        go_wp2_with (first | (go_at_call 134; refine HTb.out.mono ?_; rintro e w2 ⟨rfl, hb2⟩; have HB2 := Lib.hid (HB.out.trans (hb2.mono HB.out.size)); clear hb2) | (rw [← zTab]; refine wpList_store_mid rfl 194 _ _ rfl w2.heap.size 0 (tabC Gd.noTab) rfl rfl (there_at (heap_alloc_new _ _) noTab_size) (by rw [noTab_size]; exact Tryz.sizeTab) (tabC_one _) ?_; obtain ⟨hbw, hbg⟩ := new_whole2 w2 (tabC Gd.noTab) 194 (tabC Gd.noTab).toList (by rw [Array.length_toList]); generalize (World.setCells _ _ _ _) = w3 at hbw hbg ⊢; have HB3 := Lib.hid (HB2.out.trans (hbw.mono HB2.out.size)); clear hbw hbg))
        go_ret2
        refine ⟨?_, HB3.out⟩
        rw [HR0.out]
        rfl
    · obtain rfl : i = L.length := by omega
      have HR0 : Hid (R = (d, 0)) := Lib.hid (by
        have := HW.out.1
        rw [List.drop_length] at this
        exact this)
      clear hlt
      go_wp2_with fail
      go_ret2
      refine ⟨?_, HB.out⟩
      rw [HR0.out]
      rfl

end Go.Proofs.YtccpdkjonepoiaaGreatDoor

/- Walks: metadata: Walk, place. -/
namespace Go.Proofs.YtccpdkjonepoiaaGreatDoor
open Go.RowKit Go.Shelf

attribute [local go_sem] Oper.semAt_some

theorem pathL_ok {l : List UInt8} {L : List (List UInt8)} (h : Np.pathL l = some L) : (∀ s ∈ L, s ≠ [] ∧ s.length ≤ 1000) ∧ L.length ≤ 1000 := by
  have h1 := (Np.pathL_some h).1
  simp only [Bool.and_eq_true, decide_eq_true_eq, List.all_eq_true] at h1
  refine ⟨fun s hs => ?_, by omega⟩
  have hn := h1.2 s hs
  refine ⟨Np.name_ne hn, ?_⟩
  unfold Np.nameB at hn
  simp only [Bool.and_eq_true, decide_eq_true_eq] at hn
  omega

set_option maxHeartbeats 4000000 in
set_option maxRecDepth 100000 in
theorem mwalk_yes [MemNo] {x t c K : Nat} {S : List UInt8} {M : Gd.Vol} {T : Nat → Gd.Tab} {F : Nat → Prop} (s : ByteArray) (L : List (List UInt8)) (m : Int) (w : World) (h : MetaV x t S M c K w F) (hT : Gd.Tree M T) (hs : s.size ≤ 100000) (hm : w.cell? ⟨0, 0, none⟩ = some (.int .i64 m)) (hp : Np.pathL s.data.toList = some L) :
    Calls Tryz.prog 97 #[.pointer (some ⟨x, 0, none⟩), .string s] w fun e w' => e = .returned (.tuple #[.int .i64 (Gd.walkT M T L 1).1, .int .i64 (Gd.walkT M T L 1).2]) ∧ Below w.heap.size w w' := by
  have HP := Lib.hid (path_yes s L m w hs hm hp)
  have hok := pathL_ok hp
  have HW := Lib.hid fun A cc W (hW : Below w.heap.size w W) (hS : Strs W w.heap.size A L) => walk_any A L cc w.heap.size W (h.below hW) hT hS hok.1 hok.2
  obtain ⟨R, hR⟩ : ∃ R, R = Gd.walkT M T L 1 := ⟨_, rfl⟩
  rw [← hR] at HW ⊢
  clear h hT hs hm hp hok hR
  go_enter Tryz.func97, Tryz.ntmps97
  go_wp2_with fail
  refine HP.out.mono ?_
  rintro e w2 ⟨A, cc, rfl, -, hS2, hb2⟩
  have HW2 := Lib.hid (HW.out A cc w2 hb2 hS2)
  have HB2 := Lib.hid hb2
  clear hS2 hb2 HP HW
  go_wp2_with fail
  refine HW2.out.mono ?_
  rintro e w3 ⟨rfl, hb3⟩
  go_wp2
  go_ret2
  exact ⟨rfl, HB2.out.trans (hb3.mono HB2.out.size)⟩

set_option maxHeartbeats 4000000 in
set_option maxRecDepth 100000 in
theorem mwalk_no (xv : Value) (s : ByteArray) (m : Int) (w : World) (hs : s.size ≤ 100000) (hm : w.cell? ⟨0, 0, none⟩ = some (.int .i64 m)) (hp : Np.pathL s.data.toList = none) :
    Calls Tryz.prog 97 #[xv, .string s] w fun e w' => e = .returned (.tuple #[.int .i64 0, .int .i64 15]) ∧ Below w.heap.size w w' := by
  have HP := Lib.hid (path_no s m w hs hm hp)
  clear hs hm hp
  go_enter Tryz.func97, Tryz.ntmps97
  go_wp2_with fail
  refine HP.out.mono ?_
  rintro e w2 ⟨rfl, hb2⟩
  go_wp2
  go_ret2
  exact ⟨rfl, hb2⟩

set_option maxHeartbeats 4000000 in
set_option maxRecDepth 100000 in
theorem mplace_no (xv : Value) (s : ByteArray) (m : Int) (w : World) (hs : s.size ≤ 100000) (hm : w.cell? ⟨0, 0, none⟩ = some (.int .i64 m)) (hp : Np.pathL s.data.toList = none ∨ Np.pathL s.data.toList = some []) :
    Calls Tryz.prog 98 #[xv, .string s] w fun e w' => e = .returned (.tuple #[.int .i64 0, .string ⟨#[]⟩, .int .i64 15]) ∧ Below w.heap.size w w' := by
  have HP := Lib.hid (parent_no s m w hs hm hp)
  clear hs hm hp
  go_enter Tryz.func98, Tryz.ntmps98
  go_wp2_with fail
  refine HP.out.mono ?_
  rintro e w2 ⟨rfl, hb2⟩
  go_wp2
  go_ret3
  exact ⟨rfl, hb2⟩

namespace Gd
/-- the directory and the name of a path, and an error -/
def placeP (M : Vol) (T : Nat → Tab) (L : List (List UInt8)) (s : List UInt8) : Nat × List UInt8 × Nat :=
  if (walkT M T L 1).2 ≠ 0 then (0, [], (walkT M T L 1).2)
  else if (M.ino (walkT M T L 1).1).k = 2 then ((walkT M T L 1).1, s, 0) else (0, [], 12)
theorem walkT_in {M : Vol} {T : Nat → Tab} (hT : Tree M T) : ∀ (L : List (List UInt8)) (d : Nat), 1 ≤ d → d ≤ 32 → (walkT M T L d).2 = 0 → 1 ≤ (walkT M T L d).1 ∧ (walkT M T L d).1 ≤ 32
  | [], d, h1, h2, _ => ⟨h1, h2⟩
  | s :: r, d, h1, h2, h => by
    unfold walkT at h ⊢
    by_cases hk : (M.ino d).k = 2
    · rw [if_pos hk] at h ⊢
      cases hf : findT (T d) s (hN s) with
      | none =>
        rw [hf] at h
        cases h
      | some j =>
        rw [hf] at h
        have hfe := find_ent hT h1 h2 hk hf
        exact walkT_in hT r _ hfe.1 hfe.2.1 h
    · rw [if_neg hk] at h
      cases h
end Gd

set_option maxHeartbeats 4000000 in
set_option maxRecDepth 100000 in
theorem mplace_yes [MemNo] {x t c K : Nat} {S : List UInt8} {M : Gd.Vol} {T : Nat → Gd.Tab} {F : Nat → Prop} (s : ByteArray) (L : List (List UInt8)) (n : List UInt8) (m : Int) (w : World) (h : MetaV x t S M c K w F) (hT : Gd.Tree M T) (hs : s.size ≤ 100000) (hm : w.cell? ⟨0, 0, none⟩ = some (.int .i64 m)) (hp : Np.pathL s.data.toList = some (L ++ [n])) :
    Calls Tryz.prog 98 #[.pointer (some ⟨x, 0, none⟩), .string s] w fun e w' => e = .returned (.tuple #[.int .i64 (Gd.placeP M T L n).1, .string ⟨(Gd.placeP M T L n).2.1.toArray⟩, .int .i64 (Gd.placeP M T L n).2.2]) ∧ Below w.heap.size w w' := by
  have HP := Lib.hid (parent_yes s L n m w hs hm hp)
  have hok := pathL_ok hp
  have HW := Lib.hid fun A W (hW : Below w.heap.size w W) (hS : Strs W w.heap.size A L) => walk_any A L L.length w.heap.size W (h.below hW) hT hS (fun y hy => hok.1 y (List.mem_append_left _ hy)) (by have := hok.2; rw [List.length_append] at this; omega)
  have hin := Gd.walkT_in hT L 1 (by omega) (by omega)
  have hTd := fun W (hW : Below w.heap.size w W) d h1 h2 hk => tableI_dir W (h.below hW) (hT.dir d h1 h2 hk)
  have hTn := fun W (hW : Below w.heap.size w W) d h1 h2 hk => tableI_not (d := d) W (h.below hW) h1 h2 hk
  have hTl := fun d h1 h2 hk => (hT.dir d h1 h2 hk).ok.len
  obtain ⟨R, hR⟩ : ∃ R, R = Gd.placeP M T L n := ⟨_, rfl⟩
  rw [← hR]
  unfold Gd.placeP at hR
  obtain ⟨d, hd⟩ : ∃ d, d = (Gd.walkT M T L 1).1 := ⟨_, rfl⟩
  obtain ⟨e0, he⟩ : ∃ e0, e0 = (Gd.walkT M T L 1).2 := ⟨_, rfl⟩
  rw [← hd, ← he] at HW hR hin
  have HR := Lib.hid hR
  have Hin := Lib.hid hin
  have HTd := Lib.hid hTd
  have HTn := Lib.hid hTn
  have HTl := Lib.hid hTl
  clear h hT hs hm hp hok hR hd he hin hTd hTn hTl
  go_enter Tryz.func98, Tryz.ntmps98
  go_upto_region 1 with fail
  go_wp2_with fail
  refine HP.out.mono ?_
  rintro e w2 ⟨A, rfl, hS2, hb2⟩
  have HW2 := Lib.hid (HW.out A w2 hb2 hS2)
  have HB2 := Lib.hid hb2
  clear hS2 hb2 HP HW
  go_wp2_with fail
  refine HW2.out.mono ?_
  rintro e w3 ⟨rfl, hb3⟩
  have HB3 := Lib.hid (HB2.out.trans (hb3.mono HB2.out.size))
  clear hb3 HW2
  by_cases h0 : e0 = 0
  · subst h0
    obtain ⟨hd1, hd2⟩ := Hin.out rfl
    have hR := HR.out
    rw [if_neg (by omega)] at hR
    by_cases hk : (M.ino d).k = 2
    · rw [if_pos hk] at hR
      have HR2 := Lib.hid hR
      have HTb := Lib.hid (HTd.out w3 HB3.out d hd1 hd2 hk)
      have HTs := Lib.hid (tabC_size (HTl.out d hd1 hd2 hk))
      obtain ⟨D, hDe⟩ : ∃ D, D = T d := ⟨_, rfl⟩
      rw [← hDe] at HTb HTs
      unfold tabV at HTb
      clear hd1 hd2 hR hk hDe HTd HTn HTl Hin HR
      go_upto_region 8 with (first | (go_at_call 134; refine HTb.out.mono ?_; rintro e w4 ⟨rfl, hb4⟩; have HB4 := Lib.hid (HB3.out.trans (hb4.mono HB3.out.size)); clear hb4) | (rw [← zTab]; refine wpList_store_mid rfl 194 _ _ rfl w4.heap.size 0 (tabC D) rfl rfl (there_at (heap_alloc_new _ _) (by rw [noTab_size, HTs.out])) (by rw [HTs.out]; exact Tryz.sizeTab) (tabC_one _) ?_; obtain ⟨hbw, hbg⟩ := new_whole2 w4 (tabC Gd.noTab) 194 (tabC D).toList (by rw [noTab_size, Array.length_toList, HTs.out]); generalize (World.setCells _ _ _ _) = w5 at hbw hbg ⊢; have HB5 := Lib.hid (HB4.out.trans (hbw.mono HB4.out.size)); clear hbw hbg))
      go_wp2
      go_ret3
      refine ⟨?_, HB5.out⟩
      rw [HR2.out]
      rfl
    · rw [if_neg hk] at hR
      have HR2 := Lib.hid hR
      have HTb := Lib.hid (HTn.out w3 HB3.out d hd1 hd2 hk)
      unfold tabV at HTb
      clear hd1 hd2 hR hk HTd HTn HTl Hin HR
      go_upto_region 8 with (first | (go_at_call 134; refine HTb.out.mono ?_; rintro e w4 ⟨rfl, hb4⟩; have HB4 := Lib.hid (HB3.out.trans (hb4.mono HB3.out.size)); clear hb4) | (rw [← zTab]; refine wpList_store_mid rfl 194 _ _ rfl w4.heap.size 0 (tabC Gd.noTab) rfl rfl (there_at (heap_alloc_new _ _) noTab_size) (by rw [noTab_size]; exact Tryz.sizeTab) (tabC_one _) ?_; obtain ⟨hbw, hbg⟩ := new_whole2 w4 (tabC Gd.noTab) 194 (tabC Gd.noTab).toList (by rw [Array.length_toList]); generalize (World.setCells _ _ _ _) = w5 at hbw hbg ⊢; have HB5 := Lib.hid (HB4.out.trans (hbw.mono HB4.out.size)); clear hbw hbg))
      go_wp2
      go_ret3
      refine ⟨?_, HB5.out⟩
      rw [HR2.out]
      rfl
  · have hR := HR.out
    rw [if_pos h0] at hR
    have HR2 := Lib.hid hR
    have hne : ¬ (e0 : Int) = 0 := by omega
    clear hR h0 HTd HTn HTl Hin HR
    go_wp2
    go_ret3
    refine ⟨?_, HB3.out⟩
    rw [HR2.out]
    rfl

end Go.Proofs.YtccpdkjonepoiaaGreatDoor

/- Walks: metadata: free; inodes that turn in a variable. -/
namespace Go.Proofs.YtccpdkjonepoiaaGreatDoor
open Go.RowKit Go.Shelf

attribute [local go_sem] Oper.semAt_some

set_option maxHeartbeats 8000000 in
set_option maxRecDepth 100000 in
theorem free_ok [MemNo] {x t c K : Nat} {S : List UInt8} {M : Gd.Vol} {F : Nat → Prop} (f : Nat) (w : World) (h : MetaV x t S M c K w F) (h1 : 1 ≤ f) (h2 : f ≤ 32) (hk : (M.ino f).k = 0) (hl : ∀ i, 1 ≤ i → i < f → (M.ino i).k ≠ 0) :
    Calls Tryz.prog 135 #[.pointer (some ⟨x, 0, none⟩)] w fun e w' => e = .returned (.tuple #[.int .i64 f, .int .i64 0]) ∧ Below w.heap.size w w' := by
  have H := Lib.hid h
  have HK := Lib.hid hk
  have HL := Lib.hid hl
  clear h hk hl
  go_enter Tryz.func135, Tryz.ntmps135
  go_upto_region 2 with fail
  go_loopw [7] (fun z wr => ∃ i : Nat, z = .int .i64 i ∧ i + 1 ≤ f ∧ Hid (Below w.heap.size w wr)) (fun z _ => 32 - (intOf z).toNat)
  case atStart => exact ⟨0, rfl, by omega, Lib.hid (Below.refl _ _)⟩
  case round =>
    obtain ⟨i, rfl, hi, HB⟩ := hrel
    have hi1 : (i : Int) < 32 := by omega
    have hi0 : (0 : Int) ≤ i := by omega
    have HIn := Lib.hid (inode_ok ((i : Int) + 1) wr (H.out.below HB.out) (by omega) (by omega))
    have HS : Hid ((inoC (M.ino (i + 1))).size = 15) := Lib.hid (by
      obtain ⟨P, h3, h4⟩ := H.out
      exact inoC_size2 h4 (by omega) (by omega))
    rw [show ((i : Int) + 1).toNat = i + 1 by omega] at HIn
    obtain ⟨y, hy⟩ : ∃ y, y = M.ino (i + 1) := ⟨_, rfl⟩
    rw [← hy] at HIn HS
    have Hy := Lib.hid hy
    unfold inoV at HIn
    clear hy
    go_upto_region 5 with (first | (go_at_call 16; refine HIn.out.mono ?_; rintro e w2 ⟨rfl, hb2⟩; have HB2 := Lib.hid (HB.out.trans (hb2.mono HB.out.size)); clear hb2) | (rw [← zIno_lit]; refine wpList_store_mid rfl 40 _ _ rfl w2.heap.size 0 (inoC y) rfl rfl (there_at (heap_alloc_new _ _) (by rw [zIno_size, HS.out])) (by rw [HS.out]; exact Tryz.sizeIno) (inoC_one _) ?_; obtain ⟨hbw, hbg⟩ := new_whole2 w2 zIno 40 (inoC y).toList (by rw [zIno_size, Array.length_toList, HS.out]); generalize (World.setCells _ _ _ _) = w3 at hbw hbg ⊢; have HN3 : Hid (w3.heap[w2.heap.size]? = some (.cells (inoC y) 40 (0, 0))) := Lib.hid hbg; have HB3 := Lib.hid (HB2.out.trans (hbw.mono HB2.out.size)); clear hbw hbg))
    have n0 : w3.cell? ⟨w2.heap.size, 0, none⟩ = some (.int .i64 y.k) := (cell_of_row w3 w2.heap.size 0 _ _ _ HN3.out).trans (inoC_get rfl)
    by_cases he : i + 1 = f
    · have hk0 : y.k = 0 := by rw [Hy.out, he]; exact HK.out
      rw [hk0] at n0
      have Hfi : Hid ((f : Int) = i + 1) := Lib.hid (by omega)
      clear he hk0
      go_wp2
      go_ret2
      exact ⟨by rw [Hfi.out]; rfl, HB3.out⟩
    · have hk0 : y.k ≠ 0 := by rw [Hy.out]; exact HL.out (i + 1) (by omega) (by omega)
      obtain ⟨k, hkk⟩ : ∃ k, k = y.k := ⟨_, rfl⟩
      rw [← hkk] at n0 hk0
      have hi2 : i + 1 + 1 ≤ f := by omega
      clear he hkk hi
      go_wp2
      go_roundw
      case rel => exact ⟨i + 1, by go_num, by omega, HB3⟩
      case measure => simp [intOf]; omega

namespace Gd
def Ino.setB (x : Ino) (k : Nat) (n : Int) : Ino := { x with B := x.B.set k n }
def Ino.setS (x : Ino) (n : Int) : Ino := { x with s := n }
def Ino.setO (x : Ino) (k : Nat) (n : Int) : Ino := { x with O := x.O.set k n }
def Ino.setL (x : Ino) (n : Int) : Ino := { x with l := n }
theorem Ino.setB_shape {x : Ino} (h : x.Shape) (k : Nat) (n : Int) : (x.setB k n).Shape := ⟨by show (x.B.set k n).length = 4; rw [List.length_set]; exact h.1, h.2⟩
theorem Ino.setS_shape {x : Ino} (h : x.Shape) (n : Int) : (x.setS n).Shape := ⟨h.1, h.2⟩
theorem Ino.setO_shape {x : Ino} (h : x.Shape) (k : Nat) (n : Int) : (x.setO k n).Shape := ⟨h.1, by show (x.O.set k n).length = 8; rw [List.length_set]; exact h.2⟩
theorem Ino.setL_shape {x : Ino} (h : x.Shape) (n : Int) : (x.setL n).Shape := ⟨h.1, h.2⟩
end Gd
theorem inoC_set {x y : Gd.Ino} {j : Nat} {n : Int} (h : inoL y = (inoL x).set j n) : (inoC x).setIfInBounds j (.int .i64 n) = inoC y := by
  rw [← Array.toList_inj, Array.toList_setIfInBounds]
  show ((inoL x).map _).set j _ = (inoL y).map _
  rw [h, List.map_set]
theorem InoAt.turn {w : World} {b : Nat} {x y : Gd.Ino} {j : Nat} {n : Int} (h : InoAt w b x) (hy : y.Shape) (e : inoL y = (inoL x).set j n) : InoAt (w.setCell ⟨b, j, none⟩ (.int .i64 n)) b y :=
  ⟨by rw [← inoC_set e]; exact Go.heap_setCell_same w b j _ _ _ h.row, hy⟩
theorem inoL_setS (x : Gd.Ino) (n : Int) : inoL (x.setS n) = (inoL x).set 2 n := rfl
theorem inoL_setL (x : Gd.Ino) (n : Int) : inoL (x.setL n) = (inoL x).set 1 n := rfl
theorem inoL_setB {x : Gd.Ino} (h : x.Shape) {k : Nat} (hk : k < 4) (n : Int) : inoL (x.setB k n) = (inoL x).set (3 + k) n := by
  show x.k :: x.l :: x.s :: (x.B.set k n ++ x.O) = _
  unfold inoL
  rw [show 3 + k = k + 3 by omega, List.set_cons_succ, List.set_cons_succ, List.set_cons_succ, List.set_append_left _ _ (by rw [h.1]; exact hk)]
theorem inoL_setO {x : Gd.Ino} (h : x.Shape) {k : Nat} (hk : k < 8) (n : Int) : inoL (x.setO k n) = (inoL x).set (7 + k) n := by
  show x.k :: x.l :: x.s :: (x.B ++ x.O.set k n) = _
  unfold inoL
  rw [show 7 + k = (4 + k) + 3 by omega, List.set_cons_succ, List.set_cons_succ, List.set_cons_succ, List.set_append_right _ _ (by rw [h.1]; omega), h.1, show 4 + k - 4 = k by omega]
theorem InoAt.cB {w : World} {b : Nat} {x : Gd.Ino} (h : InoAt w b x) {k : Nat} {n : Int} (hn : x.B[k]? = some n) : w.cell? ⟨b, 3 + k, none⟩ = some (.int .i64 n) ∧ w.frozen? ⟨b, 3 + k, none⟩ = false :=
  ⟨h.blocks k _ (intC_get hn), frozen_of_row w b (3 + k) _ _ h.row⟩
theorem InoAt.cO {w : World} {b : Nat} {x : Gd.Ino} (h : InoAt w b x) {k : Nat} {n : Int} (hn : x.O[k]? = some n) : w.cell? ⟨b, 7 + k, none⟩ = some (.int .i64 n) ∧ w.frozen? ⟨b, 7 + k, none⟩ = false :=
  ⟨h.opens k _ (intC_get hn), frozen_of_row w b (7 + k) _ _ h.row⟩
theorem InoAt.f {w : World} {b : Nat} {x : Gd.Ino} (h : InoAt w b x) (k : Nat) : w.frozen? ⟨b, k, none⟩ = false := frozen_of_row w b k _ _ h.row

end Go.Proofs.YtccpdkjonepoiaaGreatDoor
