/- Walks: files: block. -/
import Derived.Test.YtginffdngphjpaaGreatDoorV19
set_option linter.unusedVariables false
set_option linter.unusedSimpArgs false
namespace Go.Proofs.YtginffdngphjpaaGreatDoor
open Go.RowKit Go.Shelf

attribute [local go_sem] Oper.semAt_some

set_option maxHeartbeats 8000000 in
set_option maxRecDepth 100000 in
theorem fblock_any {x t c K f : Nat} {S : List UInt8} {M : Gd.Vol} {F : Nat → Prop} (n : Nat) (w : World) (h : MetaV x t S M c K w F) (hf : FilAt w f t x) (n1 : 1 ≤ n) (n2 : n ≤ 128) :
    Calls Tryz.prog 57 #[.pointer (some ⟨f, 0, none⟩), .int .i64 n] w fun e w' => e = .returned (.string ⟨(M.blk n).toArray⟩) ∧ Below w.heap.size w w' := by
  obtain ⟨P, h, hG⟩ := h
  have hbk := hG.blk n n1 n2
  have hp := Gd.ptAt_block n1 n2
  have HF := Lib.hid (find_any5 7 n w)
  rw [hp] at HF
  have hpi := ptAt_in hp
  obtain ⟨p, hpe⟩ : ∃ p : Gd.Pt, p = ⟨7, n, Gd.blkAt n, 64⟩ := ⟨_, rfl⟩
  rw [← hpe] at HF hpi
  have hpa : Gd.blkAt n = p.a := by rw [hpe]
  have hps : (64 : Nat) = p.s := by rw [hpe]
  rw [hpa, hps] at hbk
  obtain ⟨L, hL⟩ : ∃ L, L = M.blk n := ⟨_, rfl⟩
  rw [← hL] at hbk ⊢
  have H := Lib.hid h
  have HFi := Lib.hid hf
  have HBk := Lib.hid hbk
  clear h hp hf hG hpe hpa hps hbk hL
  go_enter Tryz.func57, Tryz.ntmps57
  go_wp2_with fail
  refine HF.out.mono ?_
  rintro e w1 ⟨rfl, hb1⟩
  unfold ptO ptV
  have hn := heap_alloc_new w1 (.cells (ptC p) 136)
  have hba := (Below.refl w1.heap.size w1).alloc (Nat.le_refl _) (.cells (ptC p) 136)
  obtain ⟨w2, hw2⟩ : ∃ u, u = w1.alloc (.cells (ptC p) 136) := ⟨_, rfl⟩
  rw [← hw2] at hn hba
  have hb2 : Below w.heap.size w w2 := hb1.trans (hba.mono hb1.size)
  obtain ⟨pb, hpb⟩ : ∃ pb, pb = w1.heap.size := ⟨_, rfl⟩
  rw [← hpb] at hn
  have hdr : Below w.heap.size w w2.drew := hb2.drew
  have H2 := H.out.below hdr
  have hx : FilAt w2.drew f t x := HFi.out.below hdr
  have hnd : w2.drew.heap[pb]? = some (.cells (ptC p) 136 (0, 0)) := hn
  have hs0 : w2.drew.cell? ⟨f, 0, none⟩ = some (.pointer (some ⟨t, 0, none⟩)) ∧ w2.drew.cell? ⟨pb, 2, none⟩ = some (.int .i64 p.a) ∧ w2.drew.cell? ⟨pb, 3, none⟩ = some (.int .i64 p.s) := ⟨hx.cells.1, cell_of_row _ pb 2 _ _ _ hnd, cell_of_row _ pb 3 _ _ _ hnd⟩
  have HLd := Lib.hid (tload_any p.a p.s w2.drew H2.txn (by have := H2.len; omega) (by have := H2.len; omega) (by omega))
  rw [HBk.out] at HLd
  have HTr : Hid (∀ W, Below w2.drew.heap.size w2.drew W → W.cell? ⟨f, 0, none⟩ = some (.pointer (some ⟨t, 0, none⟩)) ∧ W.cell? ⟨pb, 2, none⟩ = some (.int .i64 p.a) ∧ W.cell? ⟨pb, 3, none⟩ = some (.int .i64 p.s)) := Lib.hid fun W hW => ⟨(hW.cell (p := ⟨f, 0, none⟩) (lt_get hx)).trans hs0.1, (hW.cell (p := ⟨pb, 2, none⟩) (lt_get hnd)).trans hs0.2.1, (hW.cell (p := ⟨pb, 3, none⟩) (lt_get hnd)).trans hs0.2.2⟩
  have HD := Lib.hid hdr
  have Hpb := Lib.hid hpb.symm
  have Hw2 := Lib.hid hw2.symm
  unfold ptC at Hw2
  clear hb1 HF hn hba hw2 hb2 hpb hdr H2 hx hnd hpi
  go_upto_region 2 with fail
  rw [Hw2.out, Hpb.out]
  refine wp_region_held_drew (S := (fun W => W.cell? ⟨f, 0, none⟩ = some (.pointer (some ⟨t, 0, none⟩)) ∧ W.cell? ⟨pb, 2, none⟩ = some (.int .i64 p.a) ∧ W.cell? ⟨pb, 3, none⟩ = some (.int .i64 p.s))) (by kernel_rfl) ?_ (fun hHeld => ?_)
  · exact hs0
  refine wpAnyH_take (i := 0) (oi := _) (v := ?_) rfl (by kernel_rfl) (by kernel_rfl) (by kernel_rfl) (fun _ _ _ h => h) (Or.inl ⟨by rfl, ?_⟩) (by assumption) ?_
  rotate_left
  · intro w hSw
    (try dsimp only at hSw)
    first | (go_simp; done) | (go_simp; with_reducible rfl)
  try simp only [List.getElem_toArray, List.getElem_cons_succ, List.getElem_cons_zero, Act.put, List.setIfInBounds_toArray, List.set_cons_zero, List.set_cons_succ]
  refine wpAnyH_take (i := 1) (oi := _) (v := ?_) rfl (by kernel_rfl) (by kernel_rfl) (by kernel_rfl) (fun _ _ _ h => h) (Or.inl ⟨by rfl, ?_⟩) (by assumption) ?_
  rotate_left
  · intro w hSw
    (try dsimp only at hSw)
    first | (go_simp; done) | (go_simp; with_reducible rfl)
  try simp only [List.getElem_toArray, List.getElem_cons_succ, List.getElem_cons_zero, Act.put, List.setIfInBounds_toArray, List.set_cons_zero, List.set_cons_succ]
  refine wpAnyH_take (i := 2) (oi := _) (v := ?_) rfl (by kernel_rfl) (by kernel_rfl) (by kernel_rfl) (fun _ _ _ h => h) (Or.inl ⟨by rfl, ?_⟩) (by assumption) ?_
  rotate_left
  · intro w hSw
    (try dsimp only at hSw)
    first | (go_simp; done) | (go_simp; with_reducible rfl)
  try simp only [List.getElem_toArray, List.getElem_cons_succ, List.getElem_cons_zero, Act.put, List.setIfInBounds_toArray, List.set_cons_zero, List.set_cons_succ]
  refine wpAnyH_take (i := 3) (oi := _) (v := ?_) rfl (by kernel_rfl) (by kernel_rfl) (by kernel_rfl) (fun _ _ _ h => h) (Or.inl ⟨by rfl, ?_⟩) (by assumption) ?_
  rotate_left
  · intro w hSw
    (try dsimp only at hSw)
    first | (go_simp; done) | (go_simp; with_reducible rfl)
  try simp only [List.getElem_toArray, List.getElem_cons_succ, List.getElem_cons_zero, Act.put, List.setIfInBounds_toArray, List.set_cons_zero, List.set_cons_succ]
  refine wpAnyH_take (i := 4) (oi := _) (v := ?_) rfl (by kernel_rfl) (by kernel_rfl) (by kernel_rfl) (fun _ _ _ h => h) (Or.inl ⟨by rfl, ?_⟩) (by assumption) ?_
  rotate_left
  · intro w hSw
    (try dsimp only at hSw)
    first | (go_simp; done) | (go_simp; with_reducible rfl)
  try simp only [List.getElem_toArray, List.getElem_cons_succ, List.getElem_cons_zero, Act.put, List.setIfInBounds_toArray, List.set_cons_zero, List.set_cons_succ]
  refine wpAnyH_take (i := 5) (oi := _) (v := ?_) rfl (by kernel_rfl) (by kernel_rfl) (by kernel_rfl) (fun _ _ _ h => h) (Or.inl ⟨by rfl, ?_⟩) (by assumption) ?_
  rotate_left
  · intro w hSw
    (try dsimp only at hSw)
    first | (go_simp; done) | (go_simp; with_reducible rfl)
  try simp only [List.getElem_toArray, List.getElem_cons_succ, List.getElem_cons_zero, Act.put, List.setIfInBounds_toArray, List.set_cons_zero, List.set_cons_succ]
  refine wpAnyH_take (i := 6) (oi := _) (v := ?_) rfl (by kernel_rfl) (by kernel_rfl) (by kernel_rfl) (fun _ _ _ h => h) (Or.inl ⟨by rfl, ?_⟩) (by assumption) ?_
  rotate_left
  · intro w hSw
    (try dsimp only at hSw)
    first | (go_simp; done) | (go_simp; with_reducible rfl)
  try simp only [List.getElem_toArray, List.getElem_cons_succ, List.getElem_cons_zero, Act.put, List.setIfInBounds_toArray, List.set_cons_zero, List.set_cons_succ]
  refine wpAnyH_take (i := 7) (oi := _) (v := ?_) rfl (by kernel_rfl) (by kernel_rfl) (by kernel_rfl) (fun _ _ _ h => h) (Or.inl ⟨by rfl, ?_⟩) (by assumption) ?_
  rotate_left
  · intro w hSw
    (try dsimp only at hSw)
    first | (go_simp; done) | (go_simp; with_reducible rfl)
  try simp only [List.getElem_toArray, List.getElem_cons_succ, List.getElem_cons_zero, Act.put, List.setIfInBounds_toArray, List.set_cons_zero, List.set_cons_succ]
  refine wpAnyH_ready (rs := [8]) (by kernel_rfl) (by simp) ?_
  refine AllReadyH.cons (o := _) rfl (fun K hK => ?_) AllReadyH.nil
  go_simp
  refine HLd.out.mono ?_
  rintro e w3 ⟨v, rfl, ho, hb⟩
  have HO := Lib.hid ho
  have HB := Lib.hid hb
  have hs3 := HTr.out w3 hb
  clear ho hb
  dsimp only
  refine hK.out _ _ hs3 (fun hHeld => ?_)
  clear hK K
  try simp only [List.getElem_toArray, List.getElem_cons_succ, List.getElem_cons_zero, Act.put, List.setIfInBounds_toArray, List.set_cons_zero, List.set_cons_succ]
  refine wpAnyH_take (i := 9) (oi := _) (v := ?_) rfl (by kernel_rfl) (by kernel_rfl) (by kernel_rfl) (fun _ _ _ h => h) (Or.inl ⟨by rfl, ?_⟩) (by assumption) ?_
  rotate_left
  · intro w hSw
    (try dsimp only at hSw)
    first | (go_simp; done) | (go_simp; with_reducible rfl)
  try simp only [List.getElem_toArray, List.getElem_cons_succ, List.getElem_cons_zero, Act.put, List.setIfInBounds_toArray, List.set_cons_zero, List.set_cons_succ]
  refine wpAnyH_take (i := 10) (oi := _) (v := ?_) rfl (by kernel_rfl) (by kernel_rfl) (by kernel_rfl) (fun _ _ _ h => h) (Or.inl ⟨by rfl, ?_⟩) (by assumption) ?_
  rotate_left
  · intro w hSw
    (try dsimp only at hSw)
    first | (go_simp; done) | (go_simp; with_reducible rfl)
  try simp only [List.getElem_toArray, List.getElem_cons_succ, List.getElem_cons_zero, Act.put, List.setIfInBounds_toArray, List.set_cons_zero, List.set_cons_succ]
  refine wpAnyH_take (i := 11) (oi := _) (v := ?_) rfl (by kernel_rfl) (by kernel_rfl) (by kernel_rfl) (fun _ _ _ h => h) (Or.inl ⟨by rfl, ?_⟩) (by assumption) ?_
  rotate_left
  · intro w hSw
    (try dsimp only at hSw)
    first | (go_simp; done) | (go_simp; with_reducible rfl)
  try simp only [List.getElem_toArray, List.getElem_cons_succ, List.getElem_cons_zero, Act.put, List.setIfInBounds_toArray, List.set_cons_zero, List.set_cons_succ]
  refine wpAnyH_take (i := 12) (oi := _) (v := ?_) rfl (by kernel_rfl) (by kernel_rfl) (by kernel_rfl) (fun _ _ _ h => h) (Or.inl ⟨by rfl, ?_⟩) (by assumption) ?_
  rotate_left
  · intro w hSw
    (try dsimp only at hSw)
    first | (go_simp; done) | (go_simp; with_reducible rfl)
  try simp only [List.getElem_toArray, List.getElem_cons_succ, List.getElem_cons_zero, Act.put, List.setIfInBounds_toArray, List.set_cons_zero, List.set_cons_succ]
  refine wpAnyH_take (i := 13) (oi := _) (v := ?_) rfl (by kernel_rfl) (by kernel_rfl) (by kernel_rfl) (fun _ _ _ h => h) (Or.inl ⟨by rfl, ?_⟩) (by assumption) ?_
  rotate_left
  · intro w hSw
    (try dsimp only at hSw)
    first | (go_simp; done) | (go_simp; with_reducible rfl)
  try simp only [List.getElem_toArray, List.getElem_cons_succ, List.getElem_cons_zero, Act.put, List.setIfInBounds_toArray, List.set_cons_zero, List.set_cons_succ]
  refine wpAnyH_done (by kernel_rfl) ?_ _
  (try simp only [Exit.then])
  clear hs0 hs3 HLd HTr
  have hcv := conv_any v L w3 HO.out.at_
  go_wp2
  go_ret
  exact ⟨rfl, HD.out.trans (HB.out.mono HD.out.size)⟩

end Go.Proofs.YtginffdngphjpaaGreatDoor

/- Walks: files: put. -/
namespace Go.Proofs.YtginffdngphjpaaGreatDoor
open Go.RowKit Go.Shelf

attribute [local go_sem] Oper.semAt_some

theorem ba_same (L M : List UInt8) : ((⟨L.toArray⟩ : ByteArray).toList == (⟨M.toArray⟩ : ByteArray).toList) = decide (L = M) := ba_eq_list L M

set_option maxHeartbeats 8000000 in
set_option maxRecDepth 100000 in
/-- a block is told anew, if it is not the same: one change more at the most -/
theorem fput_any {x t c K f : Nat} {S : List UInt8} {M : Gd.Vol} {F : Nat → Prop} (n : Nat) (L : List UInt8) (w : World) (h : MetaV x t S M c K w F) (hf : FilAt w f t x) (hfF : ¬ F f) (n1 : 1 ≤ n) (n2 : n ≤ 128) (hL : L.length = 64) (hc : c < 64) :
    Calls Tryz.prog 54 #[.pointer (some ⟨f, 0, none⟩), .int .i64 n, .string ⟨L.toArray⟩] w fun e w' => e = .returned (.int .i64 0) ∧ Turns x t S (M.setBlk n L) (c + 1) K F w w' := by
  have HBl := Lib.hid (fblock_any n w h hf n1 n2)
  have HEq := Lib.hid (ba_same (M.blk n) L)
  by_cases hsame : M.blk n = L
  · have hM : M.setBlk n L = M := by
      unfold Gd.Vol.setBlk
      have : (fun j => if j = n then L else M.blk j) = M.blk := funext fun j => by
        by_cases e : j = n
        · subst e
          rw [if_pos rfl, hsame]
        · rw [if_neg e]
      rw [this]
    rw [hM]
    have he := HEq.out
    rw [decide_eq_true hsame] at he
    have H := Lib.hid h
    obtain ⟨a, ha⟩ : ∃ a : ByteArray, a = ⟨(M.blk n).toArray⟩ := ⟨_, rfl⟩
    obtain ⟨b, hb⟩ : ∃ b : ByteArray, b = ⟨L.toArray⟩ := ⟨_, rfl⟩
    rw [← ha] at he HBl
    rw [← hb] at he ⊢
    clear h hf hsame hM HEq ha hb hL
    go_enter Tryz.func54, Tryz.ntmps54
    go_wp2_with fail
    refine HBl.out.mono ?_
    rintro e w1 ⟨rfl, hb1⟩
    go_wp2
    go_ret
    exact ⟨rfl, F, Step.behind hb1 (Step.refl ((H.out.below hb1).more (Nat.le_succ c) (Nat.le_refl K)))⟩
  · have he := HEq.out
    rw [decide_eq_false hsame] at he
    have hp := Gd.ptAt_block n1 n2
    have hpi := ptAt_in hp
    obtain ⟨p, hpe⟩ : ∃ p : Gd.Pt, p = ⟨7, n, Gd.blkAt n, 64⟩ := ⟨_, rfl⟩
    rw [← hpe] at hp hpi
    have hpa : Gd.blkAt n = p.a := by rw [hpe]
    have hps : p.s = 64 := by rw [hpe]
    have HFn := Lib.hid fun W => find_any5 7 n W
    rw [hp] at HFn
    have HGd : Hid (∀ V, Gd.Good V M → Gd.Good (Gd.splice V p.a L) (M.setBlk n L)) := Lib.hid fun V hV => by rw [← hpa]; exact hV.setBlk n1 n2 hL
    have HPi := Lib.hid (And.intro hpi hps)
    obtain ⟨a, ha⟩ : ∃ a : ByteArray, a = ⟨(M.blk n).toArray⟩ := ⟨_, rfl⟩
    obtain ⟨b, hb⟩ : ∃ b : ByteArray, b = ⟨L.toArray⟩ := ⟨_, rfl⟩
    rw [← ha] at he HBl
    rw [← hb] at he ⊢
    have Hb := Lib.hid hb
    obtain ⟨P, h, hG⟩ := h
    have H := Lib.hid h
    have HG := Lib.hid hG
    have HFi := Lib.hid hf
    have HfF := Lib.hid hfF
    have HL := Lib.hid hL
    have HC := Lib.hid hc
    clear h hf hsame HEq ha hb hL hp hpi hpe hpa hps hG hfF hc
    go_enter Tryz.func54, Tryz.ntmps54
    go_wp2_with fail
    refine HBl.out.mono ?_
    rintro e w0 ⟨rfl, hb0⟩
    have HB0 := Lib.hid hb0
    clear hb0 HBl
    go_wp2_with fail
    refine (HFn.out w0).mono ?_
    rintro e w1 ⟨rfl, hb1⟩
    unfold ptO ptV
    have hn := heap_alloc_new w1 (.cells (ptC p) 136)
    have hba := (Below.refl w1.heap.size w1).alloc (Nat.le_refl _) (.cells (ptC p) 136)
    obtain ⟨w2, hw2⟩ : ∃ u, u = w1.alloc (.cells (ptC p) 136) := ⟨_, rfl⟩
    rw [← hw2] at hn hba
    have hb01 : Below w.heap.size w w1 := HB0.out.trans (hb1.mono HB0.out.size)
    have hb2 : Below w.heap.size w w2 := hb01.trans (hba.mono hb01.size)
    obtain ⟨pb, hpb⟩ : ∃ pb, pb = w1.heap.size := ⟨_, rfl⟩
    rw [← hpb] at hn
    have hdr : Below w.heap.size w w2.drew := hb2.drew
    have hx : FilAt w2.drew f t x := HFi.out.below hdr
    have hnd : w2.drew.heap[pb]? = some (.cells (ptC p) 136 (0, 0)) := hn
    obtain ⟨v2, wm, hcv, hbt, hbel, hob, -⟩ := str_bytes w2.drew L
    rw [← Hb.out] at hcv
    have hdm : Below w.heap.size w wm := hdr.trans (hbel.mono hdr.size)
    have H2 := H.out.below hdm
    have hxm : FilAt wm f t x := HFi.out.below hdm
    have hndm := (hbel.block pb (lt_get hnd)).trans hnd
    have hs1 : w2.drew.cell? ⟨f, 0, none⟩ = some (.pointer (some ⟨t, 0, none⟩)) ∧ w2.drew.cell? ⟨pb, 2, none⟩ = some (.int .i64 p.a) := ⟨hx.cells.1, cell_of_row _ pb 2 _ _ _ hnd⟩
    have hs2 : wm.cell? ⟨f, 0, none⟩ = some (.pointer (some ⟨t, 0, none⟩)) ∧ wm.cell? ⟨pb, 2, none⟩ = some (.int .i64 p.a) := ⟨hxm.cells.1, cell_of_row _ pb 2 _ _ _ hndm⟩
    have hpF : ¬ F pb := fun e => by
      have h1 := H.out.tight pb e
      have h2 := hb01.size
      omega
    have HSt := Lib.hid (tstore_any p.a v2 L wm H2.txn hbt (by have := H2.len; have := HPi.out; omega) (by have := H2.len; have := HL.out; have := HPi.out; omega) (by have := HL.out; omega) (by have := H2.light.many; have := HC.out; omega) (fun q hq e => by
      rw [hob] at hq
      cases hq
      have h1 := H.out.tight _ e.1
      have h2 := hdr.size
      omega))
    have HD := Lib.hid hdm
    have Hpb := Lib.hid hpb.symm
    have Hw2 := Lib.hid hw2.symm
    have HTr : Hid (∀ W, Only (Fx x F) wm W → W.cell? ⟨f, 0, none⟩ = some (.pointer (some ⟨t, 0, none⟩)) ∧ W.cell? ⟨pb, 2, none⟩ = some (.int .i64 p.a)) := Lib.hid fun W hW => ⟨(hW.cell (p := ⟨f, 0, none⟩) (lt_get hxm) (fun e => HfF.out e.1)).trans hs2.1, (hW.cell (p := ⟨pb, 2, none⟩) (lt_get hndm) (fun e => hpF e.1)).trans hs2.2⟩
    unfold ptC at Hw2
    clear hb1 HFn hn hba hw2 hb2 hb01 hpb hdr hdm H2 hx hxm hnd hndm hpF hbt hbel hob
    go_upto_region 4 with fail
    rw [Hw2.out, Hpb.out]
    refine wp_region_held_drew (S := (fun W => W.cell? ⟨f, 0, none⟩ = some (.pointer (some ⟨t, 0, none⟩)) ∧ W.cell? ⟨pb, 2, none⟩ = some (.int .i64 p.a))) (by kernel_rfl) ?_ (fun hHeld => ?_)
    · exact hs1
    refine wpAnyH_take (i := 0) (oi := _) (v := ?_) rfl (by kernel_rfl) (by kernel_rfl) (by kernel_rfl) (fun _ _ _ h => h) (Or.inl ⟨by rfl, ?_⟩) (by assumption) ?_
    rotate_left
    · intro w hSw
      (try dsimp only at hSw)
      first | (go_simp; done) | (go_simp; with_reducible rfl)
    try simp only [List.getElem_toArray, List.getElem_cons_succ, List.getElem_cons_zero, Act.put, List.setIfInBounds_toArray, List.set_cons_zero, List.set_cons_succ]
    refine wpAnyH_take (i := 1) (oi := _) (v := ?_) rfl (by kernel_rfl) (by kernel_rfl) (by kernel_rfl) (fun _ _ _ h => h) (Or.inl ⟨by rfl, ?_⟩) (by assumption) ?_
    rotate_left
    · intro w hSw
      (try dsimp only at hSw)
      first | (go_simp; done) | (go_simp; with_reducible rfl)
    try simp only [List.getElem_toArray, List.getElem_cons_succ, List.getElem_cons_zero, Act.put, List.setIfInBounds_toArray, List.set_cons_zero, List.set_cons_succ]
    refine wpAnyH_take (i := 2) (oi := _) (v := ?_) rfl (by kernel_rfl) (by kernel_rfl) (by kernel_rfl) (fun _ _ _ h => h) (Or.inl ⟨by rfl, ?_⟩) (by assumption) ?_
    rotate_left
    · intro w hSw
      (try dsimp only at hSw)
      first | (go_simp; done) | (go_simp; with_reducible rfl)
    try simp only [List.getElem_toArray, List.getElem_cons_succ, List.getElem_cons_zero, Act.put, List.setIfInBounds_toArray, List.set_cons_zero, List.set_cons_succ]
    refine wpAnyH_take (i := 3) (oi := _) (v := ?_) rfl (by kernel_rfl) (by kernel_rfl) (by kernel_rfl) (fun _ _ _ h => h) (Or.inl ⟨by rfl, ?_⟩) (by assumption) ?_
    rotate_left
    · intro w hSw
      (try dsimp only at hSw)
      first | (go_simp; done) | (go_simp; with_reducible rfl)
    try simp only [List.getElem_toArray, List.getElem_cons_succ, List.getElem_cons_zero, Act.put, List.setIfInBounds_toArray, List.set_cons_zero, List.set_cons_succ]
    refine wpAnyH_take (i := 4) (oi := _) (v := ?_) rfl (by kernel_rfl) (by kernel_rfl) (by kernel_rfl) (fun _ _ _ h => h) (Or.inl ⟨by rfl, ?_⟩) (by assumption) ?_
    rotate_left
    · intro w hSw
      (try dsimp only at hSw)
      first | (go_simp; done) | (go_simp; with_reducible rfl)
    try simp only [List.getElem_toArray, List.getElem_cons_succ, List.getElem_cons_zero, Act.put, List.setIfInBounds_toArray, List.set_cons_zero, List.set_cons_succ]
    refine wpAnyH_take (i := 5) (oi := _) (v := ?_) rfl (by kernel_rfl) (by kernel_rfl) (by kernel_rfl) (fun _ _ _ h => h) (Or.inl ⟨by rfl, ?_⟩) (by assumption) ?_
    rotate_left
    · intro w hSw
      (try dsimp only at hSw)
      first | (go_simp; done) | (go_simp; with_reducible rfl)
    try simp only [List.getElem_toArray, List.getElem_cons_succ, List.getElem_cons_zero, Act.put, List.setIfInBounds_toArray, List.set_cons_zero, List.set_cons_succ]
    refine wpAnyH_take (i := 6) (oi := _) (v := ?_) rfl (by kernel_rfl) (by kernel_rfl) (by kernel_rfl) (fun _ _ _ h => h) (Or.inl ⟨by rfl, ?_⟩) (by assumption) ?_
    rotate_left
    · intro w hSw
      (try dsimp only at hSw)
      first | (go_simp; done) | (go_simp; with_reducible rfl)
    try simp only [List.getElem_toArray, List.getElem_cons_succ, List.getElem_cons_zero, Act.put, List.setIfInBounds_toArray, List.set_cons_zero, List.set_cons_succ]
    refine wpAnyH_ready (rs := [7]) (by kernel_rfl) (by simp) ?_
    refine AllReadyH.cons (o := _) rfl (fun K hK => ?_) AllReadyH.nil
    go_simp
    try dsimp only
    refine hK.out _ _ hs2 (fun hHeld => ?_)
    clear hK K
    try simp only [List.getElem_toArray, List.getElem_cons_succ, List.getElem_cons_zero, Act.put, List.setIfInBounds_toArray, List.set_cons_zero, List.set_cons_succ]
    refine wpAnyH_ready (rs := [8]) (by kernel_rfl) (by simp) ?_
    refine AllReadyH.cons (o := _) rfl (fun K hK => ?_) AllReadyH.nil
    go_simp
    refine HSt.out.mono ?_
    rintro e w3 ⟨rfl, hT3, hO3⟩
    have HT3 := Lib.hid hT3
    have HO3 := Lib.hid hO3
    have hs3 := HTr.out w3 hO3
    clear hT3 hO3
    dsimp only
    refine hK.out _ _ hs3 (fun hHeld => ?_)
    clear hK K
    try simp only [List.getElem_toArray, List.getElem_cons_succ, List.getElem_cons_zero, Act.put, List.setIfInBounds_toArray, List.set_cons_zero, List.set_cons_succ]
    refine wpAnyH_take (i := 9) (oi := _) (v := ?_) rfl (by kernel_rfl) (by kernel_rfl) (by kernel_rfl) (fun _ _ _ h => h) (Or.inl ⟨by rfl, ?_⟩) (by assumption) ?_
    rotate_left
    · intro w hSw
      (try dsimp only at hSw)
      first | (go_simp; done) | (go_simp; with_reducible rfl)
    try simp only [List.getElem_toArray, List.getElem_cons_succ, List.getElem_cons_zero, Act.put, List.setIfInBounds_toArray, List.set_cons_zero, List.set_cons_succ]
    refine wpAnyH_done (by kernel_rfl) ?_ _
    (try simp only [Exit.then])
    clear hs1 hs2 hs3 HSt HTr
    go_wp2
    go_ret
    have h1 := HD.out.size
    have h2 := HO3.out.size
    have hxl : x < w3.heap.size := Nat.lt_of_lt_of_le (lt_get H.out.obj) (Nat.le_trans h1 h2)
    have hox : w3.heap[x]? = w.heap[x]? := (HO3.out.block x (Nat.lt_of_lt_of_le (lt_get H.out.obj) h1) fun e => e.2 rfl).trans (HD.out.block x (lt_get H.out.obj))
    refine ⟨rfl, fun k => (F k ∨ w.heap.size ≤ k) ∧ k < w3.heap.size, ⟨P ++ [(p.a, L)], ⟨?_, hox.trans H.out.obj, ⟨Or.inl H.out.inF, hxl⟩, H.out.len, H.out.log, ⟨?_, ?_⟩, fun k hk => hk.2⟩, ?_⟩, ?_, ?_⟩
    · refine (TxnF.held t S _ K).mono HT3.out fun k hk e => ?_
      rcases e with e | e
      · exact ⟨⟨Or.inl e.1, hk⟩, e.2⟩
      · exact ⟨⟨Or.inr (Nat.le_trans h1 e), hk⟩, fun he => by
          have := lt_get H.out.obj
          omega⟩
    · rw [List.length_append]
      have := H.out.light.many
      simp
      omega
    · intro q hq
      rcases List.mem_append.1 hq with e | e
      · exact H.out.light.len q e
      · rw [List.mem_singleton.1 e]
        have := HL.out
        show L.length ≤ 64
        omega
    · rw [Gd.view_snoc]
      exact HGd.out _ HG.out
    · intro k hk e
      rcases e.1 with e | e
      · exact e
      · omega
    · exact (below_only HD.out F).trans (HO3.out.mono fun _ _ e => e.1) fun _ _ e => e

end Go.Proofs.YtginffdngphjpaaGreatDoor

/- Walks: files: Bytes. -/
namespace Go.Proofs.YtginffdngphjpaaGreatDoor
open Go.RowKit Go.Shelf

attribute [local go_sem] Oper.semAt_some

namespace Gd
/-- the bytes of blocks -/
def catB (M : Vol) (B : List Int) : List UInt8 := B.flatMap fun n => if 0 < n then M.blk n.toNat else []
theorem catB_step (M : Vol) {B : List Int} {i : Nat} {n : Int} (h : B[i]? = some n) : catB M (B.take (i + 1)) = catB M (B.take i) ++ (if 0 < n then M.blk n.toNat else []) := by
  unfold catB
  rw [List.take_add_one, h, List.flatMap_append]
  simp
end Gd

set_option maxHeartbeats 8000000 in
set_option maxRecDepth 100000 in
theorem bytes_err {f : Nat} {y : Gd.Ino} {E : Int} (i : Int) (w : World) (hsh : y.Shape) (hE : E ≠ 0) (hf : Calls Tryz.prog 51 #[.pointer (some ⟨f, 0, none⟩), .int .i64 i] w fun e w' => e = .returned (.tuple #[inoV y, .int .i64 E]) ∧ Below w.heap.size w w') :
    Calls Tryz.prog 24 #[.pointer (some ⟨f, 0, none⟩), .int .i64 i] w fun e w' => e = .returned (.tuple #[.string ⟨#[]⟩, .int .i64 E]) ∧ Below w.heap.size w w' := by
  have HF := Lib.hid hf
  have HS := Lib.hid (inoC_size hsh)
  clear hf hsh
  unfold inoV at *
  go_enter Tryz.func24, Tryz.ntmps24
  go_upto_region 2 with (first | (go_at_call 51; refine HF.out.mono ?_; rintro e w2 ⟨rfl, hb2⟩; have HB2 := Lib.hid hb2; clear hb2) | (rw [← zIno_lit]; refine wpList_store_mid rfl 25 _ _ rfl w2.heap.size 0 (inoC y) rfl rfl (there_at (heap_alloc_new _ _) (by rw [zIno_size, HS.out])) (by rw [HS.out]; exact Tryz.sizeIno) (inoC_one _) ?_; obtain ⟨hbw, hbg⟩ := new_whole2 w2 zIno 25 (inoC y).toList (by rw [zIno_size, Array.length_toList, HS.out]); generalize (World.setCells _ _ _ _) = w3 at hbw hbg ⊢; have HB3 := Lib.hid (HB2.out.trans (hbw.mono HB2.out.size)); clear hbw hbg))
  go_wp2
  go_ret2
  exact ⟨rfl, HB3.out⟩

set_option maxHeartbeats 8000000 in
set_option maxRecDepth 100000 in
theorem bytes_ok {x t c K f : Nat} {S : List UInt8} {M : Gd.Vol} {F : Nat → Prop} (i : Nat) (w : World) (h : MetaV x t S M c K w F) (hf : FilAt w f t x) (h1 : 1 ≤ i) (h2 : i ≤ 32) (hE : Gd.fileE M i = 0) (hB : ∀ n ∈ (M.ino i).B, 0 ≤ n ∧ n ≤ 128) (hs0 : 0 ≤ (M.ino i).s) (hs : (M.ino i).s.toNat ≤ (Gd.catB M (M.ino i).B).length) :
    Calls Tryz.prog 24 #[.pointer (some ⟨f, 0, none⟩), .int .i64 i] w fun e w' => e = .returned (.tuple #[.string ⟨((Gd.catB M (M.ino i).B).take (M.ino i).s.toNat).toArray⟩, .int .i64 0]) ∧ Below w.heap.size w w' := by
  have HF := Lib.hid (file_any i w h hf h1 h2)
  rw [hE] at HF
  have HBk := Lib.hid fun n W (hW : Below w.heap.size w W) n1 n2 => fblock_any n W (h.below hW) (hf.below hW) n1 n2
  have hbl : ∀ n, 1 ≤ n → n ≤ 128 → (M.blk n).length = 64 := by
    obtain ⟨P, h3, h4⟩ := h
    exact h4.blkl
  have hsh : (M.ino i).Shape := by
    obtain ⟨P, h3, h4⟩ := h
    exact h4.shape i h1 h2
  obtain ⟨y, hy⟩ : ∃ y, y = M.ino i := ⟨_, rfl⟩
  rw [← hy] at HF hsh hB hs hs0 ⊢
  have HS := Lib.hid (inoC_size hsh)
  have HSh := Lib.hid hsh
  have HB := Lib.hid hB
  have HBl := Lib.hid hbl
  have HL : Hid ((intC y.B).length = 4) := Lib.hid (by rw [intC_len]; exact hsh.1)
  have HLt : Hid (∀ k, k ≤ 4 → (Gd.catB M (y.B.take k)).length ≤ 64 * k) := Lib.hid fun k => by
    induction k with
    | zero =>
      intro _
      rw [List.take_zero]
      exact Nat.zero_le _
    | succ k ih =>
      intro hk
      obtain ⟨n, hg⟩ : ∃ n, y.B[k]? = some n := ⟨_, List.getElem?_eq_getElem (by rw [hsh.1]; omega)⟩
      rw [Gd.catB_step M hg, List.length_append]
      have := ih (by omega)
      by_cases h0 : 0 < n
      · rw [if_pos h0, hbl _ (by omega) (by have := (hB _ (List.mem_of_getElem? hg)).2; omega)]
        omega
      · rw [if_neg h0]
        simp
        omega
  obtain ⟨sz, hsz⟩ : ∃ sz, sz = y.s.toNat := ⟨_, rfl⟩
  have HSz : Hid (y.s = sz) := Lib.hid (by omega)
  rw [← hsz] at hs ⊢
  have Hs := Lib.hid hs
  clear h hf h1 h2 hE hy hsh hB hs0 hs hbl hsz
  unfold inoV at *
  go_enter Tryz.func24, Tryz.ntmps24
  go_upto_region 2 with (first | (go_at_call 51; refine HF.out.mono ?_; rintro e w2 ⟨rfl, hb2⟩; have HB2 := Lib.hid hb2; clear hb2) | (rw [← zIno_lit]; refine wpList_store_mid rfl 25 _ _ rfl w2.heap.size 0 (inoC y) rfl rfl (there_at (heap_alloc_new _ _) (by rw [zIno_size, HS.out])) (by rw [HS.out]; exact Tryz.sizeIno) (inoC_one _) ?_; obtain ⟨hbw, hbg⟩ := new_whole2 w2 zIno 25 (inoC y).toList (by rw [zIno_size, Array.length_toList, HS.out]); generalize (World.setCells _ _ _ _) = w3 at hbw hbg ⊢; have HB3 := Lib.hid (HB2.out.trans (hbw.mono HB2.out.size)); have HN3 : Hid (w3.heap[w2.heap.size]? = some (.cells (inoC y) 25 (0, 0))) := Lib.hid hbg; clear hbw hbg))
  obtain ⟨ib, hib⟩ : ∃ ib, ib = w2.heap.size := ⟨_, rfl⟩
  rw [← hib] at HN3 ⊢
  clear hib
  have HI3 : Hid (InoAt w3 ib y) := Lib.hid ⟨HN3.out, HSh.out⟩
  go_upto_region 6 with (refine wpList_load_mid rfl 22 _ rfl ib 3 rfl (intC y.B) _ HI3.out.blocks Tryz.underlying22 rfl (by rw [HL.out]; exact Tryz.size4) ?_)
  go_loopw [8, 22] (fun u z wr => ∃ (k : Nat) (a : ByteArray), z = .int .i64 k ∧ u = .string a ∧ k ≤ 4 ∧ Hid (a.data.toList = Gd.catB M (y.B.take k)) ∧ Hid (Below w.heap.size w wr) ∧ Hid (InoAt wr ib y)) (fun _ z _ => 4 - (intOf z).toNat)
  case atStart => exact ⟨0, _, rfl, rfl, by omega, Lib.hid (by rw [List.take_zero]; rfl), HB3, HI3⟩
  case round =>
    obtain ⟨k, a, rfl, rfl, hk, HA, HBr, HIr⟩ := hrel
    have HAl : Hid (a.size ≤ 64 * k) := Lib.hid (by rw [Lib.size_eq, HA.out]; exact HLt.out k hk)
    by_cases hlt : k < 4
    · obtain ⟨n, hn⟩ : ∃ n, y.B[k]? = some n := ⟨_, List.getElem?_eq_getElem (by rw [HSh.out.1]; omega)⟩
      have hc := run_index_one 22 3 4 (intC y.B).toArray .i64 .i64 k _ wr Tryz.underlying22 Tryz.underlying3 Tryz.infoInts hlt (by rw [List.getElem?_toArray]; exact intC_get hn)
      have hst := Gd.catB_step M hn
      have hnr := HB.out n (List.mem_of_getElem? hn)
      have h4 : (k : Int) < 4 := by omega
      by_cases h0 : 0 < n
      · obtain ⟨q, rfl⟩ : ∃ q : Nat, n = q := ⟨n.toNat, by omega⟩
        rw [if_pos h0, Int.toNat_natCast] at hst
        have HBc := Lib.hid (HBk.out q wr HBr.out (by omega) (by omega))
        have hbl := HBl.out q (by omega) (by omega)
        obtain ⟨d, hd⟩ : ∃ d : ByteArray, d = ⟨(M.blk q).toArray⟩ := ⟨_, rfl⟩
        rw [← hd] at HBc
        have HSt : Hid ((a ++ d).data.toList = Gd.catB M (y.B.take (k + 1))) := Lib.hid (by rw [ba_app, HA.out, hst, hd])
        have hdl : d.size = 64 := by rw [hd, Lib.size_eq]; exact hbl
        have hal := HAl.out
        clear hn hst hnr hbl hd hlt
        go_wp2_with fail
        refine HBc.out.mono ?_
        rintro e w4 ⟨rfl, hb4⟩
        have HB4 := Lib.hid (HBr.out.trans (hb4.mono HBr.out.size))
        have HI4 := Lib.hid (HIr.out.keep hb4)
        clear hb4
        go_wp2
        go_roundw
        case rel => exact ⟨k + 1, a ++ d, by go_num, rfl, by omega, HSt, HB4, HI4⟩
        case measure => simp [intOf]; omega
      · have HSt : Hid (a.data.toList = Gd.catB M (y.B.take (k + 1))) := Lib.hid (by rw [hst, if_neg h0, List.append_nil]; exact HA.out)
        clear hn hst hnr hlt
        go_wp2_with fail
        go_roundw
        case rel => exact ⟨k + 1, a, by go_num, rfl, by omega, HSt, HBr, HIr⟩
        case measure => simp [intOf]; omega
    · obtain rfl : k = 4 := by omega
      clear hlt
      have ha : a.data.toList = Gd.catB M y.B := by
        have := HA.out
        rw [List.take_of_length_le (by rw [HSh.out.1]; exact Nat.le_refl _)] at this
        exact this
      have HA4 := Lib.hid ha
      have hsl : (sz : Int) ≤ a.size := by
        have := Hs.out
        rw [Lib.size_eq, ha]
        omega
      have b2 := HIr.out.c2
      rw [HSz.out] at b2
      clear ha
      go_wp2_with fail
      go_ret2
      refine ⟨?_, HBr.out⟩
      have he : (⟨((Gd.catB M y.B).take sz).toArray⟩ : ByteArray) = a.extract 0 sz := ba_ext (by rw [ba_head, HA4.out])
      rw [he]
      rfl

end Go.Proofs.YtginffdngphjpaaGreatDoor
