/- Walk: the log's records, one, redone. -/
import Derived.Test.YtccpdkjonepoiaaGreatDoorW07
import Derived.Test.YtccpdkjonepoiaaGreatDoorW00
import Derived.WalkKit
import Derived.Deep.MidRow
set_option linter.unusedVariables false
set_option linter.unusedSimpArgs false
set_option linter.unusedSectionVars false
namespace Go.Proofs.YtccpdkjonepoiaaGreatDoor
open Go.RowKit Go.Shelf

attribute [local go_sem] Oper.semAt_some

theorem recB_pos (P : List Gd.Pa) : 8 ≤ (Gd.recB P).length := by
  have := Gd.up8_ge (6 + Gd.wt P)
  rw [Gd.recB_length]
  omega

set_option maxHeartbeats 4000000 in
set_option maxRecDepth 100000 in
theorem each_redo {g m sb lb ab n K B bm bl : Nat} {S : List UInt8} (P : List Gd.Pa) (w : World) (h : MemAt w m sb lb ab n S K) (hL : LogAt w g m 2688 4096) (hB : LowAt m sb lb ab g B) (hf : Gd.Fit 23168 P) (hP : ∀ p ∈ P, Gd.PaMay p) (hn : P.length ≤ 64) (hS : S.length = 23168) (hR : (Gd.recB P).length ≤ 4088)
    (he : Gd.part S 2688 8 = Gd.le (Gd.recB P).length 8) (hr : Gd.part S 2696 (Gd.recB P).length = Gd.recB P)
    (hbm : CellsAt w bm 3 #[.int .i64 0]) (hbl : CellsAt w bl 102 #[.pointer (some ⟨g, 0, none⟩)]) (hm : B ≤ bm ∧ B ≤ bl ∧ bl ≠ bm) (hK : K < 800000000000) :
    Calls Tryz.prog 85 #[.pointer (some ⟨g, 0, none⟩), .func (.func 86) #[] #[.pointer (some ⟨bm, 0, none⟩), .pointer (some ⟨bl, 0, none⟩)]] w fun e w' => e = .returned (.int .i64 (Gd.recB P).length) ∧ MemAt w' m sb lb ab n (Gd.view S P) (K + 20000 * P.length) ∧ Only (fun k => Mem3 sb lb ab k ∨ k = bm) w w' ∧ CellsAt w' bm 3 #[.int .i64 1] := by
  have hbd := (Below.refl w.heap.size w).drew
  have hMd := h.below hbd
  have hLd : LogAt w.drew g m 2688 4096 := (hbd.block g (lt_get hL)).trans hL
  have hpos := recB_pos P
  obtain ⟨R, hRe⟩ : ∃ R, R = Gd.recB P := ⟨_, rfl⟩
  rw [← hRe] at hR he hr hpos ⊢
  obtain ⟨l, hl⟩ : ∃ l, l = R.length := ⟨_, rfl⟩
  rw [← hl] at hR he hr hpos ⊢
  have HE := Lib.hid (end_any (N := l) hR w.drew hMd.toF hLd hS he)
  have HLo : Hid (∀ W, Below w.drew.heap.size w.drew W → Calls Tryz.prog 18 #[.pointer (some ⟨m, 0, none⟩), .int .i64 2696, .int .i64 l] W (Loads W R)) := Lib.hid fun W hb => by
    have := mload_any 2696 l W (hMd.below hb).toF (by omega) (by omega)
    rw [hr] at this
    exact this
  have hs0 : w.drew.cell? ⟨g, 0, none⟩ = some (.pointer (some ⟨m, 0, none⟩)) ∧ w.drew.cell? ⟨g, 1, none⟩ = some (.int .i64 2688) := ⟨(cell2 hLd).1, (cell2 hLd).2.1⟩
  have HT : Hid (∀ W, Below w.drew.heap.size w.drew W → W.cell? ⟨g, 0, none⟩ = some (.pointer (some ⟨m, 0, none⟩)) ∧ W.cell? ⟨g, 1, none⟩ = some (.int .i64 2688)) := Lib.hid fun W hb => ⟨(hb.cell (p := ⟨g, 0, none⟩) (lt_get hLd)).trans hs0.1, (hb.cell (p := ⟨g, 1, none⟩) (lt_get hLd)).trans hs0.2⟩
  have HM := Lib.hid h
  have HL := Lib.hid hL
  have HB := Lib.hid hB
  have HP := Lib.hid (And.intro hf (And.intro hP (And.intro hn hS)))
  have Hbm := Lib.hid hbm
  have Hbl := Lib.hid hbl
  have Hm := Lib.hid hm
  have HK := Lib.hid hK
  have HBd := Lib.hid hbd
  have HRe := Lib.hid hRe
  have Hl := Lib.hid hl
  have HWd := Lib.hid (show w.drew.heap.size = w.heap.size from rfl)
  have HV : Hid (w.heap.size ≤ w.drew.heap.size) := Lib.hid hbd.size
  have hl4 : (l : Int) ≤ 4088 := by omega
  clear h hL hB hf hP hn hS hbm hbl hm hK hbd hMd hLd hRe hl he hr
  go_enter Tryz.func85, Tryz.ntmps85
  go_upto_region 1 with fail
  refine wp_region_held_drew (S := (fun W => W.cell? ⟨g, 0, none⟩ = some (.pointer (some ⟨m, 0, none⟩)) ∧ W.cell? ⟨g, 1, none⟩ = some (.int .i64 2688))) (by kernel_rfl) ?_ (fun hHeld => ?_)
  · exact hs0
  refine wpAnyH_take (i := 0) (oi := _) (v := ?_) rfl (by kernel_rfl) (by kernel_rfl) (by kernel_rfl) (fun _ _ _ h => h) (Or.inl ⟨by rfl, ?_⟩) (by assumption) ?_
  rotate_left
  · intro w hSw
    (try dsimp only at hSw)
    first | (go_simp; done) | (go_simp; with_reducible rfl)
  try simp only [List.getElem_toArray, List.getElem_cons_succ, List.getElem_cons_zero, Act.put, List.setIfInBounds_toArray, List.set_cons_zero, List.set_cons_succ]
  refine wpAnyH_take (i := 1) (oi := _) (v := ?_) rfl (by kernel_rfl) (by kernel_rfl) (by kernel_rfl) (fun _ _ _ h => h) (Or.inl ⟨by rfl, ?_⟩) (by assumption) ?_
  rotate_left
  · intro w hSw
    (try dsimp only at hSw)
    first | (go_simp; done) | (go_simp; with_reducible rfl)
  try simp only [List.getElem_toArray, List.getElem_cons_succ, List.getElem_cons_zero, Act.put, List.setIfInBounds_toArray, List.set_cons_zero, List.set_cons_succ]
  refine wpAnyH_take (i := 2) (oi := _) (v := ?_) rfl (by kernel_rfl) (by kernel_rfl) (by kernel_rfl) (fun _ _ _ h => h) (Or.inl ⟨by rfl, ?_⟩) (by assumption) ?_
  rotate_left
  · intro w hSw
    (try dsimp only at hSw)
    first | (go_simp; done) | (go_simp; with_reducible rfl)
  try simp only [List.getElem_toArray, List.getElem_cons_succ, List.getElem_cons_zero, Act.put, List.setIfInBounds_toArray, List.set_cons_zero, List.set_cons_succ]
  refine wpAnyH_take (i := 3) (oi := _) (v := ?_) rfl (by kernel_rfl) (by kernel_rfl) (by kernel_rfl) (fun _ _ _ h => h) (Or.inl ⟨by rfl, ?_⟩) (by assumption) ?_
  rotate_left
  · intro w hSw
    (try dsimp only at hSw)
    first | (go_simp; done) | (go_simp; with_reducible rfl)
  try simp only [List.getElem_toArray, List.getElem_cons_succ, List.getElem_cons_zero, Act.put, List.setIfInBounds_toArray, List.set_cons_zero, List.set_cons_succ]
  refine wpAnyH_take (i := 4) (oi := _) (v := ?_) rfl (by kernel_rfl) (by kernel_rfl) (by kernel_rfl) (fun _ _ _ h => h) (Or.inl ⟨by rfl, ?_⟩) (by assumption) ?_
  rotate_left
  · intro w hSw
    (try dsimp only at hSw)
    first | (go_simp; done) | (go_simp; with_reducible rfl)
  try simp only [List.getElem_toArray, List.getElem_cons_succ, List.getElem_cons_zero, Act.put, List.setIfInBounds_toArray, List.set_cons_zero, List.set_cons_succ]
  refine wpAnyH_take (i := 5) (oi := _) (v := ?_) rfl (by kernel_rfl) (by kernel_rfl) (by kernel_rfl) (fun _ _ _ h => h) (Or.inl ⟨by rfl, ?_⟩) (by assumption) ?_
  rotate_left
  · intro w hSw
    (try dsimp only at hSw)
    first | (go_simp; done) | (go_simp; with_reducible rfl)
  try simp only [List.getElem_toArray, List.getElem_cons_succ, List.getElem_cons_zero, Act.put, List.setIfInBounds_toArray, List.set_cons_zero, List.set_cons_succ]
  refine wpAnyH_take (i := 6) (oi := _) (v := ?_) rfl (by kernel_rfl) (by kernel_rfl) (by kernel_rfl) (fun _ _ _ h => h) (Or.inl ⟨by rfl, ?_⟩) (by assumption) ?_
  rotate_left
  · intro w hSw
    (try dsimp only at hSw)
    first | (go_simp; done) | (go_simp; with_reducible rfl)
  try simp only [List.getElem_toArray, List.getElem_cons_succ, List.getElem_cons_zero, Act.put, List.setIfInBounds_toArray, List.set_cons_zero, List.set_cons_succ]
  refine wpAnyH_take (i := 7) (oi := _) (v := ?_) rfl (by kernel_rfl) (by kernel_rfl) (by kernel_rfl) (fun _ _ _ h => h) (Or.inl ⟨by rfl, ?_⟩) (by assumption) ?_
  rotate_left
  · intro w hSw
    (try dsimp only at hSw)
    first | (go_simp; done) | (go_simp; with_reducible rfl)
  try simp only [List.getElem_toArray, List.getElem_cons_succ, List.getElem_cons_zero, Act.put, List.setIfInBounds_toArray, List.set_cons_zero, List.set_cons_succ]
  refine wpAnyH_take (i := 8) (oi := _) (v := ?_) rfl (by kernel_rfl) (by kernel_rfl) (by kernel_rfl) (fun _ _ _ h => h) (Or.inl ⟨by rfl, ?_⟩) (by assumption) ?_
  rotate_left
  · intro w hSw
    (try dsimp only at hSw)
    first | (go_simp; done) | (go_simp; with_reducible rfl)
  try simp only [List.getElem_toArray, List.getElem_cons_succ, List.getElem_cons_zero, Act.put, List.setIfInBounds_toArray, List.set_cons_zero, List.set_cons_succ]
  refine wpAnyH_take (i := 9) (oi := _) (v := ?_) rfl (by kernel_rfl) (by kernel_rfl) (by kernel_rfl) (fun _ _ _ h => h) (Or.inl ⟨by rfl, ?_⟩) (by assumption) ?_
  rotate_left
  · intro w hSw
    (try dsimp only at hSw)
    first | (go_simp; done) | (go_simp; with_reducible rfl)
  try simp only [List.getElem_toArray, List.getElem_cons_succ, List.getElem_cons_zero, Act.put, List.setIfInBounds_toArray, List.set_cons_zero, List.set_cons_succ]
  refine wpAnyH_ready (rs := [10]) (by kernel_rfl) (by simp) ?_
  refine AllReadyH.cons (o := _) rfl (fun K hK => ?_) AllReadyH.nil
  go_simp
  refine HE.out.mono ?_
  rintro e w1 ⟨rfl, hb1⟩
  have HB1 := Lib.hid hb1
  have hs1 := HT.out w1 hb1
  clear hb1
  dsimp only
  refine hK.out _ _ hs1 (fun hHeld => ?_)
  clear hK K
  try simp only [List.getElem_toArray, List.getElem_cons_succ, List.getElem_cons_zero, Act.put, List.setIfInBounds_toArray, List.set_cons_zero, List.set_cons_succ]
  refine wpAnyH_ready (rs := [11]) (by kernel_rfl) (by simp) ?_
  refine AllReadyH.cons (o := _) rfl (fun K hK => ?_) AllReadyH.nil
  go_simp
  refine (HLo.out w1 HB1.out).mono ?_
  rintro e w2 ⟨v2, rfl, ho2, hb2⟩
  have HO2 := Lib.hid ho2
  have HB2 := Lib.hid (HB1.out.trans (hb2.mono HB1.out.size))
  have hs2 := HT.out w2 HB2.out
  clear ho2 hb2
  dsimp only
  refine hK.out _ _ hs2 (fun hHeld => ?_)
  clear hK K
  try simp only [List.getElem_toArray, List.getElem_cons_succ, List.getElem_cons_zero, Act.put, List.setIfInBounds_toArray, List.set_cons_zero, List.set_cons_succ]
  refine wpAnyH_take (i := 12) (oi := _) (v := ?_) rfl (by kernel_rfl) (by kernel_rfl) (by kernel_rfl) (fun _ _ _ h => h) (Or.inl ⟨by rfl, ?_⟩) (by assumption) ?_
  rotate_left
  · intro w hSw
    (try dsimp only at hSw)
    first | (go_simp; done) | (go_simp; with_reducible rfl)
  try simp only [List.getElem_toArray, List.getElem_cons_succ, List.getElem_cons_zero, Act.put, List.setIfInBounds_toArray, List.set_cons_zero, List.set_cons_succ]
  refine wpAnyH_take (i := 13) (oi := _) (v := ?_) rfl (by kernel_rfl) (by kernel_rfl) (by kernel_rfl) (fun _ _ _ h => h) (Or.inl ⟨by rfl, ?_⟩) (by assumption) ?_
  rotate_left
  · intro w hSw
    (try dsimp only at hSw)
    first | (go_simp; done) | (go_simp; with_reducible rfl)
  try simp only [List.getElem_toArray, List.getElem_cons_succ, List.getElem_cons_zero, Act.put, List.setIfInBounds_toArray, List.set_cons_zero, List.set_cons_succ]
  refine wpAnyH_take (i := 14) (oi := _) (v := ?_) rfl (by kernel_rfl) (by kernel_rfl) (by kernel_rfl) (fun _ _ _ h => h) (Or.inl ⟨by rfl, ?_⟩) (by assumption) ?_
  rotate_left
  · intro w hSw
    (try dsimp only at hSw)
    first | (go_simp; done) | (go_simp; with_reducible rfl)
  try simp only [List.getElem_toArray, List.getElem_cons_succ, List.getElem_cons_zero, Act.put, List.setIfInBounds_toArray, List.set_cons_zero, List.set_cons_succ]
  refine wpAnyH_take (i := 15) (oi := _) (v := ?_) rfl (by kernel_rfl) (by kernel_rfl) (by kernel_rfl) (fun _ _ _ h => h) (Or.inl ⟨by rfl, ?_⟩) (by assumption) ?_
  rotate_left
  · intro w hSw
    (try dsimp only at hSw)
    first | (go_simp; done) | (go_simp; with_reducible rfl)
  try simp only [List.getElem_toArray, List.getElem_cons_succ, List.getElem_cons_zero, Act.put, List.setIfInBounds_toArray, List.set_cons_zero, List.set_cons_succ]
  refine wpAnyH_take (i := 16) (oi := _) (v := ?_) rfl (by kernel_rfl) (by kernel_rfl) (by kernel_rfl) (fun _ _ _ h => h) (Or.inl ⟨by rfl, ?_⟩) (by assumption) ?_
  rotate_left
  · intro w hSw
    (try dsimp only at hSw)
    first | (go_simp; done) | (go_simp; with_reducible rfl)
  try simp only [List.getElem_toArray, List.getElem_cons_succ, List.getElem_cons_zero, Act.put, List.setIfInBounds_toArray, List.set_cons_zero, List.set_cons_succ]
  refine wpAnyH_done (by kernel_rfl) ?_ _
  (try simp only [Exit.then])
  clear hs0 hs1 hs2 HE HLo
  have HW2 : Hid (Below w.heap.size w w2) := Lib.hid (HBd.out.trans (HB2.out.mono HBd.out.size))
  have HDe := Lib.hid (by
    have h1 := HO2.out.mono (C := 0) (Nat.zero_le _)
    rw [HRe.out] at h1
    have := decode_any v2 P 0 w2 h1 HP.out.2.1 HP.out.2.2.1
    rw [← HRe.out, ← Hl.out] at this
    exact this)
  obtain ⟨A2, c2, hv2, hA2⟩ := HO2.out.at_
  have hcap : l ≤ c2 := by
    rcases HO2.out.2 with ⟨_, h0⟩ | ⟨_, cap, _, e, _, _, hc, _⟩
    · have := Hl.out; omega
    · rw [e] at hv2
      cases hv2
      have := Hl.out
      omega
  rw [← Hl.out] at hv2
  obtain ⟨b2, o2, rfl⟩ : ∃ b o, A2 = some ⟨b, o, none⟩ := by
    rcases hA2 with ⟨_, h0, _⟩ | ⟨b, o, e, _⟩
    · have := Hl.out
      rw [h0] at this
      simp at this
      omega
    · exact ⟨b, o, e⟩
  subst hv2
  have hl8 : (8 : Int) ≤ l := by omega
  have hcap2 : (l : Int) ≤ c2 := by omega
  clear hA2 HO2
  (first | (refine (by assumption : ∀ (a : Act) (w : World), _) _ _ ?_) | skip)
  go_upto_region 3 with fail
  go_loopw [5, 7] (fun y u wx => (y = .slice (some ⟨b2, o2, none⟩) l c2 ∧ u = .int .i64 0 ∧ wx = w2) ∨ (∃ A c, y = .slice A 0 c ∧ u = .int .i64 l ∧ Hid (MemAt wx m sb lb ab n (Gd.view S P) (K + 20000 * P.length) ∧ Only (fun k => Mem3 sb lb ab k ∨ k = bm) w wx ∧ CellsAt wx bm 3 #[.int .i64 1]))) (fun _ u _ => l - (intOf u).toNat)
  case atStart => exact Or.inl ⟨rfl, rfl, rfl⟩
  case round =>
    rcases hrel with ⟨rfl, rfl, rfl⟩ | ⟨A, c, rfl, rfl, HX⟩
    · go_wp2_with fail
      refine HDe.out.mono ?_
      rintro e w3 ⟨u, rfl, hu, hb3⟩
      have HB3 := Lib.hid (HW2.out.trans (hb3.mono HW2.out.size))
      have HM3 := Lib.hid (HM.out.below HB3.out)
      obtain ⟨A3, c3, rfl, hA3⟩ := row_pa hu
      have HRd := Lib.hid (redo1_at (c := 0) (.slice A3 P.length c3) P w3 HM3.out ((HB3.out.block g (lt_get HL.out)).trans HL.out) HB.out ⟨A3, c3, rfl, hA3⟩ (fun q hq => by
        have h1 := (own_block hu q hq).1
        have h2 := HW2.out.size
        have h3 := Hbm.out.lt
        have h4 := HM.out.lts
        have h5 := Hbl.out.lt
        have h6 := Hm.out
        omega) (by rw [HP.out.2.2.2]; exact HP.out.1) (fun p hp => (HP.out.2.1 p hp).2) HP.out.2.2.1 ((HB3.out.block bm Hbm.out.lt).trans Hbm.out) ((HB3.out.block bl Hbl.out.lt).trans Hbl.out) Hm.out (by omega) HK.out)
      clear hu hb3 hA3 HDe
      go_wp2_with fail
      refine HRd.out.mono ?_
      rintro e w4 ⟨rfl, hM4, hO4, hC4⟩
      have HX : Hid (MemAt w4 m sb lb ab n (Gd.view S P) (K + 20000 * P.length) ∧ Only (fun k => Mem3 sb lb ab k ∨ k = bm) w w4 ∧ CellsAt w4 bm 3 #[.int .i64 1]) := Lib.hid ⟨hM4, (below_only HB3.out _).trans hO4 fun _ _ e => e, hC4⟩
      clear hM4 hO4 hC4 HRd
      by_cases hce : l = c2
      · subst hce
        go_wp2
        go_roundw
        case rel => exact Or.inr ⟨_, _, rfl, rfl, HX⟩
        case measure => simp [intOf]; omega
      · have hce' : (l : Int) < c2 := by omega
        go_wp2
        go_roundw
        case rel => exact Or.inr ⟨_, _, rfl, rfl, HX⟩
        case measure => simp [intOf]; omega
    · go_wp2
      go_ret
      exact ⟨rfl, HX.out⟩

end Go.Proofs.YtccpdkjonepoiaaGreatDoor

/- Walk: plog.Redo; txn.Commit. -/
namespace Go.Proofs.YtccpdkjonepoiaaGreatDoor
open Go.RowKit Go.Shelf

attribute [local go_sem] Oper.semAt_some

set_option maxHeartbeats 4000000 in
set_option maxRecDepth 100000 in
theorem redo_at {g m sb lb ab n K : Nat} {S : List UInt8} (P : List Gd.Pa) (w : World) (h : MemAt w m sb lb ab n S K) (hL : LogAt w g m 2688 4096) (hf : Gd.Fit 23168 P) (hP : ∀ p ∈ P, Gd.PaMay p) (hn : P.length ≤ 64) (hS : S.length = 23168) (hR : (Gd.recB P).length ≤ 4088)
    (he : Gd.part S 2688 8 = Gd.le (Gd.recB P).length 8) (hr : Gd.part S 2696 (Gd.recB P).length = Gd.recB P) (hK : K < 700000000000) :
    Calls Tryz.prog 44 #[.pointer (some ⟨g, 0, none⟩)] w fun e w' => e = .returned (.int .i64 1) ∧ MemAt w' m sb lb ab n (Gd.splice (Gd.view S P) 2688 (List.replicate 8 0)) (K + 20000 * P.length + 20000) ∧ Only (Mem3 sb lb ab) w w' := by
  obtain ⟨w0, hw0⟩ : ∃ u, u = (w.alloc (.cells #[.pointer (some ⟨g, 0, none⟩)] 102)).alloc (.cells #[.int .i64 0] 3) := ⟨_, rfl⟩
  have hb0 : Below w.heap.size w w0 := by rw [hw0]; exact ((Below.refl _ _).alloc (Nat.le_refl _) _).alloc (by simp) _
  have hbl : CellsAt w0 w.heap.size 102 #[.pointer (some ⟨g, 0, none⟩)] := by rw [hw0]; exact CellsAt.alloc (heap_alloc_new w _) _
  have hbm : CellsAt w0 (w.heap.size + 1) 3 #[.int .i64 0] := by
    have := heap_alloc_new (w.alloc (.cells #[.pointer (some ⟨g, 0, none⟩)] 102)) (.cells #[.int .i64 0] 3)
    rw [World.size_alloc] at this
    rw [hw0]
    exact this
  obtain ⟨bl, hble⟩ : ∃ bl, bl = w.heap.size := ⟨_, rfl⟩
  have hM0 := h.below hb0
  have hL0 : LogAt w0 g m 2688 4096 := (hb0.block g (lt_get hL)).trans hL
  have hlow : LowAt m sb lb ab g bl := by
    have h1 := h.lts m (by simp)
    have h2 := h.lts sb (by simp)
    have h3 := h.lts lb (by simp)
    have h4 := h.lts ab (by simp)
    have h5 := lt_get hL
    rw [hble]
    exact ⟨h1, h2, h3, h4, h5⟩
  rw [← hble] at hbl hbm
  have HEa := Lib.hid (each_redo P w0 hM0 hL0 hlow hf hP hn hS hR he hr hbm hbl (by omega) (by omega))
  have HSv : Hid ((Gd.view S P).length = 23168) := Lib.hid (by rw [Gd.view_length (by rw [hS]; exact hf)]; exact hS)
  have HK : Hid (P.length ≤ 64 ∧ K < 700000000000) := Lib.hid ⟨hn, hK⟩
  have HW0 := Lib.hid hw0
  have HB0 := Lib.hid hb0
  have Hbl := Lib.hid hbl
  have HL0 := Lib.hid hL0
  have HM0 := Lib.hid hM0
  have HLo := Lib.hid hlow
  have HBe := Lib.hid hble.symm
  have l0 := cell_of_row w0 bl 0 _ _ _ hbl
  clear h hL hf hP hn hS hR he hr hK hw0 hb0 hbl hbm hble hM0 hL0 hlow
  go_enter Tryz.func44, Tryz.ntmps44
  go_upto_region 2 with fail
  rw [← HW0.out, HBe.out]
  go_wp2_with fail
  refine HEa.out.mono ?_
  rintro e w1 ⟨rfl, hM1, hO1, hC1⟩
  have HNb : Hid (¬ (Mem3 sb lb ab bl ∨ bl = bl + 1)) := Lib.hid (by
    rintro (e | e)
    · exact HLo.out.mem3 (Nat.le_refl _) e
    · omega)
  have HM1 := Lib.hid hM1
  have HO1 := Lib.hid hO1
  have HC1 := Lib.hid hC1
  have l1 := cell_of_row w1 bl 0 _ _ _ ((hO1.block bl Hbl.out.lt HNb.out).trans Hbl.out)
  have HL1 := Lib.hid (HL0.out.keep hO1 (by
    rintro (e | e)
    · exact HL0.out.apart HM0.out e
    · have := HLo.out.g; omega))
  obtain ⟨g1, -, -⟩ := cell2 HL1.out
  clear hM1 hO1 hC1 HEa l0
  go_wp2_with fail
  refine (fence_at w1 HM1.out).mono ?_
  rintro e w2 ⟨rfl, hM2, hO2⟩
  have HO2 := Lib.hid (HO1.out.trans (hO2.mono (G := fun k => Mem3 sb lb ab k ∨ k = bl + 1) fun k _ e => Or.inl (e.elim (fun e => Or.inr (Or.inl e)) fun e => Or.inr (Or.inr e))) fun _ _ e => e)
  have HM2 := Lib.hid hM2
  have l2 := cell_of_row w2 bl 0 _ _ _ ((HO2.out.block bl Hbl.out.lt HNb.out).trans Hbl.out)
  have HL2 := Lib.hid (HL0.out.keep HO2.out (by
    rintro (e | e)
    · exact HL0.out.apart HM0.out e
    · have := HLo.out.g; omega))
  have HC2 : Hid (CellsAt w2 (bl + 1) 3 #[.int .i64 1]) := Lib.hid ((hO2.block _ HC1.out.lt (by
    rintro (e | e)
    · have := HLo.out.lb; omega
    · have := HLo.out.ab; omega)).trans HC1.out)
  clear hM2 hO2 HM1 HO1 HC1 HL1 l1 g1
  go_wp2_with fail
  refine (clear_at w2 HM2.out HL2.out HSv.out (by have := HK.out; omega)).mono ?_
  rintro e w3 ⟨rfl, hM3, hO3⟩
  have HM3 := Lib.hid hM3
  have l3 := cell_of_row w3 (bl + 1) 0 _ _ _ ((hO3.block _ HC2.out.lt (HLo.out.mem3 (by omega))).trans HC2.out)
  have HO3 := Lib.hid (HO2.out.trans (hO3.mono (G := fun k => Mem3 sb lb ab k ∨ k = bl + 1) fun k _ e => Or.inl e) fun _ _ e => e)
  clear hM3 hO3 l2
  go_wp2
  go_ret
  refine ⟨rfl, HM3.out, ?_⟩
  refine ⟨HO3.out.os.trans HB0.out.os, HO3.out.tape.trans HB0.out.tape, HO3.out.output.trans HB0.out.output, Nat.le_trans HB0.out.size HO3.out.size, fun k hk hnk => ?_⟩
  refine (HO3.out.block k (Nat.lt_of_lt_of_le hk HB0.out.size) ?_).trans (HB0.out.block k hk)
  rintro (e | e)
  · exact hnk e
  · have := HBe.out; omega

/-- a record of changes that may be, and what it weighs -/
structure PaLight (P : List Gd.Pa) (c : Nat) : Prop where
  many : P.length ≤ c
  len : ∀ p ∈ P, p.2.length ≤ 64
theorem wt_light : ∀ {P : List Gd.Pa}, (∀ p ∈ P, p.2.length ≤ 64) → Gd.wt P ≤ 70 * P.length
  | [], _ => Nat.zero_le _
  | p :: r, h => by
    have h1 := wt_light (P := r) fun q hq => h q (List.mem_cons_of_mem _ hq)
    have h2 := h p (List.mem_cons_self ..)
    unfold Gd.wt Gd.pasB at *
    rw [List.flatMap_cons, List.length_append, Gd.paB_length, List.length_cons]
    omega
theorem PaLight.wt {P : List Gd.Pa} {c : Nat} (h : PaLight P c) : Gd.wt P ≤ 70 * P.length := wt_light h.len
theorem PaLight.fits {P : List Gd.Pa} (h : PaLight P 57) : (Gd.recB P).length ≤ 4088 := by
  have h1 := h.wt
  have h2 := h.many
  have h3 := Gd.up8_ge (6 + Gd.wt P)
  rw [Gd.recB_length]
  unfold Gd.up8 at *
  omega

set_option maxHeartbeats 4000000 in
set_option maxRecDepth 100000 in
theorem commit_any [MemNo] {t K : Nat} {S : List UInt8} {P : List Gd.Pa} {F : Nat → Prop} (w : World) (h : TxnF t S P K w F) (hl : PaLight P 57) (hS : S.length = 23168) (he : Gd.part S 2688 8 = Gd.le 0 8) (hK : K < 600000000000) :
    Calls Tryz.prog 49 #[.pointer (some ⟨t, 0, none⟩)] w fun e w' => e = .returned (.int .i64 0) ∧ (∃ S', S'.length = 23168 ∧ Gd.part S' 2688 8 = Gd.le 0 8 ∧ (∀ i, i < 2688 ∨ 6784 ≤ i → S'[i]? = (Gd.view S P)[i]?) ∧ TxnF t S' [] (K + 2000000) w' F) ∧ Only F w w' := by
  by_cases h0 : P = []
  · subst h0
    refine (commit_none w h).mono ?_
    rintro e w' ⟨rfl, rfl⟩
    refine ⟨rfl, ⟨S, hS, he, fun _ _ => rfl, ?_⟩, Only.refl _ _⟩
    obtain ⟨m, g, pv, ⟨sb, lb, ab, n, h1, h2⟩, hr⟩ := h
    exact ⟨m, g, pv, ⟨sb, lb, ab, n, h1.more (by omega), h2⟩, hr⟩
  obtain ⟨m, g, pv, ⟨sb, lb, ab, n, hM, fm, fsb, flb, fab⟩, hT, hL, ft, fg, fq, hP, hmn⟩ := h
  obtain ⟨A, c, rfl, hrow⟩ := row_pa hT.row
  have hfit : Gd.Fit 23168 P := by have := hP.fit; rw [hS] at this; exact this
  have hmay : ∀ p ∈ P, Gd.PaMay p := fun p hp => ⟨by have := hfit p hp; omega, hP.len p hp⟩
  have hR := hl.fits
  have hTn : ¬ Mem3 sb lb ab t := by
    obtain ⟨k, D, _, ⟨es, ck, hm, _⟩, _⟩ := hM.away
    obtain ⟨Z, hZ, hlb⟩ := hM.lasts
    have h1 := hT.obj
    have h2 := hM.seen
    rintro (e | e | e)
    · rw [e, h2] at h1
      exact absurd (Obj.cells.inj (Option.some.inj h1)).2.1 (by decide)
    · rw [e, hlb] at h1
      exact absurd (Obj.cells.inj (Option.some.inj h1)).2.1 (by decide)
    · rw [e, hm] at h1
      cases h1
  have hQn : ∀ q, (Value.slice A P.length c).ownBlock = some q → ¬ Mem3 sb lb ab q := fun q hq => by
    rcases hT.row.2 with ⟨e, _⟩ | ⟨q', cap, cur, e, _, hg, _⟩
    · rw [e] at hq; cases hq
    · rw [e] at hq
      obtain rfl : q' = q := Option.some.inj hq
      obtain ⟨k, D, _, ⟨es, ck, hm, _⟩, _⟩ := hM.away
      obtain ⟨Z, hZ, hlb⟩ := hM.lasts
      have h2 := hM.seen
      rintro (e | e | e)
      · rw [e, h2] at hg
        exact absurd (Obj.cells.inj (Option.some.inj hg)).2.1 (by decide)
      · rw [e, hlb] at hg
        exact absurd (Obj.cells.inj (Option.some.inj hg)).2.1 (by decide)
      · rw [e, hm] at hg
        cases hg
  -- what all is behind writes into the memory
  have HTx : Hid (∀ S' K' w', S'.length = 23168 → MemAt w' m sb lb ab n S' K' → Only (Mem3 sb lb ab) w w' → TxnF t S' P K' w' F) := Lib.hid fun S' K' w' hS' hM' hO' => by
    refine ⟨m, g, _, ⟨sb, lb, ab, n, hM', fm, fsb, flb, fab⟩, ⟨(hO'.block t (lt_get hT.obj) hTn).trans hT.obj, ?_⟩, hL.keep hO' (hL.apart hM), ft, fg, fq, ⟨by rw [hS']; exact hfit, hP.len, hP.many⟩, hmn⟩
    exact ⟨hT.row.1, hT.row.2.imp id fun ⟨q, cap, cur, hv, hB, hg, hr⟩ => ⟨q, cap, cur, hv, hB, (hO'.block q (lt_get hg) (hQn q (by rw [hv]; rfl))).trans hg, hr⟩⟩
  clear hmn
  have hbd := (Below.refl w.heap.size w).drew
  have hMd := hM.below hbd
  have hLd : LogAt w.drew g m 2688 4096 := (hbd.block g (lt_get hL)).trans hL
  have hpv : PasAt w.drew (.slice A P.length c) P := ⟨A, c, rfl, hrow.imp id fun ⟨b, h1, h2, h3⟩ => ⟨b, h1, Nat.lt_of_lt_of_le h2 hbd.size, fun k p hp => ⟨(hbd.cell (p := ⟨b, k * 2, none⟩) h2).trans (h3 k p hp).1, (hbd.cell (p := ⟨b, k * 2 + 1, none⟩) h2).trans (h3 k p hp).2⟩⟩⟩
  have HAp := Lib.hid (append_at (.slice A P.length c) P w.drew hMd hLd hpv hmay hP.many hS he hR (by omega))
  obtain ⟨c0, c1, c2⟩ := cell2 hT.obj
  have hd : w.drew.heap[t]? = _ := (hbd.block t (lt_get hT.obj)).trans hT.obj
  obtain ⟨d0, d1, d2⟩ := cell2 hd
  obtain ⟨r, hre⟩ : ∃ r, r = P.length := ⟨_, rfl⟩
  have hr0 : (r : Int) ≠ 0 := by
    intro e
    exact h0 (List.eq_nil_of_length_eq_zero (by omega))
  rw [← hre] at c2 d2 HAp
  have hs0 := And.intro d1 d2
  have HTo := Lib.hid hT.obj
  have Hre := Lib.hid hre
  have HF := Lib.hid (And.intro fsb (And.intro flb fab))
  have HTn := Lib.hid hTn
  have HBd : Hid (Only (Mem3 sb lb ab) w w.drew) := Lib.hid (below_only hbd _)
  have HLg := Lib.hid hL
  have HLn := Lib.hid (hL.apart hM)
  have HP := Lib.hid (And.intro hfit (And.intro hmay (And.intro hP.many (And.intro hR hS))))
  have HK := Lib.hid hK
  clear hM fm fsb flb fab hT hL ft fg fq hP hrow hfit hmay hR hTn hQn hbd hMd hLd hpv hd hS he hl h0 hre hK d0
  go_enter Tryz.func49, Tryz.ntmps49
  go_upto_region 3 with fail
  refine wp_region_held_drew (S := (fun W => W.cell? ⟨t, 1, none⟩ = some (.pointer (some ⟨g, 0, none⟩)) ∧ W.cell? ⟨t, 2, none⟩ = some (.slice A r c))) (by kernel_rfl) ?_ (fun hHeld => ?_)
  · exact hs0
  refine wpAnyH_take (i := 0) (oi := _) (v := ?_) rfl (by kernel_rfl) (by kernel_rfl) (by kernel_rfl) (fun _ _ _ h => h) (Or.inl ⟨by rfl, ?_⟩) (by assumption) ?_
  rotate_left
  · intro w hSw
    (try dsimp only at hSw)
    first | (go_simp; done) | (go_simp; with_reducible rfl)
  try simp only [List.getElem_toArray, List.getElem_cons_succ, List.getElem_cons_zero, Act.put, List.setIfInBounds_toArray, List.set_cons_zero, List.set_cons_succ]
  refine wpAnyH_take (i := 1) (oi := _) (v := ?_) rfl (by kernel_rfl) (by kernel_rfl) (by kernel_rfl) (fun _ _ _ h => h) (Or.inl ⟨by rfl, ?_⟩) (by assumption) ?_
  rotate_left
  · intro w hSw
    (try dsimp only at hSw)
    first | (go_simp; done) | (go_simp; with_reducible rfl)
  try simp only [List.getElem_toArray, List.getElem_cons_succ, List.getElem_cons_zero, Act.put, List.setIfInBounds_toArray, List.set_cons_zero, List.set_cons_succ]
  refine wpAnyH_take (i := 2) (oi := _) (v := ?_) rfl (by kernel_rfl) (by kernel_rfl) (by kernel_rfl) (fun _ _ _ h => h) (Or.inl ⟨by rfl, ?_⟩) (by assumption) ?_
  rotate_left
  · intro w hSw
    (try dsimp only at hSw)
    first | (go_simp; done) | (go_simp; with_reducible rfl)
  try simp only [List.getElem_toArray, List.getElem_cons_succ, List.getElem_cons_zero, Act.put, List.setIfInBounds_toArray, List.set_cons_zero, List.set_cons_succ]
  refine wpAnyH_take (i := 3) (oi := _) (v := ?_) rfl (by kernel_rfl) (by kernel_rfl) (by kernel_rfl) (fun _ _ _ h => h) (Or.inl ⟨by rfl, ?_⟩) (by assumption) ?_
  rotate_left
  · intro w hSw
    (try dsimp only at hSw)
    first | (go_simp; done) | (go_simp; with_reducible rfl)
  try simp only [List.getElem_toArray, List.getElem_cons_succ, List.getElem_cons_zero, Act.put, List.setIfInBounds_toArray, List.set_cons_zero, List.set_cons_succ]
  refine wpAnyH_take (i := 4) (oi := _) (v := ?_) rfl (by kernel_rfl) (by kernel_rfl) (by kernel_rfl) (fun _ _ _ h => h) (Or.inl ⟨by rfl, ?_⟩) (by assumption) ?_
  rotate_left
  · intro w hSw
    (try dsimp only at hSw)
    first | (go_simp; done) | (go_simp; with_reducible rfl)
  try simp only [List.getElem_toArray, List.getElem_cons_succ, List.getElem_cons_zero, Act.put, List.setIfInBounds_toArray, List.set_cons_zero, List.set_cons_succ]
  refine wpAnyH_take (i := 5) (oi := _) (v := ?_) rfl (by kernel_rfl) (by kernel_rfl) (by kernel_rfl) (fun _ _ _ h => h) (Or.inl ⟨by rfl, ?_⟩) (by assumption) ?_
  rotate_left
  · intro w hSw
    (try dsimp only at hSw)
    first | (go_simp; done) | (go_simp; with_reducible rfl)
  try simp only [List.getElem_toArray, List.getElem_cons_succ, List.getElem_cons_zero, Act.put, List.setIfInBounds_toArray, List.set_cons_zero, List.set_cons_succ]
  refine wpAnyH_take (i := 6) (oi := _) (v := ?_) rfl (by kernel_rfl) (by kernel_rfl) (by kernel_rfl) (fun _ _ _ h => h) (Or.inl ⟨by rfl, ?_⟩) (by assumption) ?_
  rotate_left
  · intro w hSw
    (try dsimp only at hSw)
    first | (go_simp; done) | (go_simp; with_reducible rfl)
  try simp only [List.getElem_toArray, List.getElem_cons_succ, List.getElem_cons_zero, Act.put, List.setIfInBounds_toArray, List.set_cons_zero, List.set_cons_succ]
  refine wpAnyH_take (i := 7) (oi := _) (v := ?_) rfl (by kernel_rfl) (by kernel_rfl) (by kernel_rfl) (fun _ _ _ h => h) (Or.inl ⟨by rfl, ?_⟩) (by assumption) ?_
  rotate_left
  · intro w hSw
    (try dsimp only at hSw)
    first | (go_simp; done) | (go_simp; with_reducible rfl)
  try simp only [List.getElem_toArray, List.getElem_cons_succ, List.getElem_cons_zero, Act.put, List.setIfInBounds_toArray, List.set_cons_zero, List.set_cons_succ]
  refine wpAnyH_ready (rs := [8]) (by kernel_rfl) (by simp) ?_
  refine AllReadyH.cons (o := _) rfl (fun K hK => ?_) AllReadyH.nil
  go_simp
  refine HAp.out.mono ?_
  rintro e w1 ⟨rfl, hM1, hO1⟩
  have HM1 := Lib.hid hM1
  have HO1 := Lib.hid (HBd.out.trans hO1 fun _ _ e => e)
  have hx1 := (HO1.out.block t (lt_get HTo.out) HTn.out).trans HTo.out
  rw [← Hre.out] at hx1
  have hs1 := And.intro (cell2 hx1).2.1 (cell2 hx1).2.2
  clear hM1 hO1 hx1
  dsimp only
  refine hK.out _ _ hs1 (fun hHeld => ?_)
  clear hK K
  try simp only [List.getElem_toArray, List.getElem_cons_succ, List.getElem_cons_zero, Act.put, List.setIfInBounds_toArray, List.set_cons_zero, List.set_cons_succ]
  refine wpAnyH_take (i := 9) (oi := _) (v := ?_) rfl (by kernel_rfl) (by kernel_rfl) (by kernel_rfl) (fun _ _ _ h => h) (Or.inl ⟨by rfl, ?_⟩) (by assumption) ?_
  rotate_left
  · intro w hSw
    (try dsimp only at hSw)
    first | (go_simp; done) | (go_simp; with_reducible rfl)
  try simp only [List.getElem_toArray, List.getElem_cons_succ, List.getElem_cons_zero, Act.put, List.setIfInBounds_toArray, List.set_cons_zero, List.set_cons_succ]
  refine wpAnyH_done (by kernel_rfl) ?_ _
  (try simp only [Exit.then])
  have HRd := Lib.hid (redo_at P w1 HM1.out (HLg.out.keep HO1.out HLn.out) HP.out.1 HP.out.2.1 HP.out.2.2.1 (Gd.logged_length HP.out.2.2.2.2 HP.out.2.2.2.1) HP.out.2.2.2.1 (Gd.logged_end HP.out.2.2.2.2 HP.out.2.2.2.1) (Gd.logged_rec HP.out.2.2.2.2 HP.out.2.2.2.1) (by have := HK.out; omega))
  obtain ⟨y0, y1⟩ := hs1
  clear HAp hs0 c0 c1 c2 d1 d2
  go_wp2_with fail
  refine HRd.out.mono ?_
  rintro e w2 ⟨rfl, hM2, hO2⟩
  have HO2 := Lib.hid (HO1.out.trans hO2 fun _ _ e => e)
  have hdl : (Gd.splice (Gd.view (Gd.splice (Gd.splice S 2696 (Gd.recB P)) 2688 (Gd.le (Gd.recB P).length 8)) P) 2688 (List.replicate 8 0)).length = 23168 := Gd.done_length HP.out.2.2.2.2 HP.out.2.2.2.1 HP.out.1
  have HT2 := Lib.hid (HTx.out _ _ _ hdl hM2 HO2.out)
  clear hM2 hO2 HRd y0 y1 hdl
  go_wp2_with fail
  refine (tdrop_any w2 HT2.out).mono ?_
  rintro e w3 ⟨rfl, hT3, hO3⟩
  have HT3 := Lib.hid hT3
  have HO3 := Lib.hid ((HO2.out.mono (G := F) fun k _ e => by
    rcases e with rfl | rfl | rfl
    · exact HF.out.1
    · exact HF.out.2.1
    · exact HF.out.2.2).trans hO3 fun _ _ e => e)
  clear hT3 hO3
  go_wp2
  go_ret
  refine ⟨rfl, ⟨_, Gd.done_length HP.out.2.2.2.2 HP.out.2.2.2.1 HP.out.1, Gd.done_end HP.out.2.2.2.2 HP.out.2.2.2.1 HP.out.1, fun i hi => Gd.done_get HP.out.2.2.2.2 HP.out.2.2.2.1 HP.out.1 i hi, ?_⟩, HO3.out⟩
  obtain ⟨m, g, pv, ⟨sb, lb, ab, n, h1, h2⟩, hr⟩ := HT3.out
  exact ⟨m, g, pv, ⟨sb, lb, ab, n, h1.more (by have := HP.out.2.2.1; omega), h2⟩, hr⟩

end Go.Proofs.YtccpdkjonepoiaaGreatDoor

/- Walk: a new memory. -/
namespace Go.Proofs.YtccpdkjonepoiaaGreatDoor
open Go.RowKit Go.Shelf Go.Maps

attribute [local go_sem] Oper.semAt_some

theorem Tryz.infoCell : (Tryz.prog.info? 126).map (fun i => (i.zero, i.size, i.bytes)) = some (some (.agg #[.int .u8 0, .int .u8 0, .int .u8 0, .int .u8 0, .int .u8 0, .int .u8 0, .int .u8 0, .int .u8 0]), 8, 8) := by kernel_rfl
theorem made_zeros (n : Nat) : madeCells (Value.agg #[.int .u8 0, .int .u8 0, .int .u8 0, .int .u8 0, .int .u8 0, .int .u8 0, .int .u8 0, .int .u8 0]).cells n = cellsB (List.replicate n 0) := by
  have hc : (Value.agg #[.int .u8 0, .int .u8 0, .int .u8 0, .int .u8 0, .int .u8 0, .int .u8 0, .int .u8 0, .int .u8 0]).cells = Array.replicate 8 (.int .u8 0) := by kernel_rfl
  rw [hc]
  unfold madeCells cellsB Lib.byteCells
  apply Array.ext
  · simp
  · intro i h1 h2
    simp only [Array.getElem_map, Array.getElem_range, List.getElem_toArray, List.getElem_map, List.getElem_replicate]
    rw [getElem!_pos _ _ (by simp; omega)]
    simp
theorem made_mem (n : Nat) (hn : n ≤ 131072) (W : World) : (Instr.makeSlice 97 (.int .i64 n) (.int .i64 n)).run Tryz.prog W = .ok (.slice (some ⟨W.heap.size, 0, none⟩) n n) (W.alloc (.cells (cellsB (List.replicate (n * 8) 0)) 126)) := by
  obtain ⟨i0, hi, hz0, hz1, hz2⟩ := info_parts Tryz.infoCell
  have := run_makeSlice (P := Tryz.prog) (w := W) 97 126 i0 _ Tryz.underlying97 hi hz0 .i64 .i64 n n (by omega) (by omega) (by rw [hz1, Int.toNat_natCast]; omega) (by rw [hz2]; omega) (by omega)
  rw [hz1, Int.toNat_natCast, made_zeros] at this
  exact this

theorem alloc4 (w : World) (a b c d : Obj) : ((((w.alloc a).alloc b).alloc c).alloc d).drew.heap[w.heap.size]? = some a ∧ ((((w.alloc a).alloc b).alloc c).alloc d).drew.heap[w.heap.size + 1]? = some b ∧ ((((w.alloc a).alloc b).alloc c).alloc d).drew.heap[w.heap.size + 1 + 1]? = some c ∧ ((((w.alloc a).alloc b).alloc c).alloc d).drew.heap[w.heap.size + 1 + 1 + 1]? = some d := by
  have hk : ∀ (W : World) (o : Obj) (k : Nat), k < W.heap.size → (W.alloc o).heap[k]? = W.heap[k]? := fun W o k h => ((Below.refl W.heap.size W).alloc (Nat.le_refl _) o).block k h
  have hd : ∀ (W : World) (k : Nat), W.drew.heap[k]? = W.heap[k]? := fun _ _ => rfl
  have n1 : (w.alloc a).heap.size = w.heap.size + 1 := by simp
  have n2 : ((w.alloc a).alloc b).heap.size = w.heap.size + 1 + 1 := by simp
  have n3 : (((w.alloc a).alloc b).alloc c).heap.size = w.heap.size + 1 + 1 + 1 := by simp
  have e1 := heap_alloc_new w a
  have e2 := heap_alloc_new (w.alloc a) b
  have e3 := heap_alloc_new ((w.alloc a).alloc b) c
  have e4 := heap_alloc_new (((w.alloc a).alloc b).alloc c) d
  rw [n1] at e2
  rw [n2] at e3
  rw [n3] at e4
  refine ⟨?_, ?_, ?_, ?_⟩
  · rw [hd, hk _ _ _ (by omega), hk _ _ _ (by omega), hk _ _ _ (by omega)]
    exact e1
  · rw [hd, hk _ _ _ (by omega), hk _ _ _ (by omega)]
    exact e2
  · rw [hd, hk _ _ _ (by omega)]
    exact e3
  · rw [hd]
    exact e4
theorem below4 (w : World) (a b c d : Obj) : Below w.heap.size w ((((w.alloc a).alloc b).alloc c).alloc d).drew :=
  (((((Below.refl w.heap.size w).alloc (Nat.le_refl _) a).alloc (by simp) b).alloc (by simp; omega) c).alloc (by simp; omega) d).drew
def NewMem (w : World) (n s : Nat) (e : Ending) (w' : World) : Prop := ∃ m sb lb ab, e = .returned (.pointer (some ⟨m, 0, none⟩)) ∧ MemAt w' m sb lb ab n (List.replicate s 0) 0 ∧ Below w.heap.size w w' ∧ LowAt m sb lb ab m w'.heap.size ∧ (w.heap.size ≤ m ∧ w.heap.size ≤ sb ∧ w.heap.size ≤ lb ∧ w.heap.size ≤ ab)
theorem new_fin {w W : World} {n s m sb lb ab : Nat} (h8 : 8 ≤ n) (hn : n ≤ 131072) (hm : n % 8 = 0) (hs : s = n * 8) (hb : Below w.heap.size w W) (h : w.heap.size ≤ m ∧ w.heap.size ≤ sb ∧ w.heap.size ≤ lb ∧ w.heap.size ≤ ab) (hne : sb ≠ lb)
    (h1 : W.heap[sb]? = some (.cells (cellsB (List.replicate s 0)) 126 (0, 0))) (h2 : W.heap[lb]? = some (.cells (cellsB (List.replicate s 0)) 126 (0, 0))) (h3 : W.heap[ab]? = some (.map #[] 0))
    (h4 : W.heap[m]? = some (.cells #[.slice (some ⟨sb, 0, none⟩) n n, .slice (some ⟨lb, 0, none⟩) n n, .map (some ab)] 100 (0, 0))) : NewMem w n s (.returned (.pointer (some ⟨m, 0, none⟩))) W := by
  refine ⟨m, sb, lb, ab, rfl, ⟨h4, h1, ⟨_, rfl, h2⟩, ⟨0, .map [], Nat.le_refl _, ?_, ?_⟩, by rw [List.length_replicate]; exact hs, hn, hm, hne⟩, hb, ⟨lt_get h4, lt_get h1, lt_get h2, lt_get h3, lt_get h4⟩, h⟩
  · have := World.ownsMap_made w Tryz.prog 3 (plainElem Tryz.prog 4) (H := Unit)
    obtain ⟨es, ck, e1, e2⟩ := this
    rw [heap_alloc_new] at e1
    cases e1
    exact ⟨#[], 0, h3, e2⟩
  · intro kl h
    cases h

set_option maxHeartbeats 4000000 in
set_option maxRecDepth 100000 in
theorem pnew_any (n : Nat) (h8 : 8 ≤ n) (hn : n ≤ 131072) (hm : n % 8 = 0) (w : World) :
    Calls Tryz.prog 9 #[.int .i64 (n * 8 : Nat)] w (NewMem w n (n * 8)) := by
  have hmk := made_mem n hn
  have hmm : ∀ W : World, (Instr.makeMap 98 none).run Tryz.prog W = .ok (.map (some W.heap.size)) (W.alloc (.map #[] 0)) := fun _ => rfl
  obtain ⟨s, hs⟩ : ∃ s, s = n * 8 := ⟨_, rfl⟩
  rw [← hs] at hmk ⊢
  have h1 : ¬ (s : Int) < 64 := by omega
  have h2 : (s : Int) ≤ 1048576 := by omega
  have h3 : (s : Int) % 64 = 0 := by omega
  have h4 : (s : Int) / 8 = n := by omega
  have Hs := Lib.hid hs
  clear hs
  go_enter Tryz.func9, Tryz.ntmps9
  go_upto_region 4 with fail
  go_region
  all_goals
    (try simp only [Exit.then])
    (first | (refine (by assumption : ∀ (a : Act) (w : World), _) _ _ ?_) | skip)
    go_wp2
    go_ret
    have A := alloc4 w
    have B := below4 w
    first
      | exact new_fin h8 hn hm Hs.out (B _ _ _ _) (by omega) (by omega) (A _ _ _ _).1 (A _ _ _ _).2.1 (A _ _ _ _).2.2.1 (A _ _ _ _).2.2.2
      | exact new_fin h8 hn hm Hs.out (B _ _ _ _) (by omega) (by omega) (A _ _ _ _).2.1 (A _ _ _ _).1 (A _ _ _ _).2.2.1 (A _ _ _ _).2.2.2
      | exact new_fin h8 hn hm Hs.out (B _ _ _ _) (by omega) (by omega) (A _ _ _ _).1 (A _ _ _ _).2.2.1 (A _ _ _ _).2.1 (A _ _ _ _).2.2.2
      | exact new_fin h8 hn hm Hs.out (B _ _ _ _) (by omega) (by omega) (A _ _ _ _).2.2.1 (A _ _ _ _).1 (A _ _ _ _).2.1 (A _ _ _ _).2.2.2
      | exact new_fin h8 hn hm Hs.out (B _ _ _ _) (by omega) (by omega) (A _ _ _ _).2.1 (A _ _ _ _).2.2.1 (A _ _ _ _).1 (A _ _ _ _).2.2.2
      | exact new_fin h8 hn hm Hs.out (B _ _ _ _) (by omega) (by omega) (A _ _ _ _).2.2.1 (A _ _ _ _).2.1 (A _ _ _ _).1 (A _ _ _ _).2.2.2

end Go.Proofs.YtccpdkjonepoiaaGreatDoor

/- Walks: bits: a block's byte and bit. -/
namespace Go.Proofs.YtccpdkjonepoiaaGreatDoor
open Go.RowKit

attribute [local go_sem] Oper.semAt_some

theorem and7 : ∀ k : Fin 128, bits .and .i64 (k.val : Int) 7 = ((k.val % 8 : Nat) : Int) := by decide +kernel
theorem shl8 : ∀ b : Fin 8, IntKind.u8.wrap ((2 : Int) ^ min b.val 8) = ((2 ^ b.val : Nat) : Int) := by decide +kernel

set_option maxHeartbeats 4000000 in
set_option maxRecDepth 100000 in
theorem place_yes (n : Nat) (h1 : 1 ≤ n) (h2 : n ≤ 128) (w : World) : Calls Tryz.prog 183 #[.int .i64 n] w fun e w' => e = .returned (.tuple #[.int .i64 ((n - 1) / 8 : Nat), .int .u8 (Gd.bitOf n : Nat), .bool true]) ∧ Below w.heap.size w w' := by
  obtain ⟨k, rfl⟩ : ∃ k, n = k + 1 := ⟨n - 1, by omega⟩
  have h3 : ¬ ((k : Int) + 1 < 1) := by omega
  have h4 : (k : Int) + 1 ≤ 128 := by omega
  have h5 : IntKind.i64.wrap (k : Int) = k := by rw [IntKind.wrap_i64]; omega
  obtain ⟨b, hb⟩ : ∃ b, b = k % 8 := ⟨_, rfl⟩
  have h6 : bits .and .i64 (k : Int) 7 = (b : Int) := by rw [hb]; exact and7 ⟨k, by omega⟩
  have h7 : IntKind.u8.wrap ((2 : Int) ^ min b 8) = ((2 ^ b : Nat) : Int) := shl8 ⟨b, by omega⟩
  have Hb : Hid (Gd.bitOf (k + 1) = 2 ^ b) := Lib.hid (by rw [hb]; rfl)
  rw [Hb.out, show k + 1 - 1 = k by omega]
  obtain ⟨c, hc⟩ : ∃ c : Nat, c = 2 ^ b := ⟨_, rfl⟩
  rw [← hc] at h7 ⊢
  obtain ⟨d, hd⟩ : ∃ d, d = k / 8 := ⟨_, rfl⟩
  rw [← hd]
  have h8 : (k : Int) / 8 = (d : Int) := by omega
  clear hb hc hd h1 h2 Hb
  go_enter Tryz.func183, Tryz.ntmps183
  go_upto_region 3 with fail
  refine wp_region_held_drew (S := (fun _ => True)) (by kernel_rfl) ?_ (fun hHeld => ?_)
  · exact trivial
  refine wpAnyH_take (i := 0) (oi := _) (v := ?_) rfl (by kernel_rfl) (by kernel_rfl) (by kernel_rfl) (fun _ _ _ h => h) (Or.inl ⟨by rfl, ?_⟩) (by assumption) ?_
  rotate_left
  · intro w hSw
    (try dsimp only at hSw)
    first | (go_simp; done) | (go_simp; with_reducible rfl)
  try simp only [List.getElem_toArray, List.getElem_cons_succ, List.getElem_cons_zero, Act.put, List.setIfInBounds_toArray, List.set_cons_zero, List.set_cons_succ]
  refine wpAnyH_take (i := 1) (oi := _) (v := ?_) rfl (by kernel_rfl) (by kernel_rfl) (by kernel_rfl) (fun _ _ _ h => h) (Or.inl ⟨by rfl, ?_⟩) (by assumption) ?_
  rotate_left
  · intro w hSw
    (try dsimp only at hSw)
    first | (go_simp; done) | (go_simp; with_reducible rfl)
  try simp only [List.getElem_toArray, List.getElem_cons_succ, List.getElem_cons_zero, Act.put, List.setIfInBounds_toArray, List.set_cons_zero, List.set_cons_succ]
  refine wpAnyH_take (i := 2) (oi := _) (v := ?_) rfl (by kernel_rfl) (by kernel_rfl) (by kernel_rfl) (fun _ _ _ h => h) (Or.inl ⟨by rfl, ?_⟩) (by assumption) ?_
  rotate_left
  · intro w hSw
    (try dsimp only at hSw)
    first | (go_simp; done) | (go_simp; with_reducible rfl)
  try simp only [List.getElem_toArray, List.getElem_cons_succ, List.getElem_cons_zero, Act.put, List.setIfInBounds_toArray, List.set_cons_zero, List.set_cons_succ]
  refine wpAnyH_take (i := 3) (oi := _) (v := ?_) rfl (by kernel_rfl) (by kernel_rfl) (by kernel_rfl) (fun _ _ _ h => h) (Or.inl ⟨by rfl, ?_⟩) (by assumption) ?_
  rotate_left
  · intro w hSw
    (try dsimp only at hSw)
    first | (go_simp; done) | (go_simp; with_reducible rfl)
  try simp only [List.getElem_toArray, List.getElem_cons_succ, List.getElem_cons_zero, Act.put, List.setIfInBounds_toArray, List.set_cons_zero, List.set_cons_succ]
  refine wpAnyH_take (i := 4) (oi := _) (v := ?_) rfl (by kernel_rfl) (by kernel_rfl) (by kernel_rfl) (fun _ _ _ h => h) (Or.inl ⟨by rfl, ?_⟩) (by assumption) ?_
  rotate_left
  · intro w hSw
    (try dsimp only at hSw)
    first | (go_simp; done) | (go_simp; with_reducible rfl)
  try simp only [List.getElem_toArray, List.getElem_cons_succ, List.getElem_cons_zero, Act.put, List.setIfInBounds_toArray, List.set_cons_zero, List.set_cons_succ]
  refine wpAnyH_take (i := 5) (oi := _) (v := ?_) rfl (by kernel_rfl) (by kernel_rfl) (by kernel_rfl) (fun _ _ _ h => h) (Or.inl ⟨by rfl, ?_⟩) (by assumption) ?_
  rotate_left
  · intro w hSw
    (try dsimp only at hSw)
    first | (go_simp; done) | (go_simp; with_reducible rfl)
  try simp only [List.getElem_toArray, List.getElem_cons_succ, List.getElem_cons_zero, Act.put, List.setIfInBounds_toArray, List.set_cons_zero, List.set_cons_succ]
  refine wpAnyH_take (i := 6) (oi := _) (v := ?_) rfl (by kernel_rfl) (by kernel_rfl) (by kernel_rfl) (fun _ _ _ h => h) (Or.inl ⟨by rfl, ?_⟩) (by assumption) ?_
  rotate_left
  · intro w hSw
    (try dsimp only at hSw)
    first | (go_simp; done) | (go_simp; with_reducible rfl)
  try simp only [List.getElem_toArray, List.getElem_cons_succ, List.getElem_cons_zero, Act.put, List.setIfInBounds_toArray, List.set_cons_zero, List.set_cons_succ]
  refine wpAnyH_take (i := 7) (oi := _) (v := ?_) rfl (by kernel_rfl) (by kernel_rfl) (by kernel_rfl) (fun _ _ _ h => h) (Or.inl ⟨by rfl, ?_⟩) (by assumption) ?_
  rotate_left
  · intro w hSw
    (try dsimp only at hSw)
    first | (go_simp; done) | (go_simp; with_reducible rfl)
  try simp only [List.getElem_toArray, List.getElem_cons_succ, List.getElem_cons_zero, Act.put, List.setIfInBounds_toArray, List.set_cons_zero, List.set_cons_succ]
  refine wpAnyH_take (i := 8) (oi := _) (v := ?_) rfl (by kernel_rfl) (by kernel_rfl) (by kernel_rfl) (fun _ _ _ h => h) (Or.inl ⟨by rfl, ?_⟩) (by assumption) ?_
  rotate_left
  · intro w hSw
    (try dsimp only at hSw)
    first | (go_simp; done) | (go_simp; with_reducible rfl)
  try simp only [List.getElem_toArray, List.getElem_cons_succ, List.getElem_cons_zero, Act.put, List.setIfInBounds_toArray, List.set_cons_zero, List.set_cons_succ]
  refine wpAnyH_take (i := 9) (oi := _) (v := ?_) rfl (by kernel_rfl) (by kernel_rfl) (by kernel_rfl) (fun _ _ _ h => h) (Or.inl ⟨by rfl, ?_⟩) (by assumption) ?_
  rotate_left
  · intro w hSw
    (try dsimp only at hSw)
    first | (go_simp; done) | (go_simp; with_reducible rfl)
  try simp only [List.getElem_toArray, List.getElem_cons_succ, List.getElem_cons_zero, Act.put, List.setIfInBounds_toArray, List.set_cons_zero, List.set_cons_succ]
  refine wpAnyH_done (by kernel_rfl) ?_ _
  (try simp only [Exit.then])
  go_wp2
  go_ret3
  exact ⟨rfl, (Below.refl _ _).drew⟩

end Go.Proofs.YtccpdkjonepoiaaGreatDoor

/- Great rows as values: rows that are loaded, stored, handed back whole. -/
namespace Go.Proofs.YtccpdkjonepoiaaGreatDoor
open Go.RowKit

/-- so many cells of a row, from a place on -/
def putCells2 : Array Value → Nat → List Value → Array Value
  | C, _, [] => C
  | C, o, v :: r => putCells2 (C.setIfInBounds o v) (o + 1) r
theorem setCells_heap2 (b : Nat) (t : TypeId) : ∀ (vs : List Value) (o : Nat) (w : World) (C : Array Value), w.heap[b]? = some (.cells C t (0, 0)) → (w.setCells b o vs).heap[b]? = some (.cells (putCells2 C o vs) t (0, 0))
  | [], _, _, _, h => h
  | v :: r, o, w, C, h => by
    rw [World.setCells, putCells2]
    exact setCells_heap2 b t r (o + 1) _ _ (Go.heap_setCell_same w b o C t v h)
theorem setCells_below2 {B b : Nat} (hb : B ≤ b) : ∀ (vs : List Value) (o : Nat) (a w : World), Below B a w → Below B a (w.setCells b o vs)
  | [], _, _, _, h => h
  | v :: r, o, a, w, h => by
    rw [World.setCells]
    exact setCells_below2 hb r (o + 1) a _ (h.setCell hb v)
theorem putCells2_toList : ∀ (vs : List Value) (o : Nat) (C : Array Value), o + vs.length ≤ C.size → (putCells2 C o vs).toList = C.toList.take o ++ vs ++ C.toList.drop (o + vs.length)
  | [], o, C, _ => by
    rw [putCells2, List.append_nil]
    exact (List.take_append_drop o C.toList).symm
  | v :: r, o, C, h => by
    rw [List.length_cons] at h
    have hl : o < C.toList.length := by simp; omega
    rw [putCells2, putCells2_toList r (o + 1) _ (by rw [Array.size_setIfInBounds]; omega), Array.toList_setIfInBounds, List.length_cons]
    rw [List.drop_set_of_lt (by omega), show o + 1 + r.length = o + (r.length + 1) by omega, List.take_set, List.take_add_one, List.getElem?_eq_getElem hl]
    rw [List.set_append_right _ _ (by rw [List.length_take]; omega)]
    rw [List.length_take, Nat.min_eq_left (Nat.le_of_lt hl), Nat.sub_self]
    simp
theorem putCells2_all {C : Array Value} {vs : List Value} (h : C.size = vs.length) : putCells2 C 0 vs = vs.toArray := by
  have := putCells2_toList vs 0 C (by omega)
  rw [List.take_zero, List.nil_append, Nat.zero_add, List.drop_eq_nil_of_le (by simp; omega), List.append_nil] at this
  rw [← Array.toList_inj, this]
/-- a block that lies there may be written -/
theorem there_at {w : World} {b t n : Nat} {C : Array Value} (hg : w.heap[b]? = some (.cells C t (0, 0))) (h : C.size = n) : w.there b 0 n := fun j hj => by
  rw [Nat.zero_add]
  refine ⟨?_, frozen_of_row _ _ _ _ t hg⟩
  have : C[j]? = some C[j] := Array.getElem?_eq_getElem (by omega)
  rw [cell_of_row _ _ j C t _ hg, this]
  rfl
/-- a variable, stored whole -/
theorem whole_at {w : World} {b t B : Nat} {C : Array Value} {vs : List Value} (hg : w.heap[b]? = some (.cells C t (0, 0))) (h : C.size = vs.length) (hB : B ≤ b) :
    Below B w (w.setCells b 0 vs) ∧ (w.setCells b 0 vs).heap[b]? = some (.cells vs.toArray t (0, 0)) := by
  refine ⟨setCells_below2 hB vs 0 w _ (Below.refl _ w), ?_⟩
  rw [setCells_heap2 _ t vs 0 _ C hg, putCells2_all h]
/-- a function with two results, the first a row -/
theorem results_row_tmp {P : Program} {fn : Func} {p u : Tmp} {ty : TypeId} (h : fn.results = #[.cell p ty, .tmp u]) (tmps : Array Value) (w : World) (g : Nat) (t : TypeId) (cs : Array Value) (fr : Nat × Nat) (d : TypeDesc)
    (hp : tmps.getD p undef = .pointer (some ⟨g, 0, none⟩)) (hg : w.heap[g]? = some (.cells cs t fr))
    (hu : P.underlying ty = some d) (hd : (match d with | .struct _ | .array _ _ => true | _ => false) = true) (hi : (P.info? ty).map (·.size) = some cs.size) :
    (results fn tmps).run P w = .ok (.tuple #[.agg cs, tmps.getD u undef]) w := by
  have hp' : tmps[p]?.getD undef = .pointer (some ⟨g, 0, none⟩) := by simpa using hp
  simp [results, h, hp', asAddr, run_loadVar_row w g t ty cs fr d hg hu hd hi]

end Go.Proofs.YtccpdkjonepoiaaGreatDoor

/- Walks: which blocks are used: maps as values; Used. -/
namespace Go.Proofs.YtccpdkjonepoiaaGreatDoor
open Go.RowKit

attribute [local go_sem] Oper.semAt_some

theorem and8 : ∀ (c : Fin 256) (b : Fin 8), bits .and .u8 (c.val : Int) ((2 ^ b.val : Nat) : Int) = ((c.val &&& 2 ^ b.val : Nat) : Int) := by decide +kernel
theorem or8 : ∀ (c : Fin 256) (b : Fin 8), bits .or .u8 (c.val : Int) ((2 ^ b.val : Nat) : Int) = ((c.val ||| 2 ^ b.val : Nat) : Int) := by decide +kernel
theorem andNot8 : ∀ (c : Fin 256) (b : Fin 8), bits .andNot .u8 (c.val : Int) ((2 ^ b.val : Nat) : Int) = ((c.val &&& (255 - 2 ^ b.val) : Nat) : Int) := by decide +kernel
theorem less8 : ∀ c : Fin 256, c.val ≠ 0 → bits .and .u8 (c.val : Int) (IntKind.u8.wrap ((c.val : Int) - 1)) = ((c.val &&& (c.val - 1) : Nat) : Int) := by decide +kernel
def mapV (m : List UInt8) : Value := .agg (cellsB m)
theorem Tryz.sizeMap : (Tryz.prog.info? 153).map (fun i => i.size) = some 16 := by kernel_rfl
theorem map_get {m : List UInt8} (hm : m.length = 16) {n : Nat} (h1 : 1 ≤ n) (h2 : n ≤ 128) : ∃ x, m[(n - 1) / 8]? = some x ∧ x.toNat = Gd.byteAt m n := by
  refine ⟨_, List.getElem?_eq_getElem (by omega), ?_⟩
  unfold Gd.byteAt
  rw [List.getD_eq_getElem?_getD, List.getElem?_eq_getElem (by omega)]
  rfl

set_option maxHeartbeats 4000000 in
set_option maxRecDepth 100000 in
theorem used_any (m : List UInt8) (hm : m.length = 16) (n : Int) (w : World) : Calls Tryz.prog 203 #[mapV m, .int .i64 n] w fun e w' => e = .returned (.bool (Gd.usedI m n)) ∧ Below w.heap.size w w' := by
  cases hb : Gd.isBlk n with
  | false =>
    have HN := Lib.hid (place_no n hb)
    have hu : Gd.usedI m n = false := by unfold Gd.usedI; rw [hb]; rfl
    rw [hu]
    unfold mapV
    go_enter Tryz.func203, Tryz.ntmps203
    go_wp2_with (go_at_call 183; refine (HN.out _).mono ?_; rintro e w1 ⟨rfl, rfl⟩)
    go_ret
    exact ⟨rfl, (Below.refl _ _).alloc (Nat.le_refl _) _⟩
  | true =>
    obtain ⟨k, rfl⟩ : ∃ k : Nat, n = k := ⟨n.toNat, by unfold Gd.isBlk at hb; simp at hb; omega⟩
    have hk : 1 ≤ k ∧ k ≤ 128 := by unfold Gd.isBlk at hb; simp at hb; omega
    obtain ⟨x, hx, hxe⟩ := map_get hm hk.1 hk.2
    obtain ⟨i, hi⟩ : ∃ i, i = (k - 1) / 8 := ⟨_, rfl⟩
    rw [← hi] at hx
    have hu : Gd.usedI m (k : Int) = (x.toNat &&& Gd.bitOf k != 0) := by
      unfold Gd.usedI Gd.usedB
      rw [hb, Int.toNat_natCast, hxe]
      rfl
    have ha := and8 ⟨x.toNat, x.toNat_lt⟩ ⟨(k - 1) % 8, Gd.bit8 k⟩
    change bits .and .u8 (x.toNat : Int) ((Gd.bitOf k : Nat) : Int) = ((x.toNat &&& Gd.bitOf k : Nat) : Int) at ha
    have HPl := Lib.hid fun W => place_yes k hk.1 hk.2 W
    rw [← hi] at HPl
    obtain ⟨wb, hwb⟩ : ∃ u, u = w.alloc (.cells (cellsB m) 153) := ⟨_, rfl⟩
    have hbb : Below w.heap.size w wb := by rw [hwb]; exact (Below.refl _ _).alloc (Nat.le_refl _) _
    have hbc : wb.heap[w.heap.size]? = some (.cells (cellsB m) 153 (0, 0)) := by rw [hwb]; exact heap_alloc_new _ _
    obtain ⟨mb, hmb⟩ : ∃ mb, mb = w.heap.size := ⟨_, rfl⟩
    rw [← hmb] at hbc
    have Hmb := Lib.hid hmb.symm
    have HBb := Lib.hid hbb
    have HWb := Lib.hid hwb
    have Hbc := Lib.hid hbc
    rw [hu]
    obtain ⟨y, hy⟩ : ∃ y : Nat, y = x.toNat &&& Gd.bitOf k := ⟨_, rfl⟩
    rw [← hy] at ha ⊢
    obtain ⟨bt, hbt⟩ : ∃ bt : Nat, bt = Gd.bitOf k := ⟨_, rfl⟩
    rw [← hbt] at ha HPl
    have hi16 : i < 16 := by omega
    have Hx := Lib.hid hx
    clear hb hx hxe hi hu hmb hbb hwb hbc hy hbt
    unfold mapV
    go_enter Tryz.func203, Tryz.ntmps203
    go_upto_region 1 with fail
    rw [← HWb.out, Hmb.out]
    go_wp2_with fail
    refine (HPl.out wb).mono ?_
    rintro e w1 ⟨rfl, hb1⟩
    have hc := (cell_of_row w1 mb i _ _ _ ((hb1.block mb (lt_get Hbc.out)).trans Hbc.out)).trans (cellsB_get Hx.out)
    have HB1 := Lib.hid (HBb.out.trans (hb1.mono HBb.out.size))
    clear hb1
    go_wp2
    go_ret
    refine ⟨ret_bool ?_, HB1.out⟩
    rw [Bool.eq_iff_iff]
    simp

theorem cellsB_one (m : List UInt8) : (cellsB m).all (·.oneCell') = true := by
  unfold cellsB
  rw [Array.all_eq_true_iff_forall_mem]
  intro u hu
  exact byteCells_one m u (by simpa using hu)

set_option maxHeartbeats 4000000 in
set_option maxRecDepth 100000 in
theorem take_any (m : List UInt8) (hm : m.length = 16) (n : Int) (w : World) : Calls Tryz.prog 186 #[mapV m, .int .i64 n] w fun e w' => e = .returned (mapV (Gd.takeI m n)) ∧ Below w.heap.size w w' := by
  have hsz : (cellsB m).size = 16 := by unfold cellsB; rw [List.size_toArray, byteCells_len]; exact hm
  obtain ⟨Z, hZ⟩ : ∃ Z : Array Value, Z = #[.int .u8 0, .int .u8 0, .int .u8 0, .int .u8 0, .int .u8 0, .int .u8 0, .int .u8 0, .int .u8 0, .int .u8 0, .int .u8 0, .int .u8 0, .int .u8 0, .int .u8 0, .int .u8 0, .int .u8 0, .int .u8 0] := ⟨_, rfl⟩
  have hZs : Z.size = 16 := by rw [hZ]; rfl
  obtain ⟨mb, hmb⟩ : ∃ mb, mb = w.heap.size := ⟨_, rfl⟩
  obtain ⟨wb, hwb⟩ : ∃ u, u = (w.alloc (.cells (cellsB m) 153)).alloc (.cells Z 153) := ⟨_, rfl⟩
  have hbb : Below w.heap.size w wb := by rw [hwb]; exact ((Below.refl _ _).alloc (Nat.le_refl _) _).alloc (by simp) _
  have hbc : wb.heap[mb]? = some (.cells (cellsB m) 153 (0, 0)) := by rw [hwb, hmb]; exact CellsAt.alloc (heap_alloc_new w _) _
  have hbr : wb.heap[mb + 1]? = some (.cells Z 153 (0, 0)) := by
    have := heap_alloc_new (w.alloc (.cells (cellsB m) 153)) (.cells Z 153)
    rw [World.size_alloc] at this
    rw [hwb, hmb]
    exact this
  have Hmb := Lib.hid hmb.symm
  have HBb := Lib.hid hbb
  have HWb := Lib.hid hwb
  have Hbc := Lib.hid hbc
  have Hbr := Lib.hid hbr
  have HZ := Lib.hid hZ
  have HZs := Lib.hid hZs
  have HS := Lib.hid hsz
  clear hsz hZ hZs hmb hbb hwb hbc hbr
  cases hb : Gd.isBlk n with
  | false =>
    have HN := Lib.hid (place_no n hb)
    have hu : Gd.takeI m n = m := by unfold Gd.takeI; rw [hb]; rfl
    rw [hu]
    unfold mapV
    clear hb hu
    go_enter Tryz.func186, Tryz.ntmps186
    go_upto_region 1 with fail
    rw [← HZ.out, ← HWb.out, Hmb.out]
    go_upto_region 4 with (go_at_call 183; refine (HN.out _).mono ?_; rintro e w1 ⟨rfl, rfl⟩)
    go_wp2_with (first | (refine wpList_load_row rfl 153 _ rfl mb rfl 153 (cellsB m) (0, 0) _ Hbc.out Tryz.underlying153 rfl (by rw [HS.out]; exact Tryz.sizeMap) ?_) | (refine wpList_store_mid rfl 153 _ _ rfl (mb + 1) 0 (cellsB m) rfl rfl (there_at Hbr.out (by rw [HZs.out, HS.out])) (by rw [HS.out]; exact Tryz.sizeMap) (cellsB_one m) ?_; obtain ⟨hbw, hbg⟩ := whole_at Hbr.out (vs := (cellsB m).toList) (B := mb) (by rw [HZs.out, Array.length_toList, HS.out]) (Nat.le_succ mb); generalize (World.setCells _ _ _ _) = wf at hbw hbg ⊢))
    refine bodyPost_ret (results_cell_row rfl _ _ (mb + 1) 153 (cellsB m) (0, 0) _ rfl hbg Tryz.underlying153 rfl (by rw [HS.out]; exact Tryz.sizeMap)) rfl ?_
    exact ⟨rfl, HBb.out.trans (by rw [Hmb.out]; exact hbw)⟩
  | true =>
    obtain ⟨k, rfl⟩ : ∃ k : Nat, n = k := ⟨n.toNat, by unfold Gd.isBlk at hb; simp at hb; omega⟩
    have hk : 1 ≤ k ∧ k ≤ 128 := by unfold Gd.isBlk at hb; simp at hb; omega
    obtain ⟨x, hx, hxe⟩ := map_get hm hk.1 hk.2
    obtain ⟨i, hi⟩ : ∃ i, i = (k - 1) / 8 := ⟨_, rfl⟩
    rw [← hi] at hx
    have ha := or8 ⟨x.toNat, x.toNat_lt⟩ ⟨(k - 1) % 8, Gd.bit8 k⟩
    change bits .or .u8 (x.toNat : Int) ((Gd.bitOf k : Nat) : Int) = _ at ha
    obtain ⟨y, hy⟩ : ∃ y : UInt8, (bits .or .u8 (x.toNat : Int) ((Gd.bitOf k : Nat) : Int) = y.toNat) ∧ Gd.takeI m (k : Int) = m.set i y := by
      refine ⟨UInt8.ofNat (x.toNat ||| Gd.bitOf k), ?_, ?_⟩
      · rw [ha, UInt8.toNat_ofNat']
        congr 1
        exact (Nat.mod_eq_of_lt (Gd.or_lt ⟨x.toNat, x.toNat_lt⟩ ⟨(k - 1) % 8, Gd.bit8 k⟩)).symm
      · unfold Gd.takeI Gd.takeB
        rw [hb, Int.toNat_natCast, ← hxe, ← hi]
        rfl
    have HPl := Lib.hid fun W => place_yes k hk.1 hk.2 W
    rw [← hi] at HPl
    rw [hy.2]
    have hy1 := hy.1
    obtain ⟨bt, hbt⟩ : ∃ bt : Nat, bt = Gd.bitOf k := ⟨_, rfl⟩
    rw [← hbt] at hy1 HPl
    have hi16 : i < 16 := by omega
    have Hx := Lib.hid hx
    have HS2 : Hid ((cellsB (m.set i y)).size = 16) := Lib.hid (by unfold cellsB; rw [List.size_toArray, byteCells_len, List.length_set]; exact hm)
    clear hb hx hxe hi hbt hy ha
    unfold mapV
    go_enter Tryz.func186, Tryz.ntmps186
    go_upto_region 1 with fail
    rw [← HZ.out, ← HWb.out, Hmb.out]
    go_wp2_with fail
    refine (HPl.out wb).mono ?_
    rintro e w1 ⟨rfl, hb1⟩
    have hm1 := (hb1.block mb (lt_get Hbc.out)).trans Hbc.out
    have hr1 := (hb1.block (mb + 1) (lt_get Hbr.out)).trans Hbr.out
    have HB1 := Lib.hid (HBb.out.trans (hb1.mono HBb.out.size))
    have hc := (cell_of_row w1 mb i _ _ _ hm1).trans (cellsB_get Hx.out)
    have hf := frozen_of_row w1 mb i _ _ hm1
    obtain ⟨w2, hw2⟩ : ∃ u, u = w1.setCell ⟨mb, i, none⟩ (.int .u8 y.toNat) := ⟨_, rfl⟩
    have hm2 : w2.heap[mb]? = some (.cells (cellsB (m.set i y)) 153 (0, 0)) := by
      rw [hw2, ← cellsB_set]
      exact Go.heap_setCell_same w1 mb i _ _ _ hm1
    have hr2 : w2.heap[mb + 1]? = some (.cells Z 153 (0, 0)) := by rw [hw2]; exact (Go.heap_setCell_other w1 ⟨mb, i, none⟩ (mb + 1) _ (by simp)).trans hr1
    have HB2 : Hid (Below w.heap.size w w2) := Lib.hid (by rw [hw2]; exact HB1.out.setCell (by rw [Hmb.out]; exact Nat.le_refl _) _)
    have Hm2 := Lib.hid hm2
    have Hr2 := Lib.hid hr2
    have HW2 := Lib.hid hw2
    clear hb1 hm1 hr1 hw2 hm2 hr2
    go_upto_region 4 with fail
    rw [← HW2.out]
    go_wp2_with (first | (refine wpList_load_row rfl 153 _ rfl mb rfl 153 (cellsB (m.set i y)) (0, 0) _ Hm2.out Tryz.underlying153 rfl (by rw [HS2.out]; exact Tryz.sizeMap) ?_) | (refine wpList_store_mid rfl 153 _ _ rfl (mb + 1) 0 (cellsB (m.set i y)) rfl rfl (there_at Hr2.out (by rw [HZs.out, HS2.out])) (by rw [HS2.out]; exact Tryz.sizeMap) (cellsB_one _) ?_; obtain ⟨hbw, hbg⟩ := whole_at Hr2.out (vs := (cellsB (m.set i y)).toList) (B := mb) (by rw [HZs.out, Array.length_toList, HS2.out]) (Nat.le_succ mb); generalize (World.setCells _ _ _ _) = wf at hbw hbg ⊢))
    refine bodyPost_ret (results_cell_row rfl _ _ (mb + 1) 153 (cellsB (m.set i y)) (0, 0) _ rfl hbg Tryz.underlying153 rfl (by rw [HS2.out]; exact Tryz.sizeMap)) rfl ?_
    exact ⟨rfl, HB2.out.trans (by rw [Hmb.out]; exact hbw)⟩

set_option maxHeartbeats 4000000 in
set_option maxRecDepth 100000 in
theorem give_any (m : List UInt8) (hm : m.length = 16) (n : Int) (w : World) : Calls Tryz.prog 155 #[mapV m, .int .i64 n] w fun e w' => e = .returned (mapV (Gd.giveI m n)) ∧ Below w.heap.size w w' := by
  have hsz : (cellsB m).size = 16 := by unfold cellsB; rw [List.size_toArray, byteCells_len]; exact hm
  obtain ⟨Z, hZ⟩ : ∃ Z : Array Value, Z = #[.int .u8 0, .int .u8 0, .int .u8 0, .int .u8 0, .int .u8 0, .int .u8 0, .int .u8 0, .int .u8 0, .int .u8 0, .int .u8 0, .int .u8 0, .int .u8 0, .int .u8 0, .int .u8 0, .int .u8 0, .int .u8 0] := ⟨_, rfl⟩
  have hZs : Z.size = 16 := by rw [hZ]; rfl
  obtain ⟨mb, hmb⟩ : ∃ mb, mb = w.heap.size := ⟨_, rfl⟩
  obtain ⟨wb, hwb⟩ : ∃ u, u = (w.alloc (.cells (cellsB m) 153)).alloc (.cells Z 153) := ⟨_, rfl⟩
  have hbb : Below w.heap.size w wb := by rw [hwb]; exact ((Below.refl _ _).alloc (Nat.le_refl _) _).alloc (by simp) _
  have hbc : wb.heap[mb]? = some (.cells (cellsB m) 153 (0, 0)) := by rw [hwb, hmb]; exact CellsAt.alloc (heap_alloc_new w _) _
  have hbr : wb.heap[mb + 1]? = some (.cells Z 153 (0, 0)) := by
    have := heap_alloc_new (w.alloc (.cells (cellsB m) 153)) (.cells Z 153)
    rw [World.size_alloc] at this
    rw [hwb, hmb]
    exact this
  have Hmb := Lib.hid hmb.symm
  have HBb := Lib.hid hbb
  have HWb := Lib.hid hwb
  have Hbc := Lib.hid hbc
  have Hbr := Lib.hid hbr
  have HZ := Lib.hid hZ
  have HZs := Lib.hid hZs
  have HS := Lib.hid hsz
  clear hsz hZ hZs hmb hbb hwb hbc hbr
  cases hb : Gd.isBlk n with
  | false =>
    have HN := Lib.hid (place_no n hb)
    have hu : Gd.giveI m n = m := by unfold Gd.giveI; rw [hb]; rfl
    rw [hu]
    unfold mapV
    clear hb hu
    go_enter Tryz.func155, Tryz.ntmps155
    go_upto_region 1 with fail
    rw [← HZ.out, ← HWb.out, Hmb.out]
    go_upto_region 4 with (go_at_call 183; refine (HN.out _).mono ?_; rintro e w1 ⟨rfl, rfl⟩)
    go_wp2_with (first | (refine wpList_load_row rfl 153 _ rfl mb rfl 153 (cellsB m) (0, 0) _ Hbc.out Tryz.underlying153 rfl (by rw [HS.out]; exact Tryz.sizeMap) ?_) | (refine wpList_store_mid rfl 153 _ _ rfl (mb + 1) 0 (cellsB m) rfl rfl (there_at Hbr.out (by rw [HZs.out, HS.out])) (by rw [HS.out]; exact Tryz.sizeMap) (cellsB_one m) ?_; obtain ⟨hbw, hbg⟩ := whole_at Hbr.out (vs := (cellsB m).toList) (B := mb) (by rw [HZs.out, Array.length_toList, HS.out]) (Nat.le_succ mb); generalize (World.setCells _ _ _ _) = wf at hbw hbg ⊢))
    refine bodyPost_ret (results_cell_row rfl _ _ (mb + 1) 153 (cellsB m) (0, 0) _ rfl hbg Tryz.underlying153 rfl (by rw [HS.out]; exact Tryz.sizeMap)) rfl ?_
    exact ⟨rfl, HBb.out.trans (by rw [Hmb.out]; exact hbw)⟩
  | true =>
    obtain ⟨k, rfl⟩ : ∃ k : Nat, n = k := ⟨n.toNat, by unfold Gd.isBlk at hb; simp at hb; omega⟩
    have hk : 1 ≤ k ∧ k ≤ 128 := by unfold Gd.isBlk at hb; simp at hb; omega
    obtain ⟨x, hx, hxe⟩ := map_get hm hk.1 hk.2
    obtain ⟨i, hi⟩ : ∃ i, i = (k - 1) / 8 := ⟨_, rfl⟩
    rw [← hi] at hx
    have ha := andNot8 ⟨x.toNat, x.toNat_lt⟩ ⟨(k - 1) % 8, Gd.bit8 k⟩
    change bits .andNot .u8 (x.toNat : Int) ((Gd.bitOf k : Nat) : Int) = _ at ha
    obtain ⟨y, hy⟩ : ∃ y : UInt8, (bits .andNot .u8 (x.toNat : Int) ((Gd.bitOf k : Nat) : Int) = y.toNat) ∧ Gd.giveI m (k : Int) = m.set i y := by
      refine ⟨UInt8.ofNat (x.toNat &&& (255 - Gd.bitOf k)), ?_, ?_⟩
      · rw [ha, UInt8.toNat_ofNat']
        congr 1
        exact (Nat.mod_eq_of_lt (Gd.and_lt ⟨x.toNat, x.toNat_lt⟩ ⟨(k - 1) % 8, Gd.bit8 k⟩)).symm
      · unfold Gd.giveI Gd.giveB
        rw [hb, Int.toNat_natCast, ← hxe, ← hi]
        rfl
    have HPl := Lib.hid fun W => place_yes k hk.1 hk.2 W
    rw [← hi] at HPl
    rw [hy.2]
    have hy1 := hy.1
    obtain ⟨bt, hbt⟩ : ∃ bt : Nat, bt = Gd.bitOf k := ⟨_, rfl⟩
    rw [← hbt] at hy1 HPl
    have hi16 : i < 16 := by omega
    have Hx := Lib.hid hx
    have HS2 : Hid ((cellsB (m.set i y)).size = 16) := Lib.hid (by unfold cellsB; rw [List.size_toArray, byteCells_len, List.length_set]; exact hm)
    clear hb hx hxe hi hbt hy ha
    unfold mapV
    go_enter Tryz.func155, Tryz.ntmps155
    go_upto_region 1 with fail
    rw [← HZ.out, ← HWb.out, Hmb.out]
    go_wp2_with fail
    refine (HPl.out wb).mono ?_
    rintro e w1 ⟨rfl, hb1⟩
    have hm1 := (hb1.block mb (lt_get Hbc.out)).trans Hbc.out
    have hr1 := (hb1.block (mb + 1) (lt_get Hbr.out)).trans Hbr.out
    have HB1 := Lib.hid (HBb.out.trans (hb1.mono HBb.out.size))
    have hc := (cell_of_row w1 mb i _ _ _ hm1).trans (cellsB_get Hx.out)
    have hf := frozen_of_row w1 mb i _ _ hm1
    obtain ⟨w2, hw2⟩ : ∃ u, u = w1.setCell ⟨mb, i, none⟩ (.int .u8 y.toNat) := ⟨_, rfl⟩
    have hm2 : w2.heap[mb]? = some (.cells (cellsB (m.set i y)) 153 (0, 0)) := by
      rw [hw2, ← cellsB_set]
      exact Go.heap_setCell_same w1 mb i _ _ _ hm1
    have hr2 : w2.heap[mb + 1]? = some (.cells Z 153 (0, 0)) := by rw [hw2]; exact (Go.heap_setCell_other w1 ⟨mb, i, none⟩ (mb + 1) _ (by simp)).trans hr1
    have HB2 : Hid (Below w.heap.size w w2) := Lib.hid (by rw [hw2]; exact HB1.out.setCell (by rw [Hmb.out]; exact Nat.le_refl _) _)
    have Hm2 := Lib.hid hm2
    have Hr2 := Lib.hid hr2
    have HW2 := Lib.hid hw2
    clear hb1 hm1 hr1 hw2 hm2 hr2
    go_upto_region 4 with fail
    rw [← HW2.out]
    go_wp2_with (first | (refine wpList_load_row rfl 153 _ rfl mb rfl 153 (cellsB (m.set i y)) (0, 0) _ Hm2.out Tryz.underlying153 rfl (by rw [HS2.out]; exact Tryz.sizeMap) ?_) | (refine wpList_store_mid rfl 153 _ _ rfl (mb + 1) 0 (cellsB (m.set i y)) rfl rfl (there_at Hr2.out (by rw [HZs.out, HS2.out])) (by rw [HS2.out]; exact Tryz.sizeMap) (cellsB_one _) ?_; obtain ⟨hbw, hbg⟩ := whole_at Hr2.out (vs := (cellsB (m.set i y)).toList) (B := mb) (by rw [HZs.out, Array.length_toList, HS2.out]) (Nat.le_succ mb); generalize (World.setCells _ _ _ _) = wf at hbw hbg ⊢))
    refine bodyPost_ret (results_cell_row rfl _ _ (mb + 1) 153 (cellsB (m.set i y)) (0, 0) _ rfl hbg Tryz.underlying153 rfl (by rw [HS2.out]; exact Tryz.sizeMap)) rfl ?_
    exact ⟨rfl, HB2.out.trans (by rw [Hmb.out]; exact hbw)⟩

end Go.Proofs.YtccpdkjonepoiaaGreatDoor
