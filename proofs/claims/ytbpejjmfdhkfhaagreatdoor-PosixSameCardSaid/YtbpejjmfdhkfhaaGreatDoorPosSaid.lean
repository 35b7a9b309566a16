/- Walks: the program's Same, at any two file systems: where it answers true, they are alike. -/
import Derived.Test.YtbpejjmfdhkfhaaGreatDoorPosSound
set_option linter.unusedVariables false
set_option linter.unusedSimpArgs false
namespace Go.Proofs.YtbpejjmfdhkfhaaGreatDoor
open Go.RowKit
open Go.ChangeMaps Go.MapKept

theorem look_open_no {W : World} {bo n : Nat} {D : DataW Unit} {γ : Nat → Nat} {O : List Pz.Op} (hown : W.ownsMap Tryz.prog 67 ptrE bo n D) (hmo : MapO D γ O) {kc kf : Int} (hc : I64 kc) (hf : I64 kf) (hm : Pz.ofd O kc kf < 0) :
    (Instr.lookup 63 (.map (some bo)) (.agg #[.int .i64 kc, .int .i64 kf]) false).run Tryz.prog W = .ok (.pointer none) W := by
  obtain ⟨v, ps, hrun, hv⟩ := hown.lookup Tryz.keyLaw Tryz.underlying63 (Tryz.zeroP W) (zd := .lit (.int .i64 (-1))) (zp := []) rfl (key_read hc hf)
  rw [(ofd_keys hmo hc hf).1 hm] at hv
  obtain ⟨rfl, _⟩ | ⟨c, _, hc⟩ := ptrE_inv hv
  · exact hrun
  · simp at hc

set_option maxHeartbeats 8000000 in
set_option maxRecDepth 100000 in
theorem fsaid_any {K : Nat} {w : World} {S T : Pz.Fil} {r1 bo1 r2 bo2 : Nat} {β γ μ ν : Nat → Nat} {V U : Nat → Prop} (h1 : Shape w r1 bo1 β μ S V) (h2 : Shape w r2 bo2 γ ν T U) (gS : Pz.Good K S) (gT : Pz.Good K T) (hI : ∀ o ∈ S.O, I64 o.client ∧ I64 o.fd) :
    Calls Tryz.prog 10 #[.pointer (some ⟨r1, 0, none⟩), .pointer (some ⟨r2, 0, none⟩)] w fun e w' => ∃ b : Bool, e = .returned (.bool b) ∧ (b = true → Pz.Alike S T) ∧ Below w.heap.size w w' := by
  obtain ⟨bt, hbt⟩ : ∃ b, b = w.heap.size := ⟨_, rfl⟩
  obtain ⟨wp, hwp⟩ : ∃ v, v = ((w.alloc (.map #[] 0)).alloc (.map #[] 0)).alloc (.cells #[.map (some w.heap.size), .map (some (w.heap.size + 1))] 83) := ⟨_, rfl⟩
  have hbp : Below w.heap.size w wp := by
    rw [hwp]
    exact (((Below.refl _ _).alloc (Nat.le_refl _) _).alloc (by simp) _).alloc (by simp; omega) _
  have hPp : PairB w wp bt (bt + 1) β γ V U [] := by
    refine ⟨?_, ?_, by omega, by omega, by omega, List.nodup_nil, List.nodup_nil, fun m hm => (by cases hm), hbp⟩
    · rw [hbt]
      refine (PMap.made w).keep ?_
      rw [hwp, Below.heap_alloc _ _ _ (by simp; omega), Below.heap_alloc _ _ _ (by simp)]
    · have := PMap.made (w.alloc (.map #[] 0))
      rw [show (w.alloc (.map #[] 0)).heap.size = bt + 1 by rw [hbt]; simp] at this
      refine this.keep ?_
      rw [hwp, Below.heap_alloc _ _ _ (by rw [hbt]; simp)]
  have hbox : wp.heap[bt + 1 + 1]? = some (.cells #[.map (some bt), .map (some (bt + 1))] 83 (0, 0)) := by
    have := heap_alloc_new ((w.alloc (.map #[] 0)).alloc (.map #[] 0)) (.cells #[.map (some w.heap.size), .map (some (w.heap.size + 1))] 83)
    rw [← hwp] at this
    rw [hbt]
    have e : ((w.alloc (.map #[] 0)).alloc (.map #[] 0)).heap.size = w.heap.size + 1 + 1 := by simp
    rw [e] at this
    exact this
  have hBd : Below wp.heap.size wp wp.drew := (Below.refl _ wp).drew
  have hPd := hPp.keep hBd
  obtain ⟨nA, hnA⟩ : ∃ n, n = S.O.length := ⟨_, rfl⟩
  obtain ⟨nB, hnB⟩ : ∃ n, n = T.O.length := ⟨_, rfl⟩
  have facts : ∀ W, Below w.heap.size w W → (W.cell? ⟨r1, 0, none⟩ = some (.pointer (some ⟨β 0, 0, none⟩)) ∧ W.cell? ⟨r1, 1, none⟩ = some (.map (some bo1)) ∧ W.cell? ⟨r2, 0, none⟩ = some (.pointer (some ⟨γ 0, 0, none⟩)) ∧ W.cell? ⟨r2, 1, none⟩ = some (.map (some bo2))) ∧
      (∀ ty, (Builtin.len_ #[63] ty #[.map (some bo1)]).run Tryz.prog W = .ok (.int .i64 nA) W) ∧ ∀ ty, (Builtin.len_ #[63] ty #[.map (some bo2)]).run Tryz.prog W = .ok (.int .i64 nB) W := fun W hW => by
    have s1 := h1.keep hW
    have s2 := h2.keep hW
    obtain ⟨D, o1, m1⟩ := s1.opn
    obtain ⟨D', o2, m2⟩ := s2.opn
    refine ⟨⟨s1.rc.1, s1.rc.2, s2.rc.1, s2.rc.2⟩, fun ty => ?_, fun ty => ?_⟩
    · rw [hnA, ← m1.2]
      exact o1.len Tryz.underlying63 ty
    · rw [hnB, ← m2.2]
      exact o2.len Tryz.underlying63 ty
  have Facts := Lib.hid facts
  have HPd := Lib.hid hPd
  have HBox := Lib.hid hbox
  have HB := Lib.hid hbt
  have HPs := Lib.hid (sound_any h1 h2 gS.dirs gT.dirs bt (bt + 1))
  have hRt : ∃ b0 : Bool, Hid (∀ W, PairB w W bt (bt + 1) β γ V U [] → Calls Tryz.prog 45 #[.agg #[.map (some bt), .map (some (bt + 1))], .pointer (some ⟨β 0, 0, none⟩), .pointer (some ⟨γ 0, 0, none⟩)] W fun e w' => ∃ P', e = .returned (.bool b0) ∧ PairB w w' bt (bt + 1) β γ V U P' ∧ Only (fun k => k = bt ∨ k = bt + 1) W w' ∧ (b0 = true → (0, 0) ∈ P' ∧ ∀ a ∈ P', Pz.Fit S T P' a)) := by
    by_cases hEx : ∃ Q, Pz.Full S T Q ∧ (0, 0) ∈ Q
    · obtain ⟨Q, hQ, hq⟩ := hEx
      refine ⟨true, Lib.hid fun W hW => (HPs.out S.N.length [] 0 0 W (by simp) h1.v0 h2.v0 hW).mono ?_⟩
      rintro e w' ⟨b, P', rfl, a1, a2, a3, a4, a5, a6⟩
      obtain ⟨rfl, _⟩ := a6 Q hQ (fun a ha => (by cases ha)) hq
      exact ⟨P', rfl, a1, a4, fun h => ⟨(a5 h).1, fun a ha => ((a5 h).2 a ha).resolve_left (by simp)⟩⟩
    · refine ⟨false, Lib.hid fun W hW => (HPs.out S.N.length [] 0 0 W (by simp) h1.v0 h2.v0 hW).mono ?_⟩
      rintro e w' ⟨b, P', rfl, a1, a2, a3, a4, a5, a6⟩
      cases b with
      | false => exact ⟨P', rfl, a1, a4, fun h => by cases h⟩
      | true => exact (hEx ⟨P', ⟨fun a ha => ((a5 rfl).2 a ha).resolve_left (by simp), a1.n1, a1.n2⟩, (a5 rfl).1⟩).elim
  obtain ⟨b0, HRt⟩ := hRt
  obtain ⟨⟨c0, c1, c2, c3⟩, l1, l2⟩ := facts _ hPd.below
  have xD : wp.drew.heap[bt + 1 + 1]? = some (.cells #[.map (some bt), .map (some (bt + 1))] 83 (0, 0)) := hbox
  have x0 := cell_of_row wp.drew _ 0 _ _ _ xD
  have x1 := cell_of_row wp.drew _ 1 _ _ _ xD
  rw [← hbt] at hwp
  have HWp := Lib.hid hwp
  have hnb : w.heap.size = bt := hbt.symm
  have HN := Lib.hid (And.intro hnA hnB)
  have GS := Lib.hid (And.intro gS gT)
  have HI64 := Lib.hid hI
  clear facts hPd hPp hbp hbox hwp hBd xD hbt hnA hnB gS gT hI
  have hmm := @run_makeMap Tryz.prog
  go_enter Tryz.func10, Tryz.ntmps10
  go_upto_region 2 with fail
  rw [← HWp.out]
  go_cut [35] from 12 to 35 (fun s35 wx => ∃ bad : Bool, s35 = .bool bad ∧ Hid (bad = false → nA = nB ∧ ∃ P', PairB w wx bt (bt + 1) β γ V U P' ∧ wx.heap[bt + 1 + 1]? = some (.cells #[.map (some bt), .map (some (bt + 1))] 83 (0, 0)) ∧ (0, 0) ∈ P' ∧ ∀ a ∈ P', Pz.Fit S T P' a) ∧ Hid (Below w.heap.size w wx))
  case first =>
    have hs0 : wp.drew.cell? ⟨bt + 1 + 1, 0, none⟩ = some (.map (some bt)) ∧ wp.drew.cell? ⟨bt + 1 + 1, 1, none⟩ = some (.map (some (bt + 1))) ∧ wp.drew.cell? ⟨r1, 0, none⟩ = some (.pointer (some ⟨β 0, 0, none⟩)) ∧ wp.drew.cell? ⟨r1, 1, none⟩ = some (.map (some bo1)) ∧ wp.drew.cell? ⟨r2, 0, none⟩ = some (.pointer (some ⟨γ 0, 0, none⟩)) ∧ wp.drew.cell? ⟨r2, 1, none⟩ = some (.map (some bo2)) ∧ (∀ ty, (Builtin.len_ #[63] ty #[.map (some bo1)]).run Tryz.prog wp.drew = .ok (.int .i64 nA) wp.drew) ∧ (∀ ty, (Builtin.len_ #[63] ty #[.map (some bo2)]).run Tryz.prog wp.drew = .ok (.int .i64 nB) wp.drew) := ⟨x0, x1, c0, c1, c2, c3, l1, l2⟩
    clear x0 x1 c0 c1 c2 c3 l1 l2
    cases b0 with
    | false =>
      refine wp_region_held_drew (S := fun w' => w'.cell? ⟨bt + 1 + 1, 0, none⟩ = some (.map (some bt)) ∧ w'.cell? ⟨bt + 1 + 1, 1, none⟩ = some (.map (some (bt + 1))) ∧ w'.cell? ⟨r1, 0, none⟩ = some (.pointer (some ⟨β 0, 0, none⟩)) ∧ w'.cell? ⟨r1, 1, none⟩ = some (.map (some bo1)) ∧ w'.cell? ⟨r2, 0, none⟩ = some (.pointer (some ⟨γ 0, 0, none⟩)) ∧ w'.cell? ⟨r2, 1, none⟩ = some (.map (some bo2)) ∧ (∀ ty, (Builtin.len_ #[63] ty #[.map (some bo1)]).run Tryz.prog w' = .ok (.int .i64 nA) w') ∧ (∀ ty, (Builtin.len_ #[63] ty #[.map (some bo2)]).run Tryz.prog w' = .ok (.int .i64 nB) w')) (by kernel_rfl) ?_ (fun hHeld => ?_)
      · exact hs0
      refine wpAnyH_take (i := 0) (oi := _) (v := ?_) rfl (by kernel_rfl) (by kernel_rfl) (by kernel_rfl) (fun _ _ _ h => h) (Or.inl ⟨by rfl, ?_⟩) (by assumption) ?_
      rotate_left
      · intro w hSw
        (try dsimp only at hSw)
        first | (go_simp; done) | (go_simp; with_reducible rfl)
      try simp only [List.getElem_toArray, List.getElem_cons_succ, List.getElem_cons_zero, Act.put, List.setIfInBounds_toArray, List.set_cons_zero, List.set_cons_succ]
      refine wpAnyH_take (i := 1) (oi := _) (v := ?_) rfl (by kernel_rfl) (by kernel_rfl) (by kernel_rfl) (fun _ _ _ h => h) (Or.inl ⟨by rfl, ?_⟩) (by assumption) ?_
      rotate_left
      · intro w hSw
        (try dsimp only at hSw)
        first | (go_simp; done) | (go_simp; with_reducible rfl)
      try simp only [List.getElem_toArray, List.getElem_cons_succ, List.getElem_cons_zero, Act.put, List.setIfInBounds_toArray, List.set_cons_zero, List.set_cons_succ]
      refine wpAnyH_take (i := 2) (oi := _) (v := ?_) rfl (by kernel_rfl) (by kernel_rfl) (by kernel_rfl) (fun _ _ _ h => h) (Or.inl ⟨by rfl, ?_⟩) (by assumption) ?_
      rotate_left
      · intro w hSw
        (try dsimp only at hSw)
        first | (go_simp; done) | (go_simp; with_reducible rfl)
      try simp only [List.getElem_toArray, List.getElem_cons_succ, List.getElem_cons_zero, Act.put, List.setIfInBounds_toArray, List.set_cons_zero, List.set_cons_succ]
      refine wpAnyH_take (i := 3) (oi := _) (v := ?_) rfl (by kernel_rfl) (by kernel_rfl) (by kernel_rfl) (fun _ _ _ h => h) (Or.inl ⟨by rfl, ?_⟩) (by assumption) ?_
      rotate_left
      · intro w hSw
        (try dsimp only at hSw)
        first | (go_simp; done) | (go_simp; with_reducible rfl)
      try simp only [List.getElem_toArray, List.getElem_cons_succ, List.getElem_cons_zero, Act.put, List.setIfInBounds_toArray, List.set_cons_zero, List.set_cons_succ]
      refine wpAnyH_take (i := 4) (oi := _) (v := ?_) rfl (by kernel_rfl) (by kernel_rfl) (by kernel_rfl) (fun _ _ _ h => h) (Or.inl ⟨by rfl, ?_⟩) (by assumption) ?_
      rotate_left
      · intro w hSw
        (try dsimp only at hSw)
        first | (go_simp; done) | (go_simp; with_reducible rfl)
      try simp only [List.getElem_toArray, List.getElem_cons_succ, List.getElem_cons_zero, Act.put, List.setIfInBounds_toArray, List.set_cons_zero, List.set_cons_succ]
      refine wpAnyH_take (i := 5) (oi := _) (v := ?_) rfl (by kernel_rfl) (by kernel_rfl) (by kernel_rfl) (fun _ _ _ h => h) (Or.inl ⟨by rfl, ?_⟩) (by assumption) ?_
      rotate_left
      · intro w hSw
        (try dsimp only at hSw)
        first | (go_simp; done) | (go_simp; with_reducible rfl)
      try simp only [List.getElem_toArray, List.getElem_cons_succ, List.getElem_cons_zero, Act.put, List.setIfInBounds_toArray, List.set_cons_zero, List.set_cons_succ]
      refine wpAnyH_take (i := 6) (oi := _) (v := ?_) rfl (by kernel_rfl) (by kernel_rfl) (by kernel_rfl) (fun _ _ _ h => h) (Or.inl ⟨by rfl, ?_⟩) (by assumption) ?_
      rotate_left
      · intro w hSw
        (try dsimp only at hSw)
        first | (go_simp; done) | (go_simp; with_reducible rfl)
      try simp only [List.getElem_toArray, List.getElem_cons_succ, List.getElem_cons_zero, Act.put, List.setIfInBounds_toArray, List.set_cons_zero, List.set_cons_succ]
      refine wpAnyH_take (i := 7) (oi := _) (v := ?_) rfl (by kernel_rfl) (by kernel_rfl) (by kernel_rfl) (fun _ _ _ h => h) (Or.inl ⟨by rfl, ?_⟩) (by assumption) ?_
      rotate_left
      · intro w hSw
        (try dsimp only at hSw)
        first | (go_simp; done) | (go_simp; with_reducible rfl)
      try simp only [List.getElem_toArray, List.getElem_cons_succ, List.getElem_cons_zero, Act.put, List.setIfInBounds_toArray, List.set_cons_zero, List.set_cons_succ]
      refine wpAnyH_take (i := 8) (oi := _) (v := ?_) rfl (by kernel_rfl) (by kernel_rfl) (by kernel_rfl) (fun _ _ _ h => h) (Or.inl ⟨by rfl, ?_⟩) (by assumption) ?_
      rotate_left
      · intro w hSw
        (try dsimp only at hSw)
        first | (go_simp; done) | (go_simp; with_reducible rfl)
      try simp only [List.getElem_toArray, List.getElem_cons_succ, List.getElem_cons_zero, Act.put, List.setIfInBounds_toArray, List.set_cons_zero, List.set_cons_succ]
      refine wpAnyH_ready (rs := [9]) (by kernel_rfl) (by simp) ?_
      refine AllReadyH.cons (o := _) rfl (fun K hK => ?_) AllReadyH.nil
      go_simp
      go_at_call 45
      refine (HRt.out _ HPd.out).mono ?_
      rintro e w3 ⟨P3, rfl, hP3, hO3, hb3⟩
      have HP3 := Lib.hid hP3
      have HX3 : Hid (w3.heap[bt + 1 + 1]? = some (.cells #[.map (some bt), .map (some (bt + 1))] 83 (0, 0))) := Lib.hid ((hO3.block _ (lt_of_get HBox.out) (fun e => by have e : bt + 1 + 1 = bt ∨ bt + 1 + 1 = bt + 1 := e; omega)).trans HBox.out)
      have hs3 : w3.cell? ⟨bt + 1 + 1, 0, none⟩ = some (.map (some bt)) ∧ w3.cell? ⟨bt + 1 + 1, 1, none⟩ = some (.map (some (bt + 1))) ∧ w3.cell? ⟨r1, 0, none⟩ = some (.pointer (some ⟨β 0, 0, none⟩)) ∧ w3.cell? ⟨r1, 1, none⟩ = some (.map (some bo1)) ∧ w3.cell? ⟨r2, 0, none⟩ = some (.pointer (some ⟨γ 0, 0, none⟩)) ∧ w3.cell? ⟨r2, 1, none⟩ = some (.map (some bo2)) ∧ (∀ ty, (Builtin.len_ #[63] ty #[.map (some bo1)]).run Tryz.prog w3 = .ok (.int .i64 nA) w3) ∧ (∀ ty, (Builtin.len_ #[63] ty #[.map (some bo2)]).run Tryz.prog w3 = .ok (.int .i64 nB) w3) := ⟨cell_of_row w3 _ 0 _ _ _ HX3.out, cell_of_row w3 _ 1 _ _ _ HX3.out, (Facts.out _ hP3.below).1.1, (Facts.out _ hP3.below).1.2.1, (Facts.out _ hP3.below).1.2.2.1, (Facts.out _ hP3.below).1.2.2.2, (Facts.out _ hP3.below).2.1, (Facts.out _ hP3.below).2.2⟩
      dsimp only
      refine hK.out _ _ hs3 (fun hHeld => ?_)
      clear hK K
      try simp only [List.getElem_toArray, List.getElem_cons_succ, List.getElem_cons_zero, Act.put, List.setIfInBounds_toArray, List.set_cons_zero, List.set_cons_succ]
      refine wpAnyH_take (i := 10) (oi := _) (v := ?_) rfl (by kernel_rfl) (by kernel_rfl) (by kernel_rfl) (fun _ _ _ h => h) (Or.inl ⟨by rfl, ?_⟩) (by assumption) ?_
      rotate_left
      · intro w hSw
        (try dsimp only at hSw)
        first | (go_simp; done) | (go_simp; with_reducible rfl)
      try simp only [List.getElem_toArray, List.getElem_cons_succ, List.getElem_cons_zero, Act.put, List.setIfInBounds_toArray, List.set_cons_zero, List.set_cons_succ]
      refine wpAnyH_take (i := 11) (oi := _) (v := ?_) rfl (by kernel_rfl) (by kernel_rfl) (by kernel_rfl) (fun _ _ _ h => h) (Or.inl ⟨by rfl, ?_⟩) (by assumption) ?_
      rotate_left
      · intro w hSw
        (try dsimp only at hSw)
        first | (go_simp; done) | (go_simp; with_reducible rfl)
      try simp only [List.getElem_toArray, List.getElem_cons_succ, List.getElem_cons_zero, Act.put, List.setIfInBounds_toArray, List.set_cons_zero, List.set_cons_succ]
      refine wpAnyH_take (i := 12) (oi := _) (v := undef) rfl (by kernel_rfl) (by kernel_rfl) (by kernel_rfl) (fun _ _ _ h => h) (Or.inr ⟨by rfl, rfl⟩) (by assumption) ?_
      try simp only [List.getElem_toArray, List.getElem_cons_succ, List.getElem_cons_zero, Act.put, List.setIfInBounds_toArray, List.set_cons_zero, List.set_cons_succ]
      refine wpAnyH_take (i := 13) (oi := _) (v := undef) rfl (by kernel_rfl) (by kernel_rfl) (by kernel_rfl) (fun _ _ _ h => h) (Or.inr ⟨by rfl, rfl⟩) (by assumption) ?_
      try simp only [List.getElem_toArray, List.getElem_cons_succ, List.getElem_cons_zero, Act.put, List.setIfInBounds_toArray, List.set_cons_zero, List.set_cons_succ]
      refine wpAnyH_take (i := 14) (oi := _) (v := undef) rfl (by kernel_rfl) (by kernel_rfl) (by kernel_rfl) (fun _ _ _ h => h) (Or.inr ⟨by rfl, rfl⟩) (by assumption) ?_
      try simp only [List.getElem_toArray, List.getElem_cons_succ, List.getElem_cons_zero, Act.put, List.setIfInBounds_toArray, List.set_cons_zero, List.set_cons_succ]
      refine wpAnyH_take (i := 15) (oi := _) (v := undef) rfl (by kernel_rfl) (by kernel_rfl) (by kernel_rfl) (fun _ _ _ h => h) (Or.inr ⟨by rfl, rfl⟩) (by assumption) ?_
      try simp only [List.getElem_toArray, List.getElem_cons_succ, List.getElem_cons_zero, Act.put, List.setIfInBounds_toArray, List.set_cons_zero, List.set_cons_succ]
      refine wpAnyH_take (i := 16) (oi := _) (v := undef) rfl (by kernel_rfl) (by kernel_rfl) (by kernel_rfl) (fun _ _ _ h => h) (Or.inr ⟨by rfl, rfl⟩) (by assumption) ?_
      try simp only [List.getElem_toArray, List.getElem_cons_succ, List.getElem_cons_zero, Act.put, List.setIfInBounds_toArray, List.set_cons_zero, List.set_cons_succ]
      refine wpAnyH_take (i := 17) (oi := _) (v := undef) rfl (by kernel_rfl) (by kernel_rfl) (by kernel_rfl) (fun _ _ _ h => h) (Or.inr ⟨by rfl, rfl⟩) (by assumption) ?_
      try simp only [List.getElem_toArray, List.getElem_cons_succ, List.getElem_cons_zero, Act.put, List.setIfInBounds_toArray, List.set_cons_zero, List.set_cons_succ]
      refine wpAnyH_take (i := 18) (oi := _) (v := undef) rfl (by kernel_rfl) (by kernel_rfl) (by kernel_rfl) (fun _ _ _ h => h) (Or.inr ⟨by rfl, rfl⟩) (by assumption) ?_
      try simp only [List.getElem_toArray, List.getElem_cons_succ, List.getElem_cons_zero, Act.put, List.setIfInBounds_toArray, List.set_cons_zero, List.set_cons_succ]
      refine wpAnyH_take (i := 19) (oi := _) (v := undef) rfl (by kernel_rfl) (by kernel_rfl) (by kernel_rfl) (fun _ _ _ h => h) (Or.inr ⟨by rfl, rfl⟩) (by assumption) ?_
      try simp only [List.getElem_toArray, List.getElem_cons_succ, List.getElem_cons_zero, Act.put, List.setIfInBounds_toArray, List.set_cons_zero, List.set_cons_succ]
      refine wpAnyH_take (i := 20) (oi := _) (v := undef) rfl (by kernel_rfl) (by kernel_rfl) (by kernel_rfl) (fun _ _ _ h => h) (Or.inr ⟨by rfl, rfl⟩) (by assumption) ?_
      try simp only [List.getElem_toArray, List.getElem_cons_succ, List.getElem_cons_zero, Act.put, List.setIfInBounds_toArray, List.set_cons_zero, List.set_cons_succ]
      refine wpAnyH_take (i := 21) (oi := _) (v := undef) rfl (by kernel_rfl) (by kernel_rfl) (by kernel_rfl) (fun _ _ _ h => h) (Or.inr ⟨by rfl, rfl⟩) (by assumption) ?_
      try simp only [List.getElem_toArray, List.getElem_cons_succ, List.getElem_cons_zero, Act.put, List.setIfInBounds_toArray, List.set_cons_zero, List.set_cons_succ]
      refine wpAnyH_take (i := 22) (oi := _) (v := undef) rfl (by kernel_rfl) (by kernel_rfl) (by kernel_rfl) (fun _ _ _ h => h) (Or.inr ⟨by rfl, rfl⟩) (by assumption) ?_
      try simp only [List.getElem_toArray, List.getElem_cons_succ, List.getElem_cons_zero, Act.put, List.setIfInBounds_toArray, List.set_cons_zero, List.set_cons_succ]
      refine wpAnyH_take (i := 23) (oi := _) (v := ?_) rfl (by kernel_rfl) (by kernel_rfl) (by kernel_rfl) (fun _ _ _ h => h) (Or.inl ⟨by rfl, ?_⟩) (by assumption) ?_
      rotate_left
      · intro w hSw
        (try dsimp only at hSw)
        first | (go_simp; done) | (go_simp; with_reducible rfl)
      try simp only [List.getElem_toArray, List.getElem_cons_succ, List.getElem_cons_zero, Act.put, List.setIfInBounds_toArray, List.set_cons_zero, List.set_cons_succ]
      refine wpAnyH_done (by kernel_rfl) ?_ _
      simp only [Exit.then]
      go_wp2_with fail
      go_meet
      exact ⟨true, rfl, Lib.hid (fun h => by cases h), Lib.hid HP3.out.below⟩
    | true =>
      by_cases hl : nA = nB
      · subst hl
        go_region_held3 (fun w' => w'.cell? ⟨bt + 1 + 1, 0, none⟩ = some (.map (some bt)) ∧ w'.cell? ⟨bt + 1 + 1, 1, none⟩ = some (.map (some (bt + 1))) ∧ w'.cell? ⟨r1, 0, none⟩ = some (.pointer (some ⟨β 0, 0, none⟩)) ∧ w'.cell? ⟨r1, 1, none⟩ = some (.map (some bo1)) ∧ w'.cell? ⟨r2, 0, none⟩ = some (.pointer (some ⟨γ 0, 0, none⟩)) ∧ w'.cell? ⟨r2, 1, none⟩ = some (.map (some bo2)) ∧ (∀ ty, (Builtin.len_ #[63] ty #[.map (some bo1)]).run Tryz.prog w' = .ok (.int .i64 nA) w') ∧ (∀ ty, (Builtin.len_ #[63] ty #[.map (some bo2)]).run Tryz.prog w' = .ok (.int .i64 nA) w')) (first | exact hs0 | exact hs3 | go_keep) (first | (go_at_call 45; refine (HRt.out _ HPd.out).mono ?_; rintro e w3 ⟨P3, rfl, hP3, hO3, hb3⟩; have HP3 := Lib.hid hP3; have Hb3 := Lib.hid hb3; have HX3 : Hid (w3.heap[bt + 1 + 1]? = some (.cells #[.map (some bt), .map (some (bt + 1))] 83 (0, 0))) := Lib.hid ((hO3.block _ (lt_of_get HBox.out) (fun e => by have e : bt + 1 + 1 = bt ∨ bt + 1 + 1 = bt + 1 := e; omega)).trans HBox.out); have hs3 : w3.cell? ⟨bt + 1 + 1, 0, none⟩ = some (.map (some bt)) ∧ w3.cell? ⟨bt + 1 + 1, 1, none⟩ = some (.map (some (bt + 1))) ∧ w3.cell? ⟨r1, 0, none⟩ = some (.pointer (some ⟨β 0, 0, none⟩)) ∧ w3.cell? ⟨r1, 1, none⟩ = some (.map (some bo1)) ∧ w3.cell? ⟨r2, 0, none⟩ = some (.pointer (some ⟨γ 0, 0, none⟩)) ∧ w3.cell? ⟨r2, 1, none⟩ = some (.map (some bo2)) ∧ (∀ ty, (Builtin.len_ #[63] ty #[.map (some bo1)]).run Tryz.prog w3 = .ok (.int .i64 nA) w3) ∧ (∀ ty, (Builtin.len_ #[63] ty #[.map (some bo2)]).run Tryz.prog w3 = .ok (.int .i64 nA) w3) := ⟨cell_of_row w3 _ 0 _ _ _ HX3.out, cell_of_row w3 _ 1 _ _ _ HX3.out, (Facts.out _ hP3.below).1.1, (Facts.out _ hP3.below).1.2.1, (Facts.out _ hP3.below).1.2.2.1, (Facts.out _ hP3.below).1.2.2.2, (Facts.out _ hP3.below).2.1, (Facts.out _ hP3.below).2.2⟩))
        simp only [Exit.then]
        go_wp2_with fail
        go_meet
        exact ⟨false, rfl, Lib.hid (fun _ => ⟨by simp, P3, HP3.out, HX3.out, Hb3.out (by simp)⟩), Lib.hid HP3.out.below⟩
      · have hlb : ((nA : Int) == (nB : Int)) = false := by rw [beq_eq_false_iff_ne]; omega
        have hln : ((nA : Int) != (nB : Int)) = true := by rw [bne, hlb]; rfl
        clear hl
        go_region_held3 (fun w' => w'.cell? ⟨bt + 1 + 1, 0, none⟩ = some (.map (some bt)) ∧ w'.cell? ⟨bt + 1 + 1, 1, none⟩ = some (.map (some (bt + 1))) ∧ w'.cell? ⟨r1, 0, none⟩ = some (.pointer (some ⟨β 0, 0, none⟩)) ∧ w'.cell? ⟨r1, 1, none⟩ = some (.map (some bo1)) ∧ w'.cell? ⟨r2, 0, none⟩ = some (.pointer (some ⟨γ 0, 0, none⟩)) ∧ w'.cell? ⟨r2, 1, none⟩ = some (.map (some bo2)) ∧ (∀ ty, (Builtin.len_ #[63] ty #[.map (some bo1)]).run Tryz.prog w' = .ok (.int .i64 nA) w') ∧ (∀ ty, (Builtin.len_ #[63] ty #[.map (some bo2)]).run Tryz.prog w' = .ok (.int .i64 nB) w')) (first | exact hs0 | exact hs3 | go_keep) (first | (go_at_call 45; refine (HRt.out _ HPd.out).mono ?_; rintro e w3 ⟨P3, rfl, hP3, hO3, hb3⟩; have HP3 := Lib.hid hP3; have Hb3 := Lib.hid hb3; have HX3 : Hid (w3.heap[bt + 1 + 1]? = some (.cells #[.map (some bt), .map (some (bt + 1))] 83 (0, 0))) := Lib.hid ((hO3.block _ (lt_of_get HBox.out) (fun e => by have e : bt + 1 + 1 = bt ∨ bt + 1 + 1 = bt + 1 := e; omega)).trans HBox.out); have hs3 : w3.cell? ⟨bt + 1 + 1, 0, none⟩ = some (.map (some bt)) ∧ w3.cell? ⟨bt + 1 + 1, 1, none⟩ = some (.map (some (bt + 1))) ∧ w3.cell? ⟨r1, 0, none⟩ = some (.pointer (some ⟨β 0, 0, none⟩)) ∧ w3.cell? ⟨r1, 1, none⟩ = some (.map (some bo1)) ∧ w3.cell? ⟨r2, 0, none⟩ = some (.pointer (some ⟨γ 0, 0, none⟩)) ∧ w3.cell? ⟨r2, 1, none⟩ = some (.map (some bo2)) ∧ (∀ ty, (Builtin.len_ #[63] ty #[.map (some bo1)]).run Tryz.prog w3 = .ok (.int .i64 nA) w3) ∧ (∀ ty, (Builtin.len_ #[63] ty #[.map (some bo2)]).run Tryz.prog w3 = .ok (.int .i64 nB) w3) := ⟨cell_of_row w3 _ 0 _ _ _ HX3.out, cell_of_row w3 _ 1 _ _ _ HX3.out, (Facts.out _ hP3.below).1.1, (Facts.out _ hP3.below).1.2.1, (Facts.out _ hP3.below).1.2.2.1, (Facts.out _ hP3.below).1.2.2.2, (Facts.out _ hP3.below).2.1, (Facts.out _ hP3.below).2.2⟩))
        simp only [Exit.then]
        go_wp2_with fail
        go_meet
        exact ⟨true, rfl, Lib.hid (fun h => by cases h), Lib.hid HP3.out.below⟩
  case rest =>
  obtain ⟨wy, rfl⟩ : ∃ v, v = wc := ⟨_, rfl⟩
  obtain ⟨bad, rfl, HY, HBy⟩ := hcut
  cases bad with
  | true =>
    clear x0 x1 c0 c1 c2 c3 l1 l2
    go_wp2
    go_ret
    exact ⟨false, rfl, (fun h => (by cases h)), HBy.out⟩
  | false =>
  obtain ⟨hnn, P0, hP0, hX0, hz0, hf0⟩ := HY.out rfl
  have HPy := Lib.hid (And.intro hP0 hX0)
  have HFy := Lib.hid (And.intro hz0 hf0)
  have Hnn := Lib.hid hnn
  obtain ⟨⟨d0, d1, d2, d3⟩, _, _⟩ := Facts.out _ hP0.below
  obtain ⟨D1, own1, mo1⟩ := (h1.keep hP0.below).opn
  obtain ⟨D2, own2, mo2⟩ := (h2.keep hP0.below).opn
  have Ho1 := Lib.hid own1
  have Ho2 := Lib.hid own2
  have Hm1 := Lib.hid mo1
  have Hm2 := Lib.hid mo2
  have Hz : Hid (bo1 < bt ∧ bo2 < bt ∧ r2 < bt) := Lib.hid (by
    obtain ⟨_, o1, _⟩ := h1.opn
    obtain ⟨_, o2, _⟩ := h2.opn
    have := o1.lt
    have := o2.lt
    have := lt_of_get h2.root
    exact ⟨by omega, by omega, by omega⟩)
  have Hd3 := Lib.hid d3
  obtain ⟨cap, hcap⟩ : ∃ cap, cap = S.O.length := ⟨_, rfl⟩
  rw [← hcap] at Ho1
  clear HY hP0 hX0 hz0 hf0 hnn d0 d2 d3 own1 own2 mo1 mo2 hcap x0 x1 c0 c1 c2 c3 l1 l2
  go_wp2_with (at_range; refine wpList_range_own _ rfl _ 63 rfl 67 62 Tryz.keyLaw Tryz.underlying63 _ _ _ D1 rfl Ho1.out ?_; intro wq hrg0 hg0 hs0)
  go_frame
  go_loopw [] (fun wr => ∃ (left : Lit → Bool) (cnt : Nat) (P' : List (Nat × Nat)), wr.ranges Tryz.prog 67 ptrE bo1 wy.heap.size cap D1 left cnt ∧ Hid (PairB w wr bt (bt + 1) β γ V U P' ∧ wr.heap[bt + 1 + 1]? = some (.cells #[.map (some bt), .map (some (bt + 1))] 83 (0, 0)) ∧ wy.heap.size < wr.heap.size ∧ (0, 0) ∈ P' ∧ (∀ a ∈ P', Pz.Fit S T P' a) ∧ ∀ c fd, I64 c → I64 fd → left (keyL c fd) = false → 0 ≤ Pz.ofd S.O c fd → 0 ≤ Pz.ofd T.O c fd ∧ ((Pz.ofd S.O c fd).toNat, (Pz.ofd T.O c fd).toNat) ∈ P')) (fun wr => wr.rangeLeft bo1 wy.heap.size)
  case atStart =>
    have hb := (Below.refl wy.heap.size wy).grown hg0 (Nat.le_refl _) (fun j hj => by cases hj)
    refine ⟨_, _, P0, hrg0, Lib.hid ⟨HPy.out.1.keep hb, (hb.block _ (lt_of_get HPy.out.2)).trans HPy.out.2, by omega, HFy.out.1, HFy.out.2, fun c fd hc hf hx hE => ?_⟩⟩
    have : Maps.has D1 (keyL c fd) = true := Maps.has_true_of_atKey (y := .lit (.int .i64 (β (Pz.ofd S.O c fd).toNat))) fun z => by rw [Hm1.out.1 _ _ z hc hf, if_neg (by omega)]
    rw [hx] at this
    cases this
  case round =>
    obtain ⟨left, cnt, P', hrg, HR⟩ := hrel
    go_wp2_with (at_next; refine wpList_next_ranges _ rfl _ rfl 67 Tryz.keyLaw ptrE keyOfP ptrOf (fun key kl hk => by obtain ⟨c, fd, hx, _⟩ := key_shape hk; exact ⟨(c, fd), hx⟩) (fun v y hv => ptrE_shape hv) bo1 wy.heap.size cap _ _ _ rfl hrg ?_ ?_)
    · intro hc0 hl0
      have HFin : Hid (Pz.Alike S T ∧ Below w.heap.size w wr) := Lib.hid (by
        obtain ⟨z1, z2, z3, z4, z5, z6⟩ := HR.out
        refine ⟨Pz.Bis.like (P := P') ⟨z5, z1.n1, z1.n2, z4, fun q hq => ⟨h1.vlt _ (z1.mem q hq).1, h2.vlt _ (z1.mem q hq).2⟩, ?_, fun c fd hx => ?_⟩ GS.out.1 GS.out.2, z1.below⟩
        · rw [← HN.out.1, ← HN.out.2, Hnn.out]
        · obtain ⟨o, ho, rfl, rfl⟩ := Pz.ofd_memC.1 hx
          exact z6 _ _ (HI64.out o ho).1 (HI64.out o ho).2 (hl0 _) hx)
      clear hrg hc0 hl0
      go_wp2
      go_ret
      exact ⟨true, rfl, fun _ => HFin.out.1, HFin.out.2⟩
    · intro kc kf c kl yd yp w2 cnt2 hkey hlk hv hat hrg2 hlt hg2 hs2 hen
      obtain ⟨c', f', hx, hic, hif, rfl⟩ := key_shape hkey
      obtain ⟨rfl, rfl⟩ : kc = c' ∧ kf = f' := by
        unfold keyOfP at hx
        simpa using hx
      obtain ⟨n, hn, rfl⟩ := open_of_range (y := (yd, yp)) Hm1.out hic hif hv hat
      have hen2 : (Instr.entry (.pointer (some ⟨wy.heap.size, 0, none⟩))).run Tryz.prog w2 = .ok (.tuple #[.agg #[.int .i64 kc, .int .i64 kf], .pointer (some ⟨β n, 0, none⟩)]) w2 := hen
      obtain ⟨oo, hoo, hom⟩ := ofd_node hn
      have hVm : V n := hom ▸ h1.vo oo hoo
      obtain ⟨w3, hw3⟩ : ∃ w3, w3 = w2.alloc (.cells #[.int .i64 kc, .int .i64 kf] 67) := ⟨_, rfl⟩
      have hyb : bt + 1 + 1 < wy.heap.size := lt_of_get HPy.out.2
      obtain ⟨hPr, hXr, hszr, hzr, hfr, hhr⟩ := HR.out
      have bl : ∀ j, j < wy.heap.size → w3.heap[j]? = wr.heap[j]? := fun j hj => by
        rw [hw3, Below.heap_alloc _ _ _ (by omega)]
        exact hg2.block j (by omega) (fun e => by cases e; omega)
      have hB2 : Below w.heap.size w w2 := hPr.below.grown hg2 hPr.below.size (fun j hj => by
        cases hj
        have := hPr.below.size
        have := HPy.out.1.below.size
        omega)
      have hB3 : Below w.heap.size w w3 := by rw [hw3]; exact hB2.alloc hB2.size _
      have hP3 : PairB w w3 bt (bt + 1) β γ V U P' := hPr.turn (bl bt (by omega)) (bl (bt + 1) (by omega)) hB3
      have hX3 := (bl (bt + 1 + 1) hyb).trans hXr
      have hrg3 := ranges_keep (w' := w3) hrg2 (by rw [hw3, Below.heap_alloc _ _ _ hrg2.owns.lt]) (by rw [hw3, Below.heap_alloc _ _ _ hrg2.lt])
      obtain ⟨⟨d0, d1', d2, d3⟩, _, _⟩ := Facts.out _ hB3
      obtain ⟨D2', own2', mo2'⟩ := (h2.keep hB3).opn
      have hkv : w3.heap[w2.heap.size]? = some (.cells #[.int .i64 kc, .int .i64 kf] 67 (0, 0)) := by
        rw [hw3]
        exact heap_alloc_new _ _
      have kv0 := cell_of_row w3 _ 0 _ _ _ hkv
      have kv1 := cell_of_row w3 _ 1 _ _ _ hkv
      have y0 := cell_of_row w3 _ 0 _ _ _ hX3
      have y1 := cell_of_row w3 _ 1 _ _ _ hX3
      have HW3 := Lib.hid hw3
      have HP3 := Lib.hid hP3
      have HX3 := Lib.hid hX3
      have Hrg := Lib.hid hrg3
      have Hlt := Lib.hid hlt
      have Hsz : Hid (wy.heap.size < w3.heap.size ∧ bt + 1 + 1 < wy.heap.size) := Lib.hid ⟨by rw [hw3]; simp; omega, hyb⟩
      have HVn := Lib.hid hVm
      have HFr := Lib.hid (And.intro hzr (And.intro hfr hhr))
      have Hii := Lib.hid (And.intro hic hif)
      have Hn := Lib.hid hn
      have HO2 : Hid (∃ D2', (∀ nq : Nat, (w3.drewN nq).ownsMap Tryz.prog 67 ptrE bo2 T.O.length D2') ∧ MapO D2' γ T.O) := Lib.hid ⟨D2', fun nq => own2', mo2'⟩
      clear hrg2 hlt hv hat bl hPr hXr hB2 hB3 hP3 hX3 hrg3 d0 d1' d2 own2' mo2' hkv hw3 hVm hoo hom hn hlk hx hkey hen hic hif hg2 hs2 hszr d1 hzr hfr hhr D2'
      by_cases hno : Pz.ofd T.O kc kf < 0
      · have hlo : ∀ nq : Nat, (Instr.lookup 63 (.map (some bo2)) (.agg #[.int .i64 kc, .int .i64 kf]) false).run Tryz.prog (w3.drewN nq) = .ok (.pointer none) (w3.drewN nq) := fun nq => by
          obtain ⟨D2', ow, mo⟩ := HO2.out
          exact look_open_no (W := w3.drewN nq) (ow nq) mo Hii.out.1 Hii.out.2 hno
        clear hno
        go_upto_region 7 with fail
        rw [← HW3.out]
        go_quiet (fail)
        have hbq : Below w3.heap.size w3 (w3.drewN nq) := below_drewN (Below.refl _ w3) nq
        have HP4 := Lib.hid (HP3.out.keep hbq)
        clear y0 y1 d3 kv0 kv1 hlo hbq
        generalize w3.drewN nq = w4 at HP4 ⊢
        go_wp2
        go_ret
        exact ⟨false, rfl, (fun h => (by cases h)), HP4.out.below⟩
      obtain ⟨m, hm⟩ : ∃ k : Nat, Pz.ofd T.O kc kf = k := ⟨(Pz.ofd T.O kc kf).toNat, by omega⟩
      have hlo : ∀ nq : Nat, (Instr.lookup 63 (.map (some bo2)) (.agg #[.int .i64 kc, .int .i64 kf]) false).run Tryz.prog (w3.drewN nq) = .ok (.pointer (some ⟨γ m, 0, none⟩)) (w3.drewN nq) := fun nq => by
        obtain ⟨D2', ow, mo⟩ := HO2.out
        exact look_open (W := w3.drewN nq) (ow nq) mo Hii.out.1 Hii.out.2 hm
      have HUm : Hid (U m) := Lib.hid (by
        obtain ⟨o, ho, e⟩ := ofd_node hm
        exact e ▸ h2.vo o ho)
      have Hm := Lib.hid hm
      clear hno hm
      go_upto_region 7 with fail
      rw [← HW3.out]
      go_quiet (fail)
      have hbq : Below w3.heap.size w3 (w3.drewN nq) := below_drewN (Below.refl _ w3) nq
      have HP4 := Lib.hid (HP3.out.keep hbq)
      have HX4 := Lib.hid ((hbq.block _ (lt_of_get HX3.out)).trans HX3.out)
      have Hrg4 := Lib.hid (ranges_keep (w' := w3.drewN nq) Hrg.out (hbq.block _ Hrg.out.owns.lt) (hbq.block _ Hrg.out.lt))
      have Hsz4 : Hid (wy.heap.size < (w3.drewN nq).heap.size) := Lib.hid (Nat.lt_of_lt_of_le Hsz.out.1 hbq.size)
      clear y0 y1 d3 kv0 kv1 hlo hbq
      generalize w3.drewN nq = w4 at HP4 HX4 Hrg4 Hsz4 ⊢
      have y0 := cell_of_row w4 _ 0 _ _ _ HX4.out
      have y1 := cell_of_row w4 _ 1 _ _ _ HX4.out
      go_wp2_with fail
      refine (HPs.out S.N.length P' n m w4 (by omega) HVn.out HUm.out HP4.out).mono ?_
      rintro e w5 ⟨b5, P5, rfl, hP5, hsub5, -, hO5, hb5, -⟩
      cases b5 with
      | false =>
        have HB5 := Lib.hid hP5.below
        clear hP5 hO5 hb5 hsub5 y0 y1 hen2
        go_wp2
        go_ret
        exact ⟨false, rfl, (fun h => (by cases h)), HB5.out⟩
      | true =>
        have hrg5 := ranges_keep (w' := w5) Hrg4.out (hO5.block _ Hrg4.out.owns.lt (fun e => by have e : bo1 = bt ∨ bo1 = bt + 1 := e; have := Hz.out; omega)) (hO5.block _ Hrg4.out.lt (fun e => by have e : wy.heap.size = bt ∨ wy.heap.size = bt + 1 := e; have := Hsz.out; omega))
        have hfin : Hid (PairB w w5 bt (bt + 1) β γ V U P5 ∧ w5.heap[bt + 1 + 1]? = some (.cells #[.map (some bt), .map (some (bt + 1))] 83 (0, 0)) ∧ wy.heap.size < w5.heap.size ∧ (0, 0) ∈ P5 ∧ (∀ a ∈ P5, Pz.Fit S T P5 a) ∧ ∀ c fd, I64 c → I64 fd → (left (keyL c fd) && !(keyL c fd).sameKey (keyL kc kf)) = false → 0 ≤ Pz.ofd S.O c fd → 0 ≤ Pz.ofd T.O c fd ∧ ((Pz.ofd S.O c fd).toNat, (Pz.ofd T.O c fd).toNat) ∈ P5) := Lib.hid (by
          obtain ⟨hq, hall⟩ := hb5 rfl
          refine ⟨hP5, (hO5.block _ (lt_of_get HX4.out) (fun e => by have e : bt + 1 + 1 = bt ∨ bt + 1 + 1 = bt + 1 := e; omega)).trans HX4.out, by have := hO5.size; have := Hsz4.out; omega, hsub5 _ HFr.out.1, fun a ha => (hall a ha).elim (fun h => (HFr.out.2.1 a h).mono hsub5) id, fun c fd hc hf hy hE => ?_⟩
          by_cases hxy : c = kc ∧ fd = kf
          · obtain ⟨rfl, rfl⟩ := hxy
            rw [Hn.out, Hm.out]
            exact ⟨by omega, by simpa using hq⟩
          · have hk : (keyL c fd).sameKey (keyL kc kf) = false := by
              have hne : keyL c fd ≠ keyL kc kf := fun e => hxy (keyL_inj hc hf Hii.out.1 Hii.out.2 e)
              unfold keyL at hne ⊢
              simp [Lit.sameKey]
              exact fun e => hne (by rw [e])
            rw [hk] at hy
            simp at hy
            obtain ⟨g1, g2⟩ := HFr.out.2.2 c fd hc hf hy hE
            exact ⟨g1, hsub5 _ g2⟩)
        clear hP5 hO5 hb5 hsub5 y0 y1 hen2
        go_wp2
        go_roundw
        case rel => exact ⟨_, cnt2, P5, hrg5, hfin⟩
        case measure => rw [hrg5.left_eq, hrg.left_eq]; exact Hlt.out

end Go.Proofs.YtbpejjmfdhkfhaaGreatDoor
