/- Walks: the document's paths, link. -/
import Derived.Test.YtbpejjmfdhkfhaaGreatDoorPosRefD
import Derived.Test.YtbpejjmfdhkfhaaGreatDoorPosBase
set_option linter.unusedVariables false
set_option linter.unusedSimpArgs false
namespace Go.Proofs.YtbpejjmfdhkfhaaGreatDoor
open Go.RowKit

theorem rpath_code (s : ByteArray) (w : World) (hs : s.size ≤ 100000) :
    Calls Tryz.prog 63 #[.string s] w fun e w' => ∃ A n c, e = .returned (.tuple #[.slice A n c, .int .i64 (if (Np.pathL s.data.toList).isSome then 0 else 15)]) ∧ Below w.heap.size w w' := by
  refine (rpath_any s w hs).mono fun e w' h => ?_
  rcases h with ⟨hG, rfl, hb⟩ | ⟨L, hG, A, c, rfl, _, _, hb⟩
  · rw [hG]; exact ⟨none, 0, 0, rfl, hb⟩
  · rw [hG]; exact ⟨A, L.length, c, rfl, hb⟩

set_option maxHeartbeats 4000000 in
set_option maxRecDepth 8192 in
theorem rpaths_any (kind flags fd off n : Int) (p p2 data : ByteArray) (w : World) (hp : p.size ≤ 100000) (hp2 : p2.size ≤ 100000) :
    Calls Tryz.prog 66 #[callV kind p p2 flags fd off n data] w fun e w' => e = .returned (.bool ((Np.pathL p.data.toList).isSome && (Np.pathL p2.data.toList).isSome)) ∧ Below w.heap.size w w' := by
  have h1 := fun W => rpath_code p W hp
  have h2 := fun W => rpath_code p2 W hp2
  unfold callV
  have FB := Lib.hid (heap_alloc_new w (.cells #[.int .i64 kind, .string p, .string p2, .int .i64 flags, .int .i64 fd, .int .i64 off, .int .i64 n, .string data] 24))
  generalize (Np.pathL p.data.toList).isSome = x at h1 ⊢
  generalize (Np.pathL p2.data.toList).isSome = y at h2 ⊢
  cases x <;> cases y
  all_goals
    simp only [if_true, if_false, Bool.false_eq_true] at h1 h2
    have H1 := Lib.hid h1
    have H2 := Lib.hid h2
    clear h1 h2
    go_enter Tryz.func66, Tryz.ntmps66
    go_wp2_with fail
    refine (H1.out _).mono ?_
    rintro e w1 ⟨A1, n1, c1, rfl, hb1⟩
    have hbx := (hb1.block w.heap.size (by simp)).trans FB.out
    have b2 := cell_of_row w1 _ 2 _ _ _ hbx
    have HB := Lib.hid (((Below.refl w.heap.size w).alloc (Nat.le_refl _) _).trans (hb1.mono (by simp)))
    clear hbx
    go_wp2_with fail
    refine (H2.out _).mono ?_
    rintro e w2 ⟨A2, n2, c2, rfl, hb2⟩
    have HB2 := Lib.hid (HB.out.trans (hb2.mono HB.out.size))
    go_wp2
    go_ret
    exact ⟨rfl, HB2.out⟩

set_option maxHeartbeats 4000000 in
set_option maxRecDepth 8192 in
theorem rlink_any (r : Nat) (S : Pz.Fil) (kind flags fd off n : Int) (p p2 data : ByteArray) (w : World) (F : Nat → Prop) (hp : p.size ≤ 100000) (hp2 : p2.size ≤ 100000) (hG : Pz.Good 1000 S) (hR : RefF r S w F) :
    Calls Tryz.prog 41 #[.pointer (some ⟨r, 0, none⟩), callV kind p p2 flags fd off n data] w (Does (RefF r) (Pz.link S p.data.toList p2.data.toList) w F) := by
  have HFail := Lib.hid rfails_any
  have hE := hG.e
  have hN := hG.n
  have h0 := fun W => rpaths_any kind flags fd off n p p2 data W hp hp2
  have h1 := fun W G (hR : RefF r S W G) => find_any 0 r S p W hp (by omega) (by omega) hG.ok hR.is
  have h2 := fun W G (hR : RefF r S W G) => place_any 0 r S p2 W hp2 (by omega) (by omega) hG.ok hR.is
  have FX := Lib.hid (Fx.start (RefF.held r S) hR #[.int .i64 kind, .string p, .string p2, .int .i64 flags, .int .i64 fd, .int .i64 off, .int .i64 n, .string data])
  unfold callV at h0 ⊢
  by_cases hok : Np.pathL p.data.toList = none ∨ Np.pathL p2.data.toList = none
  · rw [Pz.link, if_pos hok]
    rw [show ((Np.pathL p.data.toList).isSome && (Np.pathL p2.data.toList).isSome) = false by rcases hok with h | h <;> rw [h] <;> simp] at h0
    have H0 := Lib.hid h0
    clear h0 h1 h2 hR hG hok hp hp2 hE hN
    go_enter Tryz.func41, Tryz.ntmps41
    go_wp2_with fail
    refine (H0.out _).mono ?_
    rintro e w1 ⟨rfl, hb1⟩
    have FX1 := Lib.hid (FX.out.read (RefF.held _ _) hb1)
    go_wp2_with fail
    refine (HFail.out 15 _).mono ?_
    rintro e wf ⟨rfl, hbf⟩
    have FXF := Lib.hid (FX1.out.read ((RefF.held r) _) hbf)
    unfold replyV
    have fxe := FXF.out
    obtain ⟨c0, c1, c2, c3, c4, c5, c6, hf7⟩ := cells7 fxe.res
    have f0 := hf7 0
    have f1 := hf7 1
    have f2 := hf7 2
    have f3 := hf7 3
    have f4 := hf7 4
    have f5 := hf7 5
    have f6 := hf7 6
    have HG := Lib.hid fxe
    clear hf7 fxe
    go_wp2
    try simp only [Exit.inBlock, Exit.then]
    refine bodyPost_ret (results_cell_row rfl _ _ (w.heap.size + 1) _ _ _ _ rfl (row7 HG.out.res _ _ _ _ _ _ _) Tryz.underlying36 rfl Tryz.infoR) rfl ?_
    exact HG.out.done (RefF.held r) (Pz.er 15) none 0 (Or.inl rfl) _ _ _ _ _ _ _
  rw [Pz.link, if_neg hok]
  rw [show ((Np.pathL p.data.toList).isSome && (Np.pathL p2.data.toList).isSome) = true by
    cases h : Np.pathL p.data.toList with
    | none => exact absurd (Or.inl h) hok
    | some _ => cases h' : Np.pathL p2.data.toList with
      | none => exact absurd (Or.inr h') hok
      | some _ => rfl] at h0
  have H0 := Lib.hid h0
  cases hf : Pz.find S p.data.toList with
  | error v =>
    obtain ⟨hv1, hv2, hv3⟩ := ne_of_err (Pz.find_err hf)
    rw [hf] at h1
    simp only [toT] at h1
    have HF := Lib.hid h1
    clear h0 h1 h2 hR hG hok hp hp2 hE hN hf
    show Calls _ _ _ _ (Does (RefF r) (S, Pz.er v) w F)
    go_enter Tryz.func41, Tryz.ntmps41
    go_wp2_with fail
    refine (H0.out _).mono ?_
    rintro e w1 ⟨rfl, hb1⟩
    have FX1 := Lib.hid (FX.out.read (RefF.held _ _) hb1)
    obtain ⟨b0, b1, b2, b3, b4, b5, b6, b7⟩ := FX1.out.c8
    go_wp2_with fail
    refine (HF.out _ _ FX1.out.inv).mono ?_
    rintro e w2 ⟨rfl, hb2⟩
    have FX2 := Lib.hid (FX1.out.read (RefF.held _ _) hb2)
    clear b0 b1 b2 b3 b4 b5 b6 b7
    go_wp2_with fail
    refine (HFail.out v _).mono ?_
    rintro e wf ⟨rfl, hbf⟩
    have FXF := Lib.hid (FX2.out.read ((RefF.held r) _) hbf)
    unfold replyV
    have fxe := FXF.out
    obtain ⟨c0, c1, c2, c3, c4, c5, c6, hf7⟩ := cells7 fxe.res
    have f0 := hf7 0
    have f1 := hf7 1
    have f2 := hf7 2
    have f3 := hf7 3
    have f4 := hf7 4
    have f5 := hf7 5
    have f6 := hf7 6
    have HG := Lib.hid fxe
    clear hf7 fxe
    go_wp2
    try simp only [Exit.inBlock, Exit.then]
    refine bodyPost_ret (results_cell_row rfl _ _ (w.heap.size + 1) _ _ _ _ rfl (row7 HG.out.res _ _ _ _ _ _ _) Tryz.underlying36 rfl Tryz.infoR) rfl ?_
    exact HG.out.done (RefF.held r) (Pz.er v) none 0 (Or.inl rfl) _ _ _ _ _ _ _
  | ok m =>
    have hm := Pz.find_lt hG.ok hf
    rw [hf] at h1
    simp only [toT] at h1
    have HF := Lib.hid h1
    have HD := Lib.hid fun W G (h : RefF r S W G) => h.dirAt hm
    obtain ⟨q, hq⟩ : ∃ q, q = S.N.length := ⟨_, rfl⟩
    obtain ⟨D, hD⟩ : ∃ D, D = Pz.isDir S.N m := ⟨_, rfl⟩
    have Hq := Lib.hid hq
    rw [← hq, ← hD] at HD
    simp only []
    rw [← hD]
    generalize hres : (if D = true then _ else _ : Pz.Fil × Pz.Rep) = R
    have HRes := Lib.hid hres.symm
    have hmq : m < q := by omega
    have hm1 : (0 : Int) ≤ m := by omega
    have hm2 : (m : Int) < q := by omega
    have HG0 := Lib.hid (And.intro hG (And.intro h2 (And.intro hE hN)))
    clear h0 h1 hq hD hres hG hR hok hf h2 hE hN hp hp2 hm
    go_enter Tryz.func41, Tryz.ntmps41
    go_wp2_with fail
    refine (H0.out _).mono ?_
    rintro e w1 ⟨rfl, hb1⟩
    have FX1 := Lib.hid (FX.out.read (RefF.held _ _) hb1)
    obtain ⟨b0, b1, b2, b3, b4, b5, b6, b7⟩ := FX1.out.c8
    go_wp2_with fail
    refine (HF.out _ _ FX1.out.inv).mono ?_
    rintro e w2 ⟨rfl, hb2⟩
    have FX2 := Lib.hid (FX1.out.read (RefF.held _ _) hb2)
    clear b0 b1 b2 b3 b4 b5 b6 b7
    obtain ⟨b, c, g, g0, _, _⟩ := HD.out _ _ FX2.out.inv
    obtain ⟨b0, b1, b2, b3, b4, b5, b6, b7⟩ := FX2.out.c8
    cases D with
    | true =>
      have HRes1 := Lib.hid (HRes.out.trans (if_pos rfl))
      go_wp2_with fail
      refine (HFail.out 13 _).mono ?_
      rintro e wf ⟨rfl, hbf⟩
      have FXF := Lib.hid (FX2.out.read ((RefF.held r) _) hbf)
      unfold replyV
      have fxe := FXF.out
      obtain ⟨c0, c1, c2, c3, c4, c5, c6, hf7⟩ := cells7 fxe.res
      have f0 := hf7 0
      have f1 := hf7 1
      have f2 := hf7 2
      have f3 := hf7 3
      have f4 := hf7 4
      have f5 := hf7 5
      have f6 := hf7 6
      have HG := Lib.hid fxe
      clear hf7 fxe
      go_wp2
      try simp only [Exit.inBlock, Exit.then]
      refine bodyPost_ret (results_cell_row rfl _ _ (w.heap.size + 1) _ _ _ _ rfl (row7 HG.out.res _ _ _ _ _ _ _) Tryz.underlying36 rfl Tryz.infoR) rfl ?_
      rw [HRes1.out]
      exact HG.out.done (RefF.held r) (Pz.er 13) none 0 (Or.inl rfl) _ _ _ _ _ _ _
    | false =>
      have HRes1 := Lib.hid (HRes.out.trans (if_neg (by decide)))
      obtain ⟨hG, h2, hE, hN⟩ := HG0.out
      by_cases h47 : p2.data.toList = [47]
      · have HRes2 := Lib.hid (HRes1.out.trans (if_pos h47))
        have h47b : (p2.toList == [47]) = true := by rw [beq_iff_eq, Lib.toList_data]; exact h47
        clear hG h2 hE hN h47
        go_wp2_with fail
        refine (HFail.out 11 _).mono ?_
        rintro e wf ⟨rfl, hbf⟩
        have FXF := Lib.hid (FX2.out.read ((RefF.held r) _) hbf)
        unfold replyV
        have fxe := FXF.out
        obtain ⟨c0, c1, c2, c3, c4, c5, c6, hf7⟩ := cells7 fxe.res
        have f0 := hf7 0
        have f1 := hf7 1
        have f2 := hf7 2
        have f3 := hf7 3
        have f4 := hf7 4
        have f5 := hf7 5
        have f6 := hf7 6
        have HG := Lib.hid fxe
        clear hf7 fxe
        go_wp2
        try simp only [Exit.inBlock, Exit.then]
        refine bodyPost_ret (results_cell_row rfl _ _ (w.heap.size + 1) _ _ _ _ rfl (row7 HG.out.res _ _ _ _ _ _ _) Tryz.underlying36 rfl Tryz.infoR) rfl ?_
        rw [HRes2.out]
        exact HG.out.done (RefF.held r) (Pz.er 11) none 0 (Or.inl rfl) _ _ _ _ _ _ _
      have HRes2 := Lib.hid (HRes1.out.trans (if_neg h47))
      have hp47 := path_ne h47
      clear h47
      cases hpl : Pz.place S p2.data.toList with
      | error v =>
        obtain ⟨hv1, hv2, hv3⟩ := ne_of_err (Pz.place_err hpl)
        rw [hpl] at h2
        have HRes3 : Hid (R = (S, Pz.er v)) := Lib.hid (by rw [HRes2.out, hpl])
        simp only [toP] at h2
        have HP := Lib.hid h2
        clear hG h2 hE hN hpl
        go_wp2_with fail
        refine (HP.out _ _ FX2.out.inv).mono ?_
        rintro e w3 ⟨rfl, hb3⟩
        have FX3 := Lib.hid (FX2.out.read (RefF.held _ _) hb3)
        clear b0 b1 b2 b3 b4 b5 b6 b7
        clear g g0
        go_wp2_with fail
        refine (HFail.out v _).mono ?_
        rintro e wf ⟨rfl, hbf⟩
        have FXF := Lib.hid (FX3.out.read ((RefF.held r) _) hbf)
        unfold replyV
        have fxe := FXF.out
        obtain ⟨c0, c1, c2, c3, c4, c5, c6, hf7⟩ := cells7 fxe.res
        have f0 := hf7 0
        have f1 := hf7 1
        have f2 := hf7 2
        have f3 := hf7 3
        have f4 := hf7 4
        have f5 := hf7 5
        have f6 := hf7 6
        have HG := Lib.hid fxe
        clear hf7 fxe
        go_wp2
        try simp only [Exit.inBlock, Exit.then]
        refine bodyPost_ret (results_cell_row rfl _ _ (w.heap.size + 1) _ _ _ _ rfl (row7 HG.out.res _ _ _ _ _ _ _) Tryz.underlying36 rfl Tryz.infoR) rfl ?_
        rw [HRes3.out]
        exact HG.out.done (RefF.held r) (Pz.er v) none 0 (Or.inl rfl) _ _ _ _ _ _ _
      | ok dx =>
        obtain ⟨d, x⟩ := dx
        rw [hpl] at h2
        simp only [toP] at h2
        have HP := Lib.hid h2
        have HL := Lib.hid fun W G (h : RefF r S W G) => look_any 0 r S d ⟨x.toArray⟩ W (by omega) h.is
        obtain ⟨z, hz⟩ : ∃ z, z = Pz.look S.E d x := ⟨_, rfl⟩
        rw [show (⟨x.toArray⟩ : ByteArray).data.toList = x from rfl, ← hz] at HL
        obtain ⟨l, hl⟩ : ∃ l, l = (Pz.nodeD S.N m).links := ⟨_, rfl⟩
        have hlb : l ≤ 20 ∧ -1000 ≤ l := by rw [hl]; exact Pz.nodeD_links hG (by have := Hq.out; omega)
        obtain ⟨hlb1, hlb2⟩ := hlb
        have HRes3 : Hid (R = if 0 ≤ z then (S, Pz.er 11) else if l = 20 then (S, Pz.er 20) else ({ S with E := S.E ++ [⟨d, x, m⟩], N := S.N.set m { Pz.nodeD S.N m with links := l + 1 } }, Pz.er 0)) := Lib.hid (by rw [HRes2.out, hpl, hz, hl])
        have HPut := Lib.hid fun W G (h : RefF r S W G) => put_any r S d m ⟨x.toArray⟩ W G (by omega) h
        have HD2 := Lib.hid fun W G (h : RefF r { S with E := S.E ++ [(⟨d, x, m⟩ : Pz.En)] } W G) => h.nodeAt (show m < S.N.length by have := Hq.out; omega)
        simp only [← Hq.out, ← hl] at HD2
        rw [← hl] at HD
        clear hG h2 hE hN hpl hz hl
        go_wp2_with fail
        refine (HP.out _ _ FX2.out.inv).mono ?_
        rintro e w3 ⟨rfl, hb3⟩
        have FX3 := Lib.hid (FX2.out.read (RefF.held _ _) hb3)
        clear b0 b1 b2 b3 b4 b5 b6 b7
        clear g g0
        go_wp2_with fail
        refine (HL.out _ _ FX3.out.inv).mono ?_
        rintro e w4 ⟨rfl, hb4⟩
        have FX4 := Lib.hid (FX3.out.read (RefF.held _ _) hb4)
        by_cases hz0 : 0 ≤ z
        · have HRes4 := Lib.hid (HRes3.out.trans (if_pos hz0))
          go_wp2_with fail
          refine (HFail.out 11 _).mono ?_
          rintro e wf ⟨rfl, hbf⟩
          have FXF := Lib.hid (FX4.out.read ((RefF.held r) _) hbf)
          unfold replyV
          have fxe := FXF.out
          obtain ⟨c0, c1, c2, c3, c4, c5, c6, hf7⟩ := cells7 fxe.res
          have f0 := hf7 0
          have f1 := hf7 1
          have f2 := hf7 2
          have f3 := hf7 3
          have f4 := hf7 4
          have f5 := hf7 5
          have f6 := hf7 6
          have HG := Lib.hid fxe
          clear hf7 fxe
          go_wp2
          try simp only [Exit.inBlock, Exit.then]
          refine bodyPost_ret (results_cell_row rfl _ _ (w.heap.size + 1) _ _ _ _ rfl (row7 HG.out.res _ _ _ _ _ _ _) Tryz.underlying36 rfl Tryz.infoR) rfl ?_
          rw [HRes4.out]
          exact HG.out.done (RefF.held r) (Pz.er 11) none 0 (Or.inl rfl) _ _ _ _ _ _ _
        have HRes4 := Lib.hid (HRes3.out.trans (if_neg hz0))
        have hz1 : z < 0 := by omega
        obtain ⟨b, c, g, _, _, g2⟩ := HD.out _ _ FX4.out.inv
        by_cases hl20 : l = 20
        · have HRes5 := Lib.hid (HRes4.out.trans (if_pos hl20))
          have hl20b : (l == 20) = true := by rw [beq_iff_eq]; exact hl20
          clear hl20
          go_wp2_with fail
          refine (HFail.out 20 _).mono ?_
          rintro e wf ⟨rfl, hbf⟩
          have FXF := Lib.hid (FX4.out.read ((RefF.held r) _) hbf)
          unfold replyV
          have fxe := FXF.out
          obtain ⟨c0, c1, c2, c3, c4, c5, c6, hf7⟩ := cells7 fxe.res
          have f0 := hf7 0
          have f1 := hf7 1
          have f2 := hf7 2
          have f3 := hf7 3
          have f4 := hf7 4
          have f5 := hf7 5
          have f6 := hf7 6
          have HG := Lib.hid fxe
          clear hf7 fxe
          go_wp2
          try simp only [Exit.inBlock, Exit.then]
          refine bodyPost_ret (results_cell_row rfl _ _ (w.heap.size + 1) _ _ _ _ rfl (row7 HG.out.res _ _ _ _ _ _ _) Tryz.underlying36 rfl Tryz.infoR) rfl ?_
          rw [HRes5.out]
          exact HG.out.done (RefF.held r) (Pz.er 20) none 0 (Or.inl rfl) _ _ _ _ _ _ _
        have HRes5 := Lib.hid (HRes4.out.trans (if_neg hl20))
        have hl20b : (l == 20) = false := by rw [beq_eq_false_iff_ne]; exact hl20
        go_wp2_with fail
        refine (HPut.out _ _ FX4.out.inv).mono ?_
        rintro e w5 ⟨rfl, hi5, ho5⟩
        have FX5 := Lib.hid (FX4.out.write (RefF.held _ _) hi5 ho5)
        clear hi5 ho5 g g2
        obtain ⟨b5, c5, g5, _, _, g52, _, f52, _, hst⟩ := HD2.out _ _ FX5.out.inv
        have FX6 := Lib.hid (FX5.out.put (RefF.held _ _) (hst (l + 1)).1 (hst (l + 1)).2)
        clear hst
        have fxe := FX6.out
        obtain ⟨c0, c1, c2, c3, c4, c5, c6, hf7⟩ := cells7 fxe.res
        have f0 := hf7 0
        have f1 := hf7 1
        have f2 := hf7 2
        have f3 := hf7 3
        have f4 := hf7 4
        have f5 := hf7 5
        have f6 := hf7 6
        have HG := Lib.hid fxe
        clear hf7 fxe
        go_wp2
        try simp only [Exit.inBlock, Exit.then]
        refine bodyPost_ret (results_cell_row rfl _ _ (w.heap.size + 1) _ _ _ _ rfl (row7 HG.out.res _ _ _ _ _ _ _) Tryz.underlying36 rfl Tryz.infoR) rfl ?_
        rw [HRes5.out]
        exact HG.out.done (RefF.held r) (Pz.er 0) none 0 (Or.inl rfl) _ _ _ _ _ _ _

end Go.Proofs.YtbpejjmfdhkfhaaGreatDoor

/- Walks: the document's rename. -/
namespace Go.Proofs.YtbpejjmfdhkfhaaGreatDoor
open Go.RowKit

theorem both_of {p p2 : List UInt8} (h : ¬ (Np.pathL p = none ∨ Np.pathL p2 = none)) : ((Np.pathL p).isSome && (Np.pathL p2).isSome) = true := by
  cases h1 : Np.pathL p with
  | none => exact absurd (Or.inl h1) h
  | some _ => cases h2 : Np.pathL p2 with
    | none => exact absurd (Or.inr h2) h
    | some _ => rfl
theorem both_not {p p2 : List UInt8} (h : Np.pathL p = none ∨ Np.pathL p2 = none) : ((Np.pathL p).isSome && (Np.pathL p2).isSome) = false := by
  rcases h with h | h <;> rw [h] <;> simp
theorem path_is {p : ByteArray} (h : p.data.toList = [47]) : (p.toList == [47]) = true := by rw [beq_iff_eq, Lib.toList_data]; exact h

set_option maxHeartbeats 4000000 in
set_option maxRecDepth 8192 in
theorem rrename_bad (r : Nat) (S : Pz.Fil) (kind flags fd off n : Int) (p p2 data : ByteArray) (w : World) (F : Nat → Prop) (hp : p.size ≤ 100000) (hp2 : p2.size ≤ 100000) (hbad : Np.pathL p.data.toList = none ∨ Np.pathL p2.data.toList = none ∨ p.data.toList = [47] ∨ p2.data.toList = [47]) (hR : RefF r S w F) :
    Calls Tryz.prog 43 #[.pointer (some ⟨r, 0, none⟩), callV kind p p2 flags fd off n data] w (Does (RefF r) (S, Pz.er 15) w F) := by
  have HFail := Lib.hid rfails_any
  have h0 := fun W => rpaths_any kind flags fd off n p p2 data W hp hp2
  have FX := Lib.hid (Fx.start (RefF.held r S) hR #[.int .i64 kind, .string p, .string p2, .int .i64 flags, .int .i64 fd, .int .i64 off, .int .i64 n, .string data])
  unfold callV at h0 ⊢
  by_cases hok : Np.pathL p.data.toList = none ∨ Np.pathL p2.data.toList = none
  · rw [both_not hok] at h0
    have H0 := Lib.hid h0
    clear h0 hR hok hbad hp hp2
    go_enter Tryz.func43, Tryz.ntmps43
    go_wp2_with fail
    refine (H0.out _).mono ?_
    rintro e w1 ⟨rfl, hb1⟩
    have FX1 := Lib.hid (FX.out.read ((RefF.held r) _) hb1)
    clear hb1
    obtain ⟨b0, b1, b2, b3, b4, b5, b6, b7⟩ := FX1.out.c8
    go_wp2_with fail
    refine (HFail.out 15 _).mono ?_
    rintro e wf ⟨rfl, hbf⟩
    have FXF := Lib.hid (FX1.out.read ((RefF.held r) _) hbf)
    unfold replyV
    have fxe := FXF.out
    obtain ⟨c0, c1, c2, c3, c4, c5, c6, hf7⟩ := cells7 fxe.res
    have f0 := hf7 0
    have f1 := hf7 1
    have f2 := hf7 2
    have f3 := hf7 3
    have f4 := hf7 4
    have f5 := hf7 5
    have f6 := hf7 6
    have HG := Lib.hid fxe
    clear hf7 fxe
    go_wp2
    try simp only [Exit.inBlock, Exit.then]
    refine bodyPost_ret (results_cell_row rfl _ _ (w.heap.size + 1) _ _ _ _ rfl (row7 HG.out.res _ _ _ _ _ _ _) Tryz.underlying36 rfl Tryz.infoR) rfl ?_
    exact HG.out.done (RefF.held r) (Pz.er 15) none 0 (Or.inl rfl) _ _ _ _ _ _ _
  rw [both_of hok] at h0
  have H0 := Lib.hid h0
  by_cases h47 : p.data.toList = [47]
  · have h47b := path_is h47
    clear h0 hR hok hbad h47 hp hp2
    go_enter Tryz.func43, Tryz.ntmps43
    go_wp2_with fail
    refine (H0.out _).mono ?_
    rintro e w1 ⟨rfl, hb1⟩
    have FX1 := Lib.hid (FX.out.read ((RefF.held r) _) hb1)
    clear hb1
    obtain ⟨b0, b1, b2, b3, b4, b5, b6, b7⟩ := FX1.out.c8
    go_wp2_with fail
    refine (HFail.out 15 _).mono ?_
    rintro e wf ⟨rfl, hbf⟩
    have FXF := Lib.hid (FX1.out.read ((RefF.held r) _) hbf)
    unfold replyV
    have fxe := FXF.out
    obtain ⟨c0, c1, c2, c3, c4, c5, c6, hf7⟩ := cells7 fxe.res
    have f0 := hf7 0
    have f1 := hf7 1
    have f2 := hf7 2
    have f3 := hf7 3
    have f4 := hf7 4
    have f5 := hf7 5
    have f6 := hf7 6
    have HG := Lib.hid fxe
    clear hf7 fxe
    go_wp2
    try simp only [Exit.inBlock, Exit.then]
    refine bodyPost_ret (results_cell_row rfl _ _ (w.heap.size + 1) _ _ _ _ rfl (row7 HG.out.res _ _ _ _ _ _ _) Tryz.underlying36 rfl Tryz.infoR) rfl ?_
    exact HG.out.done (RefF.held r) (Pz.er 15) none 0 (Or.inl rfl) _ _ _ _ _ _ _
  have h47n := path_ne h47
  have h47b := path_is (p := p2) (by rcases hbad with h | h | h | h
                                     · exact absurd (Or.inl h) hok
                                     · exact absurd (Or.inr h) hok
                                     · exact absurd h h47
                                     · exact h)
  clear h0 hR hok hbad h47 hp hp2
  go_enter Tryz.func43, Tryz.ntmps43
  go_wp2_with fail
  refine (H0.out _).mono ?_
  rintro e w1 ⟨rfl, hb1⟩
  have FX1 := Lib.hid (FX.out.read ((RefF.held r) _) hb1)
  clear hb1
  obtain ⟨b0, b1, b2, b3, b4, b5, b6, b7⟩ := FX1.out.c8
  go_wp2_with fail
  refine (HFail.out 15 _).mono ?_
  rintro e wf ⟨rfl, hbf⟩
  have FXF := Lib.hid (FX1.out.read ((RefF.held r) _) hbf)
  unfold replyV
  have fxe := FXF.out
  obtain ⟨c0, c1, c2, c3, c4, c5, c6, hf7⟩ := cells7 fxe.res
  have f0 := hf7 0
  have f1 := hf7 1
  have f2 := hf7 2
  have f3 := hf7 3
  have f4 := hf7 4
  have f5 := hf7 5
  have f6 := hf7 6
  have HG := Lib.hid fxe
  clear hf7 fxe
  go_wp2
  try simp only [Exit.inBlock, Exit.then]
  refine bodyPost_ret (results_cell_row rfl _ _ (w.heap.size + 1) _ _ _ _ rfl (row7 HG.out.res _ _ _ _ _ _ _) Tryz.underlying36 rfl Tryz.infoR) rfl ?_
  exact HG.out.done (RefF.held r) (Pz.er 15) none 0 (Or.inl rfl) _ _ _ _ _ _ _

/-- what the walks of rename want -/
structure RenPre (S : Pz.Fil) (p p2 : ByteArray) : Prop where
  hp : p.size ≤ 100000
  hp2 : p2.size ≤ 100000
  good : Pz.Good 1000 S
  ok : ¬ (Np.pathL p.data.toList = none ∨ Np.pathL p2.data.toList = none)
  h1 : ¬ p.data.toList = [47]
  h2 : ¬ p2.data.toList = [47]

set_option maxHeartbeats 4000000 in
set_option maxRecDepth 8192 in
theorem rrename_err (r : Nat) (S : Pz.Fil) (kind flags fd off n : Int) (p p2 data : ByteArray) (w : World) (F : Nat → Prop) (hpre : RenPre S p p2) (v : Int) (hf : Pz.find S p.data.toList = .error v) (hR : RefF r S w F) :
    Calls Tryz.prog 43 #[.pointer (some ⟨r, 0, none⟩), callV kind p p2 flags fd off n data] w (Does (RefF r) (S, Pz.er v) w F) := by
  have HFail := Lib.hid rfails_any
  have h0 := fun W => rpaths_any kind flags fd off n p p2 data W hpre.hp hpre.hp2
  have hE := hpre.good.e
  have hN := hpre.good.n
  have h1 := fun W G (hR : RefF r S W G) => find_any 0 r S p W hpre.hp (by omega) (by omega) hpre.good.ok hR.is
  have FX := Lib.hid (Fx.start (RefF.held r S) hR #[.int .i64 kind, .string p, .string p2, .int .i64 flags, .int .i64 fd, .int .i64 off, .int .i64 n, .string data])
  unfold callV at h0 ⊢
  rw [both_of hpre.ok] at h0
  have H0 := Lib.hid h0
  have h47a := path_ne hpre.h1
  have h47b := path_ne hpre.h2
  obtain ⟨hv1, hv2, hv3⟩ := ne_of_err (Pz.find_err hf)
  rw [hf] at h1
  simp only [toT] at h1
  have HF := Lib.hid h1
  clear h0 h1 hR hE hN hpre hf
  go_enter Tryz.func43, Tryz.ntmps43
  go_wp2_with fail
  refine (H0.out _).mono ?_
  rintro e w1 ⟨rfl, hb1⟩
  have FX1 := Lib.hid (FX.out.read ((RefF.held r) _) hb1)
  clear hb1
  obtain ⟨b0, b1, b2, b3, b4, b5, b6, b7⟩ := FX1.out.c8
  go_wp2_with fail
  refine (HF.out _ _ FX1.out.inv).mono ?_
  rintro e w2 ⟨rfl, hb2⟩
  have FX2 := Lib.hid (FX1.out.read ((RefF.held r) _) hb2)
  clear hb2
  clear b0 b1 b2 b3 b4 b5 b6 b7
  obtain ⟨b0, b1, b2, b3, b4, b5, b6, b7⟩ := FX2.out.c8
  go_wp2_with fail
  refine (HFail.out v _).mono ?_
  rintro e wf ⟨rfl, hbf⟩
  have FXF := Lib.hid (FX2.out.read ((RefF.held r) _) hbf)
  unfold replyV
  have fxe := FXF.out
  obtain ⟨c0, c1, c2, c3, c4, c5, c6, hf7⟩ := cells7 fxe.res
  have f0 := hf7 0
  have f1 := hf7 1
  have f2 := hf7 2
  have f3 := hf7 3
  have f4 := hf7 4
  have f5 := hf7 5
  have f6 := hf7 6
  have HG := Lib.hid fxe
  clear hf7 fxe
  go_wp2
  try simp only [Exit.inBlock, Exit.then]
  refine bodyPost_ret (results_cell_row rfl _ _ (w.heap.size + 1) _ _ _ _ rfl (row7 HG.out.res _ _ _ _ _ _ _) Tryz.underlying36 rfl Tryz.infoR) rfl ?_
  exact HG.out.done (RefF.held r) (Pz.er v) none 0 (Or.inl rfl) _ _ _ _ _ _ _

end Go.Proofs.YtbpejjmfdhkfhaaGreatDoor
