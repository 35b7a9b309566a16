/- Walks: a directory's names are told, and nothing is turned. -/
import Derived.Test.YtbpejjmfdhkfhaaGreatDoorPosRealW
import Derived.StillTailTactics
set_option linter.unusedVariables false
set_option linter.unusedSimpArgs false
namespace Go.Proofs.YtbpejjmfdhkfhaaGreatDoor
open Go.RowKit

/-- blocks that stood at the beginning, and stand -/
def Side (F0 : Nat → Prop) (wb w : World) (F : Nat → Prop) : Prop :=
  (∀ k, F0 k → k < wb.heap.size) ∧ (∀ k, k < wb.heap.size → F k) ∧ wb.heap.size ≤ w.heap.size ∧ ∀ k, k < wb.heap.size → w.heap[k]? = wb.heap[k]?
theorem Side.keep {F0 : Nat → Prop} {wb w w' : World} {F : Nat → Prop} (h : Side F0 wb w F) (hs : w.heap.size ≤ w'.heap.size) (hk : ∀ k, k < w.heap.size → F k → w'.heap[k]? = w.heap[k]?) : Side F0 wb w' F :=
  ⟨h.1, h.2.1, Nat.le_trans h.2.2.1 hs, fun k e => (hk k (Nat.lt_of_lt_of_le e h.2.2.1) (h.2.1 k e)).trans (h.2.2.2 k e)⟩
theorem Side.mono {F0 : Nat → Prop} {wb w : World} {F G : Nat → Prop} (h : Side F0 wb w F) (hk : ∀ k, k < w.heap.size → F k → G k) : Side F0 wb w G :=
  ⟨h.1, fun k e => hk k (Nat.lt_of_lt_of_le e h.2.2.1) (h.2.1 k e), h.2.2⟩
def Kept [Inhabited XBox] (r : Nat) (F0 : Nat → Prop) (wb : World) (T : Pz.Fil) (w : World) (F : Nat → Prop) : Prop := RealF r T w F0 ∧ Side F0 wb w F
def KeptA [Inhabited XBox] (r bo : Nat) (β μ : Nat → Nat) (F0 : Nat → Prop) (wb : World) (T : Pz.Fil) (w : World) (F : Nat → Prop) : Prop := RA r bo β μ T w F0 ∧ Side F0 wb w F
theorem Kept.held [Inhabited XBox] (r : Nat) (F0 : Nat → Prop) (wb : World) (T : Pz.Fil) : Held (Kept r F0 wb T) where
  keep := fun h hs hk => ⟨(RealF.held r T).keep h.1 hs (fun k _ e => hk k (Nat.lt_of_lt_of_le (h.2.1 k e) h.2.2.2.1) (h.2.2.1 k (h.2.1 k e))), h.2.keep hs hk⟩
  mono := fun h hk => ⟨h.1, h.2.mono hk⟩
theorem KeptA.held [Inhabited XBox] (r bo : Nat) (β μ : Nat → Nat) (F0 : Nat → Prop) (wb : World) (T : Pz.Fil) : Held (KeptA r bo β μ F0 wb T) where
  keep := fun h hs hk => ⟨(RA.held r bo β μ T).keep h.1 hs (fun k _ e => hk k (Nat.lt_of_lt_of_le (h.2.1 k e) h.2.2.2.1) (h.2.2.1 k (h.2.1 k e))), h.2.keep hs hk⟩
  mono := fun h hk => ⟨h.1, h.2.mono hk⟩
theorem KeptA.toK [Inhabited XBox] {r bo : Nat} {β μ : Nat → Nat} {F0 : Nat → Prop} {wb : World} {T : Pz.Fil} : ∀ (w : World) (F : Nat → Prop), KeptA r bo β μ F0 wb T w F → Kept r F0 wb T w F := fun _ _ h => ⟨⟨bo, β, μ, h.1⟩, h.2⟩

set_option maxHeartbeats 4000000 in
set_option maxRecDepth 8192 in
theorem ktells_any [Inhabited XBox] (r : Nat) (F0 : Nat → Prop) (wb : World) (S : Pz.Fil) (flags fd off n : Int) (p p2 data : ByteArray) (w : World) (F : Nat → Prop) (hp : p.size ≤ 100000) (hG : Pz.Good 1000 S) (hR : Kept r F0 wb S w F) :
    Calls Tryz.prog 31 #[.pointer (some ⟨r, 0, none⟩), callV 12 p p2 flags fd off n data] w (Does (Kept r F0 wb) (Pz.tells S 12 p.data.toList) w F) := by
  have HFail := Lib.hid ffails_any
  obtain ⟨⟨bo, β, μ, hR0⟩, hs0⟩ := hR
  have hR : KeptA r bo β μ F0 wb S w F := ⟨hR0, hs0⟩
  have FX := Lib.hid (Fx.start (KeptA.held r bo β μ F0 wb S) hR #[.int .i64 12, .string p, .string p2, .int .i64 flags, .int .i64 fd, .int .i64 off, .int .i64 n, .string data])
  have h1 := fun W G (hR : KeptA r bo β μ F0 wb S W G) => ffind_any F0 r bo β μ S p W hp hG.ok hR.1
  clear hR0 hs0
  unfold callV
  cases hf : Pz.find S p.data.toList with
  | error v =>
    have HResF : Hid (Pz.tells S 12 p.data.toList = (S, Pz.er v)) := Lib.hid (by unfold Pz.tells; rw [hf])
    rw [HResF.out]
    obtain ⟨hv1, hv2, hv3⟩ := ne_of_err (Pz.find_err hf)
    rw [hf] at h1
    simp only [toW] at h1
    have HF := Lib.hid h1
    clear h1 hR hG hf HResF
    go_enter Tryz.func31, Tryz.ntmps31
    go_wp2_with fail
    refine (HF.out _ _ FX.out.inv).mono ?_
    rintro e w1 ⟨rfl, hb1⟩
    have FX1 := Lib.hid (FX.out.read ((KeptA.held r bo β μ F0 wb) _) hb1)
    clear hb1
    go_wp2_with fail
    refine (HFail.out v _).mono ?_
    rintro e wf ⟨rfl, hbf⟩
    have FXF := Lib.hid ((FX1.out.imp KeptA.toK).read ((Kept.held r F0 wb) _) hbf)
    unfold replyV
    have fxe := FXF.out
    obtain ⟨c0, c1, c2, c3, c4, c5, c6, hf7⟩ := cells7 fxe.res
    have f0 := hf7 0
    have f1 := hf7 1
    have f2 := hf7 2
    have f3 := hf7 3
    have f4 := hf7 4
    have f5 := hf7 5
    have f6 := hf7 6
    have HG := Lib.hid fxe
    clear hf7 fxe
    go_wp2
    try simp only [Exit.inBlock, Exit.then]
    refine bodyPost_ret (results_cell_row rfl _ _ (w.heap.size + 1) _ _ _ _ rfl (row7 HG.out.res _ _ _ _ _ _ _) Tryz.underlying36 rfl Tryz.infoR) rfl ?_
    exact HG.out.done (Kept.held r F0 wb) (Pz.er v) none 0 (Or.inl rfl) _ _ _ _ _ _ _
  | ok m =>
    have hm := Pz.find_lt hG.ok hf
    rw [hf] at h1
    simp only [toW] at h1
    have HF := Lib.hid h1
    have HDir := Lib.hid fun W G (h : KeptA r bo β μ F0 wb S W G) => fdir_any W F0 r bo m β μ S hm h.1
    obtain ⟨R, hres⟩ : ∃ R, R = Pz.tells S 12 p.data.toList := ⟨_, rfl⟩
    rw [← hres]
    unfold Pz.tells at hres
    rw [hf] at hres
    simp only [] at hres
    rw [if_neg (show ¬ (12 : Int) = 13 by decide)] at hres
    cases hD : Pz.isDir S.N m with
    | false =>
      rw [hD] at HDir
      have HResF : Hid (R = (S, Pz.er 12)) := Lib.hid (by rw [hres, if_neg (by rw [hD]; decide)])
      clear h1 hR hG hf hm hD hres
      go_enter Tryz.func31, Tryz.ntmps31
      go_wp2_with fail
      refine (HF.out _ _ FX.out.inv).mono ?_
      rintro e w1 ⟨rfl, hb1⟩
      have FX1 := Lib.hid (FX.out.read ((KeptA.held r bo β μ F0 wb) _) hb1)
      clear hb1
      obtain ⟨b0, b1, b2, b3, b4, b5, b6, b7⟩ := FX1.out.c8
      go_wp2_with fail
      refine (HDir.out _ _ FX1.out.inv).mono ?_
      rintro e w2 ⟨rfl, hb2⟩
      have FX2 := Lib.hid (FX1.out.read ((KeptA.held r bo β μ F0 wb) _) hb2)
      clear hb2
      clear b0 b1 b2 b3 b4 b5 b6 b7
      go_wp2_with fail
      refine (HFail.out 12 _).mono ?_
      rintro e wf ⟨rfl, hbf⟩
      have FXF := Lib.hid ((FX2.out.imp KeptA.toK).read ((Kept.held r F0 wb) _) hbf)
      unfold replyV
      have fxe := FXF.out
      obtain ⟨c0, c1, c2, c3, c4, c5, c6, hf7⟩ := cells7 fxe.res
      have f0 := hf7 0
      have f1 := hf7 1
      have f2 := hf7 2
      have f3 := hf7 3
      have f4 := hf7 4
      have f5 := hf7 5
      have f6 := hf7 6
      have HG := Lib.hid fxe
      clear hf7 fxe
      go_wp2
      try simp only [Exit.inBlock, Exit.then]
      refine bodyPost_ret (results_cell_row rfl _ _ (w.heap.size + 1) _ _ _ _ rfl (row7 HG.out.res _ _ _ _ _ _ _) Tryz.underlying36 rfl Tryz.infoR) rfl ?_
      rw [HResF.out]
      exact HG.out.done (Kept.held r F0 wb) (Pz.er 12) none 0 (Or.inl rfl) _ _ _ _ _ _ _
    | true =>
      rw [hD] at HDir
      have HResF : Hid (R = (S, Pz.namesR (Pz.namesOf S.E m))) := Lib.hid (by rw [hres, if_pos hD])
      have HSo := Lib.hid fun W G (h : KeptA r bo β μ F0 wb S W G) => fsorted_any F0 r bo m β μ S W hG hD h.1
      clear h1 hR hG hf hm hD hres
      go_enter Tryz.func31, Tryz.ntmps31
      go_wp2_with fail
      refine (HF.out _ _ FX.out.inv).mono ?_
      rintro e w1 ⟨rfl, hb1⟩
      have FX1 := Lib.hid (FX.out.read ((KeptA.held r bo β μ F0 wb) _) hb1)
      clear hb1
      obtain ⟨b0, b1, b2, b3, b4, b5, b6, b7⟩ := FX1.out.c8
      go_wp2_with fail
      refine (HDir.out _ _ FX1.out.inv).mono ?_
      rintro e w2 ⟨rfl, hb2⟩
      have FX2 := Lib.hid (FX1.out.read ((KeptA.held r bo β μ F0 wb) _) hb2)
      clear hb2
      clear b0 b1 b2 b3 b4 b5 b6 b7
      obtain ⟨b0, b1, b2, b3, b4, b5, b6, b7⟩ := FX2.out.c8
      go_wp2_with fail
      refine (HSo.out _ _ FX2.out.inv).mono ?_
      rintro e w3 ⟨A3, cn, rfl, hS3, hb3⟩
      have FX3 := Lib.hid ((FX2.out.read (KeptA.held r bo β μ F0 wb _) hb3).imp KeptA.toK)
      have HS3 := Lib.hid (hS3.low (B' := w.heap.size + 2) FX2.out.st.size)
      clear hS3 hb3
      clear b0 b1 b2 b3 b4 b5 b6 b7
      have fxe := FX3.out
      obtain ⟨c0, c1, c2, c3, c4, c5, c6, hf7⟩ := cells7 fxe.res
      have f0 := hf7 0
      have f1 := hf7 1
      have f2 := hf7 2
      have f3 := hf7 3
      have f4 := hf7 4
      have f5 := hf7 5
      have f6 := hf7 6
      have HG := Lib.hid fxe
      clear hf7 fxe
      go_wp2
      try simp only [Exit.inBlock, Exit.then]
      refine bodyPost_ret (results_cell_row rfl _ _ (w.heap.size + 1) _ _ _ _ rfl (row7 HG.out.res _ _ _ _ _ _ _) Tryz.underlying36 rfl Tryz.infoR) rfl ?_
      rw [HResF.out]
      exact HG.out.done (Kept.held r F0 wb) (Pz.namesR (Pz.namesOf S.E m)) A3 cn HS3.out _ _ _ _ _ _ _

set_option maxHeartbeats 4000000 in
set_option maxRecDepth 8192 in
theorem kdo_12 [Inhabited XBox] (r : Nat) (F0 : Nat → Prop) (wb : World) (S : Pz.Fil) (cl : Int) (flags fd off n : Int) (p p2 data : ByteArray) (w : World) (F : Nat → Prop) (hc1 : 1 ≤ cl) (hc2 : cl ≤ 8) (R : Pz.Fil × Pz.Rep) (hX : ∀ W G, Kept r F0 wb S W G → Calls Tryz.prog 31 #[.pointer (some ⟨r, 0, none⟩), callV 12 p p2 flags fd off n data] W (Does (Kept r F0 wb) R W G)) (hR : Kept r F0 wb S w F) :
    Calls Tryz.prog 7 #[.pointer (some ⟨r, 0, none⟩), .int .i64 cl, callV 12 p p2 flags fd off n data] w (Does (Kept r F0 wb) R w F) := by
  have HIs := Lib.hid (fis_any cl)
  have FX := Lib.hid (Fx.start (Kept.held r F0 wb S) hR #[.int .i64 12, .string p, .string p2, .int .i64 flags, .int .i64 fd, .int .i64 off, .int .i64 n, .string data])
  clear hR
  obtain ⟨S1, e0, e1, e2, e3, e4, e5, e6⟩ := R
  have HX := Lib.hid hX
  rw [decide_eq_true (And.intro hc1 hc2)] at HIs
  clear hX
  unfold callV at HX ⊢
  go_enter Tryz.func7, Tryz.ntmps7
  go_wp2_with fail
  refine (HIs.out _).mono ?_
  rintro e w1 ⟨rfl, hb1⟩
  have FX1 := Lib.hid (FX.out.read ((Kept.held r F0 wb) _) hb1)
  clear hb1
  obtain ⟨b0, b1, b2, b3, b4, b5, b6, b7⟩ := FX1.out.c8
  go_wp2_with fail
  refine (HX.out _ _ FX1.out.inv).mono ?_
  rintro e wz ⟨A, cn, rfl, hS, hi, ho⟩
  have FXz := Lib.hid (FX1.out.write (Kept.held r F0 wb _) hi ho)
  have HSz := Lib.hid (hS.low (B' := w.heap.size + 2) FX1.out.st.size)
  clear hS hi ho
  unfold repV
  have fxe := FXz.out
  obtain ⟨c0, c1, c2, c3, c4, c5, c6, hf7⟩ := cells7 fxe.res
  have f0 := hf7 0
  have f1 := hf7 1
  have f2 := hf7 2
  have f3 := hf7 3
  have f4 := hf7 4
  have f5 := hf7 5
  have f6 := hf7 6
  have HG := Lib.hid fxe
  clear hf7 fxe
  go_wp2
  try simp only [Exit.inBlock, Exit.then]
  refine bodyPost_ret (results_cell_row rfl _ _ (w.heap.size + 1) _ _ _ _ rfl (row7 HG.out.res _ _ _ _ _ _ _) Tryz.underlying36 rfl Tryz.infoR) rfl ?_
  exact HG.out.done (Kept.held r F0 wb) (⟨e0, e1, e2, e3, e4, e5, e6⟩) A cn HSz.out _ _ _ _ _ _ _

/-- a directory is told of, and nothing is turned -/
theorem list_any [Inhabited XBox] (r : Nat) (S : Pz.Fil) (cl flags fd off n : Int) (p p2 data : ByteArray) (w : World) (F : Nat → Prop) (hc1 : 1 ≤ cl) (hc2 : cl ≤ 8) (hp : p.size ≤ 100000) (hG : Pz.Good 1000 S) (hR : RealF r S w F) :
    Calls Tryz.prog 7 #[.pointer (some ⟨r, 0, none⟩), .int .i64 cl, callV 12 p p2 flags fd off n data] w fun e w' =>
      ∃ A c, e = .returned (repV (Pz.tells S 12 p.data.toList).2 A c) ∧ Strs w' w.heap.size A (Pz.tells S 12 p.data.toList).2.names ∧ Below w.heap.size w w' := by
  have hK : Kept r (fun k => F k ∧ k < w.heap.size) w S w (fun k => k < w.heap.size) :=
    ⟨(RealF.held r S).mono hR fun k hk e => ⟨e, hk⟩, fun k e => e.2, fun k e => e, Nat.le_refl _, fun k _ => rfl⟩
  refine (kdo_12 r _ w S cl flags fd off n p p2 data w _ hc1 hc2 _ (fun W G h => ktells_any r _ w S flags fd off n p p2 data W G hp hG h) hK).mono ?_
  rintro e w' ⟨A, c, he, hS, hi, ho⟩
  exact ⟨A, c, he, hS, ho.os, ho.tape, ho.output, ho.size, hi.2.2.2.2⟩

end Go.Proofs.YtbpejjmfdhkfhaaGreatDoor
