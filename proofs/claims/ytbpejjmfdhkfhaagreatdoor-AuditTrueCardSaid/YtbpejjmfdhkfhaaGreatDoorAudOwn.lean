/- Walks: the document tells a directory's names, and nothing is turned. -/
import Derived.Test.YtbpejjmfdhkfhaaGreatDoorPosList
import Derived.Test.YtbpejjmfdhkfhaaGreatDoorPosRefV
import Derived.Test.YtbpejjmfdhkfhaaGreatDoorAudRun
set_option linter.unusedVariables false
set_option linter.unusedSimpArgs false
namespace Go.Proofs.YtbpejjmfdhkfhaaGreatDoor
open Go.RowKit

def KeptR (r : Nat) (F0 : Nat → Prop) (wb : World) (T : Pz.Fil) (w : World) (F : Nat → Prop) : Prop := RefF r T w F0 ∧ Side F0 wb w F
theorem KeptR.held (r : Nat) (F0 : Nat → Prop) (wb : World) (T : Pz.Fil) : Held (KeptR r F0 wb T) where
  keep := fun h hs hk => ⟨(RefF.held r T).keep h.1 hs (fun k _ e => hk k (Nat.lt_of_lt_of_le (h.2.1 k e) h.2.2.2.1) (h.2.2.1 k (h.2.1 k e))), h.2.keep hs hk⟩
  mono := fun h hk => ⟨h.1, h.2.mono hk⟩

set_option maxHeartbeats 4000000 in
set_option maxRecDepth 8192 in
theorem krtells_any (r : Nat) (F0 : Nat → Prop) (wb : World) (S : Pz.Fil) (kind flags fd off n : Int) (p p2 data : ByteArray) (w : World) (F : Nat → Prop) (hp : p.size ≤ 100000) (hG : Pz.Good 1000 S) (hR : KeptR r F0 wb S w F) :
    Calls Tryz.prog 44 #[.pointer (some ⟨r, 0, none⟩), callV kind p p2 flags fd off n data] w (Does (KeptR r F0 wb) (Pz.tells S kind p.data.toList) w F) := by
  have HFail := Lib.hid rfails_any
  have hE := hG.e
  have hN := hG.n
  have h1 := fun W G (hR : KeptR r F0 wb S W G) => find_any 0 r S p W hp (by omega) (by omega) hG.ok hR.1.is
  have FX := Lib.hid (Fx.start (KeptR.held r F0 wb S) hR #[.int .i64 kind, .string p, .string p2, .int .i64 flags, .int .i64 fd, .int .i64 off, .int .i64 n, .string data])
  unfold callV
  cases hf : Pz.find S p.data.toList with
  | error v =>
    have HResF : Hid (Pz.tells S kind p.data.toList = (S, Pz.er v)) := Lib.hid (by unfold Pz.tells; rw [hf])
    rw [HResF.out]
    obtain ⟨hv1, hv2, hv3⟩ := ne_of_err (Pz.find_err hf)
    rw [hf] at h1
    simp only [toT] at h1
    have HF := Lib.hid h1
    clear h1 hR hG hE hN hf HResF
    go_enter Tryz.func44, Tryz.ntmps44
    go_wp2_with fail
    refine (HF.out _ _ FX.out.inv).mono ?_
    rintro e w1 ⟨rfl, hb1⟩
    have FX1 := Lib.hid (FX.out.read ((KeptR.held r F0 wb) _) hb1)
    clear hb1
    go_wp2_with fail
    refine (HFail.out v _).mono ?_
    rintro e wf ⟨rfl, hbf⟩
    have FXF := Lib.hid (FX1.out.read ((KeptR.held r F0 wb) _) hbf)
    unfold replyV
    have fxe := FXF.out
    obtain ⟨c0, c1, c2, c3, c4, c5, c6, hf7⟩ := cells7 fxe.res
    have f0 := hf7 0
    have f1 := hf7 1
    have f2 := hf7 2
    have f3 := hf7 3
    have f4 := hf7 4
    have f5 := hf7 5
    have f6 := hf7 6
    have HG := Lib.hid fxe
    clear hf7 fxe
    go_wp2
    try simp only [Exit.inBlock, Exit.then]
    refine bodyPost_ret (results_cell_row rfl _ _ (w.heap.size + 1) _ _ _ _ rfl (row7 HG.out.res _ _ _ _ _ _ _) Tryz.underlying36 rfl Tryz.infoR) rfl ?_
    exact HG.out.done (KeptR.held r F0 wb) (Pz.er v) none 0 (Or.inl rfl) _ _ _ _ _ _ _
  | ok m =>
    have hm := Pz.find_lt hG.ok hf
    rw [hf] at h1
    simp only [toT] at h1
    have HF := Lib.hid h1
    have HD := Lib.hid fun W G (h : KeptR r F0 wb S W G) => h.1.dirAt hm
    have HC := Lib.hid fun W G (h : KeptR r F0 wb S W G) => count_any 0 r S m W (by omega) h.1.is
    have HNm := Lib.hid fun W G (h : KeptR r F0 wb S W G) => rnames_any r S m W (by omega) h.1.is
    obtain ⟨R, hres⟩ : ∃ R, R = Pz.tells S kind p.data.toList := ⟨_, rfl⟩
    rw [← hres]
    obtain ⟨q, hq⟩ : ∃ q, q = S.N.length := ⟨_, rfl⟩
    obtain ⟨D, hD⟩ : ∃ D, D = Pz.isDir S.N m := ⟨_, rfl⟩
    obtain ⟨C, hC⟩ : ∃ C, C = Pz.count S.E m := ⟨_, rfl⟩
    obtain ⟨l, hl⟩ : ∃ l, l = (Pz.nodeD S.N m).links := ⟨_, rfl⟩
    obtain ⟨dd, hdd⟩ : ∃ dd : ByteArray, dd = ⟨(Pz.nodeD S.N m).data.toArray⟩ := ⟨_, rfl⟩
    have hds : dd.size ≤ 256 := by rw [hdd, Lib.size_eq]; exact Pz.nodeD_data hG hm
    have HRes : Hid (R = (S, if kind = 13 then (if D = true then Pz.infoR 2 1 C else Pz.infoR 1 l dd.size) else if D = true then Pz.namesR (Pz.namesOf S.E m) else Pz.er 12)) := Lib.hid (by
      rw [hres, hD, hC, hl, hdd, Lib.size_eq]
      unfold Pz.tells
      rw [hf])
    rw [← hq, ← hD, ← hdd, ← hl] at HD
    rw [← hC] at HC
    rw [← hq] at hm
    have hm1 : (0 : Int) ≤ m := by omega
    have hm2 : (m : Int) < q := by omega
    clear h1 hR hG hf hE hN hq hD hC hl hdd hres
    by_cases hk : kind = 13
    · have hk1 : (kind == 13) = true := by rw [beq_iff_eq]; exact hk
      cases D with
      | true =>
        have HResF : Hid (R = (S, Pz.infoR 2 1 C)) := Lib.hid (by rw [HRes.out, if_pos hk, if_pos rfl])
        clear hk
        go_enter Tryz.func44, Tryz.ntmps44
        go_wp2_with fail
        refine (HF.out _ _ FX.out.inv).mono ?_
        rintro e w1 ⟨rfl, hb1⟩
        have FX1 := Lib.hid (FX.out.read ((KeptR.held r F0 wb) _) hb1)
        clear hb1
        obtain ⟨b, c, g, g0, g1, g2⟩ := HD.out _ _ FX1.out.inv
        have hsz : w.heap.size < w1.heap.size := by have := FX1.out.st.size; omega
        obtain ⟨b0, b1, b2, b3, b4, b5, b6, b7⟩ := FX1.out.c8
        have FX2 := Lib.hid (FX1.out.read (KeptR.held r F0 wb _) ((Below.refl w1.heap.size w1).alloc (Nat.le_refl _) (.cells #[.bool true, .string dd, .int .i64 l] 79)))
        go_wp2_with fail
        refine (HC.out _ _ FX2.out.inv).mono ?_
        rintro e w3 ⟨rfl, hb3⟩
        have FX3 := Lib.hid (FX2.out.read ((KeptR.held r F0 wb) _) hb3)
        clear hb3
        clear b0 b1 b2 b3 b4 b5 b6 b7
        clear g g0 g1 g2
        have fxe := FX3.out
        obtain ⟨c0, c1, c2, c3, c4, c5, c6, hf7⟩ := cells7 fxe.res
        have f0 := hf7 0
        have f1 := hf7 1
        have f2 := hf7 2
        have f3 := hf7 3
        have f4 := hf7 4
        have f5 := hf7 5
        have f6 := hf7 6
        have HG := Lib.hid fxe
        clear hf7 fxe
        go_wp2
        try simp only [Exit.inBlock, Exit.then]
        refine bodyPost_ret (results_cell_row rfl _ _ (w.heap.size + 1) _ _ _ _ rfl (row7 HG.out.res _ _ _ _ _ _ _) Tryz.underlying36 rfl Tryz.infoR) rfl ?_
        rw [HResF.out]
        exact HG.out.done (KeptR.held r F0 wb) (Pz.infoR 2 1 C) none 0 (Or.inl rfl) _ _ _ _ _ _ _
      | false =>
        have HResF : Hid (R = (S, Pz.infoR 1 l dd.size)) := Lib.hid (by rw [HRes.out, if_pos hk, if_neg (by decide)])
        clear hk
        go_enter Tryz.func44, Tryz.ntmps44
        go_wp2_with fail
        refine (HF.out _ _ FX.out.inv).mono ?_
        rintro e w1 ⟨rfl, hb1⟩
        have FX1 := Lib.hid (FX.out.read ((KeptR.held r F0 wb) _) hb1)
        clear hb1
        obtain ⟨b, c, g, g0, g1, g2⟩ := HD.out _ _ FX1.out.inv
        have hsz : w.heap.size < w1.heap.size := by have := FX1.out.st.size; omega
        obtain ⟨b0, b1, b2, b3, b4, b5, b6, b7⟩ := FX1.out.c8
        have FX2 := Lib.hid (FX1.out.read (KeptR.held r F0 wb _) ((Below.refl w1.heap.size w1).alloc (Nat.le_refl _) (.cells #[.bool false, .string dd, .int .i64 l] 79)))
        have fxe := FX2.out
        obtain ⟨c0, c1, c2, c3, c4, c5, c6, hf7⟩ := cells7 fxe.res
        have f0 := hf7 0
        have f1 := hf7 1
        have f2 := hf7 2
        have f3 := hf7 3
        have f4 := hf7 4
        have f5 := hf7 5
        have f6 := hf7 6
        have HG := Lib.hid fxe
        clear hf7 fxe
        go_wp2
        try simp only [Exit.inBlock, Exit.then]
        refine bodyPost_ret (results_cell_row rfl _ _ (w.heap.size + 1) _ _ _ _ rfl (row7 HG.out.res _ _ _ _ _ _ _) Tryz.underlying36 rfl Tryz.infoR) rfl ?_
        rw [HResF.out]
        exact HG.out.done (KeptR.held r F0 wb) (Pz.infoR 1 l dd.size) none 0 (Or.inl rfl) _ _ _ _ _ _ _
    · have hk1 : (kind == 13) = false := by rw [beq_eq_false_iff_ne]; exact hk
      cases D with
      | true =>
        have HResF : Hid (R = (S, Pz.namesR (Pz.namesOf S.E m))) := Lib.hid (by rw [HRes.out, if_neg hk, if_pos rfl])
        clear hk
        go_enter Tryz.func44, Tryz.ntmps44
        go_wp2_with fail
        refine (HF.out _ _ FX.out.inv).mono ?_
        rintro e w1 ⟨rfl, hb1⟩
        have FX1 := Lib.hid (FX.out.read ((KeptR.held r F0 wb) _) hb1)
        clear hb1
        obtain ⟨b, c, g, g0, g1, g2⟩ := HD.out _ _ FX1.out.inv
        have hsz : w.heap.size < w1.heap.size := by have := FX1.out.st.size; omega
        have hsz2 : w.heap.size + 2 ≤ w1.heap.size := FX1.out.st.size
        obtain ⟨b0, b1, b2, b3, b4, b5, b6, b7⟩ := FX1.out.c8
        have FX2 := Lib.hid (FX1.out.read (KeptR.held r F0 wb _) ((Below.refl w1.heap.size w1).alloc (Nat.le_refl _) (.cells #[.bool true, .string dd, .int .i64 l] 79)))
        go_wp2_with fail
        refine (HNm.out _ _ FX2.out.inv).mono ?_
        rintro e w3 ⟨A3, cn, rfl, hS3, hb3⟩
        have FX3 := Lib.hid (FX2.out.read (KeptR.held r F0 wb _) hb3)
        have HS3 := Lib.hid (hS3.low (B' := w.heap.size + 2) (by simp; omega))
        clear hS3 hb3 hsz2
        clear b0 b1 b2 b3 b4 b5 b6 b7
        clear g g0 g1 g2
        have fxe := FX3.out
        obtain ⟨c0, c1, c2, c3, c4, c5, c6, hf7⟩ := cells7 fxe.res
        have f0 := hf7 0
        have f1 := hf7 1
        have f2 := hf7 2
        have f3 := hf7 3
        have f4 := hf7 4
        have f5 := hf7 5
        have f6 := hf7 6
        have HG := Lib.hid fxe
        clear hf7 fxe
        go_wp2
        try simp only [Exit.inBlock, Exit.then]
        refine bodyPost_ret (results_cell_row rfl _ _ (w.heap.size + 1) _ _ _ _ rfl (row7 HG.out.res _ _ _ _ _ _ _) Tryz.underlying36 rfl Tryz.infoR) rfl ?_
        rw [HResF.out]
        exact HG.out.done (KeptR.held r F0 wb) (Pz.namesR (Pz.namesOf S.E m)) A3 cn HS3.out _ _ _ _ _ _ _
      | false =>
        have HResF : Hid (R = (S, Pz.er 12)) := Lib.hid (by rw [HRes.out, if_neg hk, if_neg (by decide)])
        clear hk
        go_enter Tryz.func44, Tryz.ntmps44
        go_wp2_with fail
        refine (HF.out _ _ FX.out.inv).mono ?_
        rintro e w1 ⟨rfl, hb1⟩
        have FX1 := Lib.hid (FX.out.read ((KeptR.held r F0 wb) _) hb1)
        clear hb1
        obtain ⟨b, c, g, g0, g1, g2⟩ := HD.out _ _ FX1.out.inv
        have hsz : w.heap.size < w1.heap.size := by have := FX1.out.st.size; omega
        obtain ⟨b0, b1, b2, b3, b4, b5, b6, b7⟩ := FX1.out.c8
        have FX2 := Lib.hid (FX1.out.read (KeptR.held r F0 wb _) ((Below.refl w1.heap.size w1).alloc (Nat.le_refl _) (.cells #[.bool false, .string dd, .int .i64 l] 79)))
        go_wp2_with fail
        clear b0 b1 b2 b3 b4 b5 b6 b7
        clear g g0 g1 g2
        go_wp2_with fail
        refine (HFail.out 12 _).mono ?_
        rintro e wf ⟨rfl, hbf⟩
        have FXF := Lib.hid (FX2.out.read ((KeptR.held r F0 wb) _) hbf)
        unfold replyV
        have fxe := FXF.out
        obtain ⟨c0, c1, c2, c3, c4, c5, c6, hf7⟩ := cells7 fxe.res
        have f0 := hf7 0
        have f1 := hf7 1
        have f2 := hf7 2
        have f3 := hf7 3
        have f4 := hf7 4
        have f5 := hf7 5
        have f6 := hf7 6
        have HG := Lib.hid fxe
        clear hf7 fxe
        go_wp2
        try simp only [Exit.inBlock, Exit.then]
        refine bodyPost_ret (results_cell_row rfl _ _ (w.heap.size + 1) _ _ _ _ rfl (row7 HG.out.res _ _ _ _ _ _ _) Tryz.underlying36 rfl Tryz.infoR) rfl ?_
        rw [HResF.out]
        exact HG.out.done (KeptR.held r F0 wb) (Pz.er 12) none 0 (Or.inl rfl) _ _ _ _ _ _ _



set_option maxHeartbeats 4000000 in
set_option maxRecDepth 8192 in
theorem krdo_12 (r : Nat) (F0 : Nat → Prop) (wb : World) (S : Pz.Fil) (cl : Int) (flags fd off n : Int) (p p2 data : ByteArray) (w : World) (F : Nat → Prop) (hc1 : 1 ≤ cl) (hc2 : cl ≤ 8) (R : Pz.Fil × Pz.Rep) (hX : ∀ W G, KeptR r F0 wb S W G → Calls Tryz.prog 44 #[.pointer (some ⟨r, 0, none⟩), callV 12 p p2 flags fd off n data] W (Does (KeptR r F0 wb) R W G)) (hR : KeptR r F0 wb S w F) :
    Calls Tryz.prog 9 #[.pointer (some ⟨r, 0, none⟩), .int .i64 cl, callV 12 p p2 flags fd off n data] w (Does (KeptR r F0 wb) R w F) := by
  have FX := Lib.hid (Fx.start (KeptR.held r F0 wb S) hR #[.int .i64 12, .string p, .string p2, .int .i64 flags, .int .i64 fd, .int .i64 off, .int .i64 n, .string data])
  clear hR
  obtain ⟨S1, e0, e1, e2, e3, e4, e5, e6⟩ := R
  have HX := Lib.hid hX
  clear hX
  unfold callV at HX ⊢
  go_enter Tryz.func9, Tryz.ntmps9
  go_wp2_with fail
  refine (HX.out _ _ FX.out.inv).mono ?_
  rintro e wz ⟨A, cn, rfl, hS, hi, ho⟩
  have FXz := Lib.hid (FX.out.write (KeptR.held r F0 wb _) hi ho)
  have HSz := Lib.hid (hS.low (B' := w.heap.size + 2) (by first | (simp; done) | (simp; omega) | exact FX.out.st.size))
  clear hS hi ho
  unfold repV
  have fxe := FXz.out
  obtain ⟨c0, c1, c2, c3, c4, c5, c6, hf7⟩ := cells7 fxe.res
  have f0 := hf7 0
  have f1 := hf7 1
  have f2 := hf7 2
  have f3 := hf7 3
  have f4 := hf7 4
  have f5 := hf7 5
  have f6 := hf7 6
  have HG := Lib.hid fxe
  clear hf7 fxe
  go_wp2
  try simp only [Exit.inBlock, Exit.then]
  refine bodyPost_ret (results_cell_row rfl _ _ (w.heap.size + 1) _ _ _ _ rfl (row7 HG.out.res _ _ _ _ _ _ _) Tryz.underlying36 rfl Tryz.infoR) rfl ?_
  exact HG.out.done (KeptR.held r F0 wb) (⟨e0, e1, e2, e3, e4, e5, e6⟩) A cn HSz.out _ _ _ _ _ _ _


/-- a directory is told of, and nothing is turned -/
theorem rlist_any (r : Nat) (S : Pz.Fil) (cl flags fd off n : Int) (p p2 data : ByteArray) (w : World) (F : Nat → Prop) (hc1 : 1 ≤ cl) (hc2 : cl ≤ 8) (hp : p.size ≤ 100000) (hG : Pz.Good 1000 S) (hR : RefF r S w F) :
    Calls Tryz.prog 9 #[.pointer (some ⟨r, 0, none⟩), .int .i64 cl, callV 12 p p2 flags fd off n data] w fun e w' =>
      ∃ A c, e = .returned (repV (Pz.tells S 12 p.data.toList).2 A c) ∧ Strs w' w.heap.size A (Pz.tells S 12 p.data.toList).2.names ∧ Below w.heap.size w w' := by
  have hK : KeptR r (fun k => F k ∧ k < w.heap.size) w S w (fun k => k < w.heap.size) :=
    ⟨(RefF.held r S).mono hR fun k hk e => ⟨e, hk⟩, fun k e => e.2, fun k e => e, Nat.le_refl _, fun k _ => rfl⟩
  refine (krdo_12 r _ w S cl flags fd off n p p2 data w _ hc1 hc2 _ (fun W G h => krtells_any r _ w S 12 flags fd off n p p2 data W G hp hG h) hK).mono ?_
  rintro e w' ⟨A, c, he, hS, hi, ho⟩
  exact ⟨A, c, he, hS, ho.os, ho.tape, ho.output, ho.size, hi.2.2.2.2⟩

end Go.Proofs.YtbpejjmfdhkfhaaGreatDoor

/- Events that are the document's own: plain. -/
namespace Go.Proofs.YtbpejjmfdhkfhaaGreatDoor
open Go.RowKit

namespace Pz
/-- an answer is not that there is no room -/
def Roomy (R : Fil × Rep) : Prop := R.2.errno ≠ 18
theorem roomy_er {S : Fil} {e : Int} (h : e = 10 ∨ e = 12 ∨ e = 15) : Roomy (S, er e) := by
  show e ≠ 18
  omega
theorem roomy_lit {S : Fil} {q : Rep} (h : q.errno ≠ 18) : Roomy (S, q) := h
theorem opens_18 (S : Fil) (cl flags : Int) (p : List UInt8) : Roomy (opens S cl flags p) := by
  unfold opens
  split
  · first | exact roomy_lit (by decide) | exact roomy_lit (show (0 : Int) ≠ 18 by decide) | exact roomy_er (find_err (by assumption)) | exact roomy_er (place_err (by assumption))
  split
  · split
    · first | exact roomy_lit (by decide) | exact roomy_lit (show (0 : Int) ≠ 18 by decide) | exact roomy_er (find_err (by assumption)) | exact roomy_er (place_err (by assumption))
    split
    · first | exact roomy_lit (by decide) | exact roomy_lit (show (0 : Int) ≠ 18 by decide) | exact roomy_er (find_err (by assumption)) | exact roomy_er (place_err (by assumption))
    split
    · first | exact roomy_lit (by decide) | exact roomy_lit (show (0 : Int) ≠ 18 by decide) | exact roomy_er (find_err (by assumption)) | exact roomy_er (place_err (by assumption))
    · first | exact roomy_lit (by decide) | exact roomy_lit (show (0 : Int) ≠ 18 by decide) | exact roomy_er (find_err (by assumption)) | exact roomy_er (place_err (by assumption))
  · split
    · split
      · first | exact roomy_lit (by decide) | exact roomy_lit (show (0 : Int) ≠ 18 by decide) | exact roomy_er (find_err (by assumption)) | exact roomy_er (place_err (by assumption))
      split
      · first | exact roomy_lit (by decide) | exact roomy_lit (show (0 : Int) ≠ 18 by decide) | exact roomy_er (find_err (by assumption)) | exact roomy_er (place_err (by assumption))
      · first | exact roomy_lit (by decide) | exact roomy_lit (show (0 : Int) ≠ 18 by decide) | exact roomy_er (find_err (by assumption)) | exact roomy_er (place_err (by assumption))
    · first | exact roomy_lit (by decide) | exact roomy_lit (show (0 : Int) ≠ 18 by decide) | exact roomy_er (find_err (by assumption)) | exact roomy_er (place_err (by assumption))
theorem file_18 (S : Fil) (cl : Int) (n : Nat) (kind fd off m : Int) (d : List UInt8) : Roomy (file S cl n kind fd off m d) := by
  unfold file
  split
  · first | exact roomy_lit (by decide) | exact roomy_lit (show (0 : Int) ≠ 18 by decide) | exact roomy_er (find_err (by assumption)) | exact roomy_er (place_err (by assumption))
  split
  · split
    · first | exact roomy_lit (by decide) | exact roomy_lit (show (0 : Int) ≠ 18 by decide) | exact roomy_er (find_err (by assumption)) | exact roomy_er (place_err (by assumption))
    split
    · first | exact roomy_lit (by decide) | exact roomy_lit (show (0 : Int) ≠ 18 by decide) | exact roomy_er (find_err (by assumption)) | exact roomy_er (place_err (by assumption))
    · first | exact roomy_lit (by decide) | exact roomy_lit (show (0 : Int) ≠ 18 by decide) | exact roomy_er (find_err (by assumption)) | exact roomy_er (place_err (by assumption))
  split
  · split
    · first | exact roomy_lit (by decide) | exact roomy_lit (show (0 : Int) ≠ 18 by decide) | exact roomy_er (find_err (by assumption)) | exact roomy_er (place_err (by assumption))
    split
    · first | exact roomy_lit (by decide) | exact roomy_lit (show (0 : Int) ≠ 18 by decide) | exact roomy_er (find_err (by assumption)) | exact roomy_er (place_err (by assumption))
    split
    · first | exact roomy_lit (by decide) | exact roomy_lit (show (0 : Int) ≠ 18 by decide) | exact roomy_er (find_err (by assumption)) | exact roomy_er (place_err (by assumption))
    · first | exact roomy_lit (by decide) | exact roomy_lit (show (0 : Int) ≠ 18 by decide) | exact roomy_er (find_err (by assumption)) | exact roomy_er (place_err (by assumption))
  split
  · split
    · first | exact roomy_lit (by decide) | exact roomy_lit (show (0 : Int) ≠ 18 by decide) | exact roomy_er (find_err (by assumption)) | exact roomy_er (place_err (by assumption))
    split
    · first | exact roomy_lit (by decide) | exact roomy_lit (show (0 : Int) ≠ 18 by decide) | exact roomy_er (find_err (by assumption)) | exact roomy_er (place_err (by assumption))
    · first | exact roomy_lit (by decide) | exact roomy_lit (show (0 : Int) ≠ 18 by decide) | exact roomy_er (find_err (by assumption)) | exact roomy_er (place_err (by assumption))
  · first | exact roomy_lit (by decide) | exact roomy_lit (show (0 : Int) ≠ 18 by decide) | exact roomy_er (find_err (by assumption)) | exact roomy_er (place_err (by assumption))
theorem mkdir_18 (S : Fil) (p : List UInt8) : Roomy (mkdir S p) := by
  unfold mkdir
  split
  · first | exact roomy_lit (by decide) | exact roomy_lit (show (0 : Int) ≠ 18 by decide) | exact roomy_er (find_err (by assumption)) | exact roomy_er (place_err (by assumption))
  split
  · first | exact roomy_lit (by decide) | exact roomy_lit (show (0 : Int) ≠ 18 by decide) | exact roomy_er (find_err (by assumption)) | exact roomy_er (place_err (by assumption))
  · first | exact roomy_lit (by decide) | exact roomy_lit (show (0 : Int) ≠ 18 by decide) | exact roomy_er (find_err (by assumption)) | exact roomy_er (place_err (by assumption))
theorem rmdir_18 (S : Fil) (p : List UInt8) : Roomy (rmdirR S p) := by
  unfold rmdirR
  split
  · first | exact roomy_lit (by decide) | exact roomy_lit (show (0 : Int) ≠ 18 by decide) | exact roomy_er (find_err (by assumption)) | exact roomy_er (place_err (by assumption))
  split
  · first | exact roomy_lit (by decide) | exact roomy_lit (show (0 : Int) ≠ 18 by decide) | exact roomy_er (find_err (by assumption)) | exact roomy_er (place_err (by assumption))
  split
  · split
    · first | exact roomy_lit (by decide) | exact roomy_lit (show (0 : Int) ≠ 18 by decide) | exact roomy_er (find_err (by assumption)) | exact roomy_er (place_err (by assumption))
    split
    · first | exact roomy_lit (by decide) | exact roomy_lit (show (0 : Int) ≠ 18 by decide) | exact roomy_er (find_err (by assumption)) | exact roomy_er (place_err (by assumption))
    · first | exact roomy_lit (by decide) | exact roomy_lit (show (0 : Int) ≠ 18 by decide) | exact roomy_er (find_err (by assumption)) | exact roomy_er (place_err (by assumption))
  · first | exact roomy_lit (by decide) | exact roomy_lit (show (0 : Int) ≠ 18 by decide) | exact roomy_er (find_err (by assumption)) | exact roomy_er (place_err (by assumption))
theorem link_18 (S : Fil) (p p2 : List UInt8) : Roomy (link S p p2) := by
  unfold link
  split
  · first | exact roomy_lit (by decide) | exact roomy_lit (show (0 : Int) ≠ 18 by decide) | exact roomy_er (find_err (by assumption)) | exact roomy_er (place_err (by assumption))
  split
  · first | exact roomy_lit (by decide) | exact roomy_lit (show (0 : Int) ≠ 18 by decide) | exact roomy_er (find_err (by assumption)) | exact roomy_er (place_err (by assumption))
  split
  · first | exact roomy_lit (by decide) | exact roomy_lit (show (0 : Int) ≠ 18 by decide) | exact roomy_er (find_err (by assumption)) | exact roomy_er (place_err (by assumption))
  split
  · first | exact roomy_lit (by decide) | exact roomy_lit (show (0 : Int) ≠ 18 by decide) | exact roomy_er (find_err (by assumption)) | exact roomy_er (place_err (by assumption))
  split
  · first | exact roomy_lit (by decide) | exact roomy_lit (show (0 : Int) ≠ 18 by decide) | exact roomy_er (find_err (by assumption)) | exact roomy_er (place_err (by assumption))
  split
  · first | exact roomy_lit (by decide) | exact roomy_lit (show (0 : Int) ≠ 18 by decide) | exact roomy_er (find_err (by assumption)) | exact roomy_er (place_err (by assumption))
  split
  · first | exact roomy_lit (by decide) | exact roomy_lit (show (0 : Int) ≠ 18 by decide) | exact roomy_er (find_err (by assumption)) | exact roomy_er (place_err (by assumption))
  · first | exact roomy_lit (by decide) | exact roomy_lit (show (0 : Int) ≠ 18 by decide) | exact roomy_er (find_err (by assumption)) | exact roomy_er (place_err (by assumption))
theorem unlink_18 (S : Fil) (p : List UInt8) : Roomy (unlink S p) := by
  unfold unlink
  split
  · first | exact roomy_lit (by decide) | exact roomy_lit (show (0 : Int) ≠ 18 by decide) | exact roomy_er (find_err (by assumption)) | exact roomy_er (place_err (by assumption))
  split
  · first | exact roomy_lit (by decide) | exact roomy_lit (show (0 : Int) ≠ 18 by decide) | exact roomy_er (find_err (by assumption)) | exact roomy_er (place_err (by assumption))
  split
  · first | exact roomy_lit (by decide) | exact roomy_lit (show (0 : Int) ≠ 18 by decide) | exact roomy_er (find_err (by assumption)) | exact roomy_er (place_err (by assumption))
  · first | exact roomy_lit (by decide) | exact roomy_lit (show (0 : Int) ≠ 18 by decide) | exact roomy_er (find_err (by assumption)) | exact roomy_er (place_err (by assumption))
theorem overErr_18 (S : Fil) (n : Nat) (was : Int) : Roomy (S, er (overErr S n was)) := by
  show overErr S n was ≠ 18
  unfold overErr
  split
  · split
    · split
      · split <;> decide
      · decide
    · split <;> decide
  · decide
theorem rename_18 (S : Fil) (p p2 : List UInt8) : Roomy (rename S p p2) := by
  unfold rename
  split
  · first | exact roomy_lit (by decide) | exact roomy_lit (show (0 : Int) ≠ 18 by decide) | exact roomy_er (find_err (by assumption)) | exact roomy_er (place_err (by assumption)) | exact overErr_18 _ _ _
  split
  · first | exact roomy_lit (by decide) | exact roomy_lit (show (0 : Int) ≠ 18 by decide) | exact roomy_er (find_err (by assumption)) | exact roomy_er (place_err (by assumption)) | exact overErr_18 _ _ _
  split
  · first | exact roomy_lit (by decide) | exact roomy_lit (show (0 : Int) ≠ 18 by decide) | exact roomy_er (find_err (by assumption)) | exact roomy_er (place_err (by assumption)) | exact overErr_18 _ _ _
  split
  · first | exact roomy_lit (by decide) | exact roomy_lit (show (0 : Int) ≠ 18 by decide) | exact roomy_er (find_err (by assumption)) | exact roomy_er (place_err (by assumption)) | exact overErr_18 _ _ _
  split
  · first | exact roomy_lit (by decide) | exact roomy_lit (show (0 : Int) ≠ 18 by decide) | exact roomy_er (find_err (by assumption)) | exact roomy_er (place_err (by assumption)) | exact overErr_18 _ _ _
  split
  · first | exact roomy_lit (by decide) | exact roomy_lit (show (0 : Int) ≠ 18 by decide) | exact roomy_er (find_err (by assumption)) | exact roomy_er (place_err (by assumption)) | exact overErr_18 _ _ _
  split
  · first | exact roomy_lit (by decide) | exact roomy_lit (show (0 : Int) ≠ 18 by decide) | exact roomy_er (find_err (by assumption)) | exact roomy_er (place_err (by assumption)) | exact overErr_18 _ _ _
  · first | exact roomy_lit (by decide) | exact roomy_lit (show (0 : Int) ≠ 18 by decide) | exact roomy_er (find_err (by assumption)) | exact roomy_er (place_err (by assumption)) | exact overErr_18 _ _ _
theorem tells_18 (S : Fil) (kind : Int) (p : List UInt8) : Roomy (tells S kind p) := by
  unfold tells
  split
  · first | exact roomy_lit (by decide) | exact roomy_lit (show (0 : Int) ≠ 18 by decide) | exact roomy_er (find_err (by assumption)) | exact roomy_er (place_err (by assumption))
  split
  · split <;> first | exact roomy_lit (by decide) | exact roomy_lit (show (0 : Int) ≠ 18 by decide) | exact roomy_er (find_err (by assumption)) | exact roomy_er (place_err (by assumption))
  · split
    · first | exact roomy_lit (by decide) | exact roomy_lit (show (0 : Int) ≠ 18 by decide) | exact roomy_er (find_err (by assumption)) | exact roomy_er (place_err (by assumption))
    · first | exact roomy_lit (by decide) | exact roomy_lit (show (0 : Int) ≠ 18 by decide) | exact roomy_er (find_err (by assumption)) | exact roomy_er (place_err (by assumption))
theorem do_18 (S : Fil) (cl kind : Int) (p p2 : List UInt8) (flags fd off m : Int) (d : List UInt8) : Roomy (doA S cl kind p p2 flags fd off m d) := by
  unfold doA
  split
  · exact roomy_lit (by decide)
  split
  · exact opens_18 _ _ _ _
  split
  · split
    · exact roomy_lit (by decide)
    · exact file_18 _ _ _ _ _ _ _ _
  split
  · exact mkdir_18 _ _
  split
  · exact rmdir_18 _ _
  split
  · exact link_18 _ _ _
  split
  · exact unlink_18 _ _
  split
  · exact rename_18 _ _ _
  split
  · exact tells_18 _ _ _
  · exact roomy_lit (by decide)

/-- names are told by List alone -/
theorem do_nil (S : Fil) (cl kind : Int) (p p2 : List UInt8) (flags fd off m : Int) (d : List UInt8) (h : ¬ (1 ≤ cl ∧ cl ≤ 8 ∧ kind = 12)) : (doA S cl kind p p2 flags fd off m d).2.names = [] := by
  unfold doA
  split
  · rfl
  rename_i hc
  split
  · exact opens_names _ _ _ _
  split
  · split
    · rfl
    · exact file_names _ _ _ _ _ _ _ _
  split
  · exact mkdir_names _ _
  split
  · exact rmdir_names _ _
  split
  · exact link_names _ _ _
  split
  · exact unlink_names _ _
  split
  · exact rename_names _ _ _
  split
  · rename_i hk
    have h13 : kind = 13 := by
      rcases hk with hk | hk
      · exact absurd ⟨by omega, by omega, hk⟩ h
      · exact hk
    unfold tells
    rw [h13]
    simp only
    cases find S p with
    | error e => rfl
    | ok n =>
      simp only [if_true]
      split <;> rfl
  · rfl
end Pz

end Go.Proofs.YtbpejjmfdhkfhaaGreatDoor

/- Events that are the document's own: what the audit tells of them, and of them with one answer turned; the document's call, its names out of its own blocks. -/
namespace Go.Proofs.YtbpejjmfdhkfhaaGreatDoor
open Go.RowKit

def evKey (x : Ev) : Int × Int × ByteArray × ByteArray × Int × Int × Int × Int × ByteArray := (x.cl, x.kind, x.p, x.p2, x.flags, x.fd, x.off, x.n, x.data)
theorem evDo_key {S : Pz.Fil} {x y : Ev} (h : evKey x = evKey y) : evDo S x = evDo S y := by
  simp only [evKey, Prod.mk.injEq] at h
  obtain ⟨h1, h2, h3, h4, h5, h6, h7, h8, h9⟩ := h
  unfold evDo
  rw [h1, h2, h3, h4, h5, h6, h7, h8, h9]
theorem evRun_key : ∀ {T U : List Ev} {S : Pz.Fil}, T.map evKey = U.map evKey → evRun S T = evRun S U
  | [], [], _, _ => rfl
  | [], y :: U, _, h => by simp at h
  | x :: T, [], _, h => by simp at h
  | x :: T, y :: U, S, h => by
    rw [List.map_cons, List.map_cons, List.cons.injEq] at h
    show evRun (evDo S x).1 T = evRun (evDo S y).1 U
    rw [evDo_key h.1]
    exact evRun_key h.2
theorem evBad_stuck : ∀ {T : List Ev} {S : Pz.Fil} {b : Int}, b ≠ 0 → evBad S T b = b
  | [], _, _, _ => rfl
  | x :: T, S, b, h => by
    rw [evBad, if_neg (fun e => h e.2)]
    exact evBad_stuck h
theorem evBad_zero : ∀ {T : List Ev} {S : Pz.Fil}, (∀ j x, T[j]? = some x → fitB (evRun S (T.take j)) x = true) → evBad S T 0 = 0
  | [], _, _ => rfl
  | x :: T, S, h => by
    have h0 : fitB S x = true := h 0 x rfl
    rw [evBad, if_neg (fun e => by rw [h0] at e; cases e.1)]
    exact evBad_zero fun j y hy => h (j + 1) y hy
theorem evBad_at : ∀ {T : List Ev} {S : Pz.Fil} {k : Nat} {x : Ev}, T[k]? = some x → fitB (evRun S (T.take k)) x = false → x.num ≠ 0 → (∀ j y, j ≠ k → T[j]? = some y → fitB (evRun S (T.take j)) y = true) → evBad S T 0 = x.num
  | [], _, _, _, h, _, _, _ => by simp at h
  | y :: T, S, 0, x, h, hf, hn, _ => by
    simp at h
    subst h
    have hf' : fitB S y = false := hf
    rw [evBad, if_pos ⟨hf', rfl⟩]
    exact evBad_stuck hn
  | y :: T, S, k + 1, x, h, hf, hn, ho => by
    have h0 : fitB S y = true := ho 0 y (by omega) rfl
    rw [evBad, if_neg (fun e => by rw [h0] at e; cases e.1)]
    exact evBad_at (T := T) (S := (evDo S y).1) h hf hn fun j z hj hz => ho (j + 1) z (by omega) hz

/-- each event took effect in a moment of its own -/
def DoneAt (T : List Ev) : Prop := ∀ (j : Nat) (x : Ev), T[j]? = some x → x.done = 3 * j + 2
theorem DoneAt.all {T : List Ev} (h : DoneAt T) : (T.filter fun x => decide (0 < x.done)) = T := by
  rw [List.filter_eq_self]
  intro x hx
  obtain ⟨j, hj⟩ := List.getElem?_of_mem hx
  have := h j x hj
  simp
  omega
theorem DoneAt.rise {T : List Ev} (h : DoneAt T) : T.Pairwise fun a b => a.done < b.done := by
  rw [List.pairwise_iff_getElem]
  intro i j hi hj hij
  have h1 := h i T[i] (List.getElem?_eq_getElem hi)
  have h2 := h j T[j] (List.getElem?_eq_getElem hj)
  omega
/-- events as the document tells them, done in turn -/
def Own (T : List Ev) : Prop := ∀ (j : Nat) (x : Ev), T[j]? = some x → x.num = j + 1 ∧ x.asked = 3 * j + 1 ∧ x.done = 3 * j + 2 ∧ x.told = 3 * j + 3 ∧ x.q = (evDo (evRun newFS (T.take j)) x).2
theorem own_nil : Own [] := fun j x h => by simp at h
theorem Own.snoc {T : List Ev} {x : Ev} (h : Own T) (h1 : x.num = T.length + 1) (h2 : x.asked = 3 * T.length + 1) (h3 : x.done = 3 * T.length + 2) (h4 : x.told = 3 * T.length + 3) (h5 : x.q = (evDo (evRun newFS T) x).2) : Own (T ++ [x]) := fun j y hy => by
  by_cases hj : j < T.length
  · rw [List.getElem?_append_left hj] at hy
    rw [List.take_append_of_le_length (Nat.le_of_lt hj)]
    exact h j y hy
  · rw [List.getElem?_append_right (by omega)] at hy
    have h0 : j - T.length = 0 := by
      cases hh : j - T.length with
      | zero => rfl
      | succ z => rw [hh] at hy; simp at hy
    obtain rfl : j = T.length := by omega
    rw [h0] at hy
    simp at hy
    subst hy
    rw [List.take_left]
    exact ⟨h1, h2, h3, h4, h5⟩
theorem Own.done {T : List Ev} (h : Own T) : DoneAt T := fun j x hx => (h j x hx).2.2.1
theorem Own.fit {T : List Ev} (h : Own T) : ∀ j x, T[j]? = some x → fitB (evRun newFS (T.take j)) x = true := fun j x hx => by
  obtain ⟨_, h2, h3, h4, h5⟩ := h j x hx
  exact fitB_iff.2 fun _ => ⟨by omega, by omega, h5.symm⟩
theorem Own.bad {T : List Ev} (h : Own T) : evBad newFS (T.filter fun x => decide (0 < x.done)) 0 = 0 := by
  rw [h.done.all]
  exact evBad_zero h.fit
/-- one answer turned -/
theorem Own.turned {T : List Ev} (h : Own T) {k : Nat} {x : Ev} (hx : T[k]? = some x) (o : Pz.Rep) (A : Option Addr) (c : Nat) (ho : x.q ≠ o) :
    DoneAt (T.set k { x with q := o, A := A, c := c }) ∧ evBad newFS ((T.set k { x with q := o, A := A, c := c }).filter fun x => decide (0 < x.done)) 0 = k + 1 := by
  obtain ⟨y, hy⟩ : ∃ y : Ev, y = { x with q := o, A := A, c := c } := ⟨_, rfl⟩
  rw [← hy]
  have hkl : k < T.length := (List.getElem?_eq_some_iff.1 hx).1
  have hkey : (T.set k y).map evKey = T.map evKey := by
    rw [List.map_set]
    have : evKey y = evKey x := by rw [hy]; rfl
    rw [this]
    apply List.ext_getElem?
    intro i
    rw [List.getElem?_set]
    split
    · rename_i e
      subst e
      rw [List.getElem?_map, hx, if_pos (by rw [List.length_map]; exact hkl)]
      rfl
    · rfl
  have hrun : ∀ j, evRun newFS ((T.set k y).take j) = evRun newFS (T.take j) := fun j => evRun_key (by rw [List.map_take, List.map_take, hkey])
  have hoth : ∀ j z, j ≠ k → (T.set k y)[j]? = some z → T[j]? = some z := fun j z hj hz => by
    rw [List.getElem?_set_ne (fun e => hj e.symm)] at hz
    exact hz
  have hat : (T.set k y)[k]? = some y := by
    rw [List.getElem?_set_self hkl]
  have hd : DoneAt (T.set k y) := fun j z hz => by
    by_cases hj : j = k
    · subst hj
      rw [hat] at hz
      cases hz
      rw [hy]
      exact (h j x hx).2.2.1
    · exact (h j z (hoth j z hj hz)).2.2.1
  refine ⟨hd, ?_⟩
  rw [hd.all]
  obtain ⟨h1, h2, h3, h4, h5⟩ := h k x hx
  have hn : y.num = k + 1 := by rw [hy]; exact h1
  rw [← hn]
  refine evBad_at hat ?_ (by rw [hn]; omega) fun j z hj hz => ?_
  · rw [hrun]
    cases hf : fitB (evRun newFS (T.take k)) y with
    | false => rfl
    | true =>
      have := (fitB_iff.1 hf (by rw [hy]; show 0 < x.told; omega)).2.2
      rw [evDo_key (show evKey y = evKey x by rw [hy]; rfl), ← h5] at this
      exact absurd (this.trans (by rw [hy])) ho
  · rw [hrun]
    exact h.fit j z (hoth j z hj hz)

namespace Pz
theorem do_12 {S : Fil} {cl : Int} (h1 : 1 ≤ cl) (h8 : cl ≤ 8) (p p2 : List UInt8) (flags fd off m : Int) (d : List UInt8) : doA S cl 12 p p2 flags fd off m d = tells S 12 p := by
  unfold doA
  rw [if_neg (by omega), if_neg (by decide), if_neg (by decide), if_neg (by decide), if_neg (by decide), if_neg (by decide), if_neg (by decide), if_neg (by decide), if_pos (Or.inl rfl)]
end Pz
/-- texts stand in a block that is none of P's, from B on -/
def NmF (P : Nat → Prop) (B : Nat) (w : World) (A : Option Addr) (L : List (List UInt8)) : Prop :=
  L = [] ∨ ∃ b o, A = some ⟨b, o, none⟩ ∧ B ≤ b ∧ b < w.heap.size ∧ ¬ P b ∧ ∀ j x, L[j]? = some x → w.cell? ⟨b, o + j, none⟩ = some (.string ⟨x.toArray⟩)
theorem NmF.nmz {P : Nat → Prop} {B : Nat} {w : World} {A : Option Addr} {L : List (List UInt8)} (h : NmF P B w A L) : Nmz w A L := by
  rcases h with h | ⟨b, o, h1, _, h2, _, h3⟩
  · exact Or.inl h
  · exact Or.inr ⟨b, o, h1, h2, h3⟩
def RdoSaid (r : Nat) (R : Pz.Fil × Pz.Rep) (G : Nat → Prop) (w : World) (e : Ending) (w' : World) : Prop :=
  ∃ A c G', e = .returned (repV R.2 A c) ∧ RefF r R.1 w' G' ∧ (∀ k, G' k → k < w'.heap.size ∧ (G k ∨ w.heap.size ≤ k)) ∧ Only G w w' ∧ NmF G' w.heap.size w' A R.2.names
theorem rdo_names (r : Nat) (S : Pz.Fil) (cl kind flags fd off n : Int) (p p2 data : ByteArray) (w : World) (G : Nat → Prop) (hp : p.size ≤ 100000) (hp2 : p2.size ≤ 100000) (hG : Pz.Good 1000 S) (hR : RefF r S w G) (hl : ∀ k, G k → k < w.heap.size) :
    Calls Tryz.prog 9 #[.pointer (some ⟨r, 0, none⟩), .int .i64 cl, callV kind p p2 flags fd off n data] w (RdoSaid r (Pz.doA S cl kind p.data.toList p2.data.toList flags fd off n data.data.toList) G w) := by
  by_cases h : 1 ≤ cl ∧ cl ≤ 8 ∧ kind = 12
  · obtain ⟨h1, h8, rfl⟩ := h
    rw [Pz.do_12 h1 h8]
    refine (rlist_any r S cl flags fd off n p p2 data w G h1 h8 hp hG hR).mono ?_
    rintro e w' ⟨A, c, he, hS, hb⟩
    refine ⟨A, c, G, he, (RefF.held r S).below hR hb, fun k hk => ⟨Nat.lt_of_lt_of_le (hl k hk) hb.size, Or.inl hk⟩, below_only hb G, ?_⟩
    rcases hS with h | ⟨b, o, h2, h3, h4, h5, _⟩
    · exact Or.inl h
    · exact Or.inr ⟨b, o, h2, h3, h4, fun hg => absurd (hl b hg) (by omega), h5⟩
  · refine (rdo_any r S cl kind flags fd off n p p2 data w G hp hp2 hG hR).mono ?_
    rintro e w' ⟨A, c, he, hS, hi, ho⟩
    exact ⟨A, c, fun k => Gr G w k ∧ k < w'.heap.size, he, (RefF.held _ _).mono hi fun k hk e => ⟨e, hk⟩, fun k hk => ⟨hk.2, hk.1⟩, ho, Or.inl (Pz.do_nil _ _ _ _ _ _ _ _ _ _ h)⟩

end Go.Proofs.YtbpejjmfdhkfhaaGreatDoor
