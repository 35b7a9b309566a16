/- Walks: the document's tells. -/
import Derived.Test.YtbpejjmfdhkfhaaGreatDoorPosRefS
import Derived.Test.YtbpejjmfdhkfhaaGreatDoorPosRefP
set_option linter.unusedVariables false
set_option linter.unusedSimpArgs false
namespace Go.Proofs.YtbpejjmfdhkfhaaGreatDoor
open Go.RowKit

set_option maxHeartbeats 4000000 in
set_option maxRecDepth 8192 in
theorem rtells_any (r : Nat) (S : Pz.Fil) (kind flags fd off n : Int) (p p2 data : ByteArray) (w : World) (F : Nat → Prop) (hp : p.size ≤ 100000) (hG : Pz.Good 1000 S) (hR : RefF r S w F) :
    Calls Tryz.prog 44 #[.pointer (some ⟨r, 0, none⟩), callV kind p p2 flags fd off n data] w (Does (RefF r) (Pz.tells S kind p.data.toList) w F) := by
  have HFail := Lib.hid rfails_any
  have hE := hG.e
  have hN := hG.n
  have h1 := fun W G (hR : RefF r S W G) => find_any 0 r S p W hp (by omega) (by omega) hG.ok hR.is
  have FX := Lib.hid (Fx.start (RefF.held r S) hR #[.int .i64 kind, .string p, .string p2, .int .i64 flags, .int .i64 fd, .int .i64 off, .int .i64 n, .string data])
  unfold callV
  cases hf : Pz.find S p.data.toList with
  | error v =>
    have HResF : Hid (Pz.tells S kind p.data.toList = (S, Pz.er v)) := Lib.hid (by unfold Pz.tells; rw [hf])
    rw [HResF.out]
    obtain ⟨hv1, hv2, hv3⟩ := ne_of_err (Pz.find_err hf)
    rw [hf] at h1
    simp only [toT] at h1
    have HF := Lib.hid h1
    clear h1 hR hG hE hN hf HResF
    go_enter Tryz.func44, Tryz.ntmps44
    go_wp2_with fail
    refine (HF.out _ _ FX.out.inv).mono ?_
    rintro e w1 ⟨rfl, hb1⟩
    have FX1 := Lib.hid (FX.out.read ((RefF.held r) _) hb1)
    clear hb1
    go_wp2_with fail
    refine (HFail.out v _).mono ?_
    rintro e wf ⟨rfl, hbf⟩
    have FXF := Lib.hid (FX1.out.read ((RefF.held r) _) hbf)
    unfold replyV
    have fxe := FXF.out
    obtain ⟨c0, c1, c2, c3, c4, c5, c6, hf7⟩ := cells7 fxe.res
    have f0 := hf7 0
    have f1 := hf7 1
    have f2 := hf7 2
    have f3 := hf7 3
    have f4 := hf7 4
    have f5 := hf7 5
    have f6 := hf7 6
    have HG := Lib.hid fxe
    clear hf7 fxe
    go_wp2
    try simp only [Exit.inBlock, Exit.then]
    refine bodyPost_ret (results_cell_row rfl _ _ (w.heap.size + 1) _ _ _ _ rfl (row7 HG.out.res _ _ _ _ _ _ _) Tryz.underlying36 rfl Tryz.infoR) rfl ?_
    exact HG.out.done (RefF.held r) (Pz.er v) none 0 (Or.inl rfl) _ _ _ _ _ _ _
  | ok m =>
    have hm := Pz.find_lt hG.ok hf
    rw [hf] at h1
    simp only [toT] at h1
    have HF := Lib.hid h1
    have HD := Lib.hid fun W G (h : RefF r S W G) => h.dirAt hm
    have HC := Lib.hid fun W G (h : RefF r S W G) => count_any 0 r S m W (by omega) h.is
    have HNm := Lib.hid fun W G (h : RefF r S W G) => rnames_any r S m W (by omega) h.is
    obtain ⟨R, hres⟩ : ∃ R, R = Pz.tells S kind p.data.toList := ⟨_, rfl⟩
    rw [← hres]
    obtain ⟨q, hq⟩ : ∃ q, q = S.N.length := ⟨_, rfl⟩
    obtain ⟨D, hD⟩ : ∃ D, D = Pz.isDir S.N m := ⟨_, rfl⟩
    obtain ⟨C, hC⟩ : ∃ C, C = Pz.count S.E m := ⟨_, rfl⟩
    obtain ⟨l, hl⟩ : ∃ l, l = (Pz.nodeD S.N m).links := ⟨_, rfl⟩
    obtain ⟨dd, hdd⟩ : ∃ dd : ByteArray, dd = ⟨(Pz.nodeD S.N m).data.toArray⟩ := ⟨_, rfl⟩
    have hds : dd.size ≤ 256 := by rw [hdd, Lib.size_eq]; exact Pz.nodeD_data hG hm
    have HRes : Hid (R = (S, if kind = 13 then (if D = true then Pz.infoR 2 1 C else Pz.infoR 1 l dd.size) else if D = true then Pz.namesR (Pz.namesOf S.E m) else Pz.er 12)) := Lib.hid (by
      rw [hres, hD, hC, hl, hdd, Lib.size_eq]
      unfold Pz.tells
      rw [hf])
    rw [← hq, ← hD, ← hdd, ← hl] at HD
    rw [← hC] at HC
    rw [← hq] at hm
    have hm1 : (0 : Int) ≤ m := by omega
    have hm2 : (m : Int) < q := by omega
    clear h1 hR hG hf hE hN hq hD hC hl hdd hres
    by_cases hk : kind = 13
    · have hk1 : (kind == 13) = true := by rw [beq_iff_eq]; exact hk
      cases D with
      | true =>
        have HResF : Hid (R = (S, Pz.infoR 2 1 C)) := Lib.hid (by rw [HRes.out, if_pos hk, if_pos rfl])
        clear hk
        go_enter Tryz.func44, Tryz.ntmps44
        go_wp2_with fail
        refine (HF.out _ _ FX.out.inv).mono ?_
        rintro e w1 ⟨rfl, hb1⟩
        have FX1 := Lib.hid (FX.out.read ((RefF.held r) _) hb1)
        clear hb1
        obtain ⟨b, c, g, g0, g1, g2⟩ := HD.out _ _ FX1.out.inv
        have hsz : w.heap.size < w1.heap.size := by have := FX1.out.st.size; omega
        obtain ⟨b0, b1, b2, b3, b4, b5, b6, b7⟩ := FX1.out.c8
        have FX2 := Lib.hid (FX1.out.read (RefF.held _ _) ((Below.refl w1.heap.size w1).alloc (Nat.le_refl _) (.cells #[.bool true, .string dd, .int .i64 l] 79)))
        go_wp2_with fail
        refine (HC.out _ _ FX2.out.inv).mono ?_
        rintro e w3 ⟨rfl, hb3⟩
        have FX3 := Lib.hid (FX2.out.read ((RefF.held r) _) hb3)
        clear hb3
        clear b0 b1 b2 b3 b4 b5 b6 b7
        clear g g0 g1 g2
        have fxe := FX3.out
        obtain ⟨c0, c1, c2, c3, c4, c5, c6, hf7⟩ := cells7 fxe.res
        have f0 := hf7 0
        have f1 := hf7 1
        have f2 := hf7 2
        have f3 := hf7 3
        have f4 := hf7 4
        have f5 := hf7 5
        have f6 := hf7 6
        have HG := Lib.hid fxe
        clear hf7 fxe
        go_wp2
        try simp only [Exit.inBlock, Exit.then]
        refine bodyPost_ret (results_cell_row rfl _ _ (w.heap.size + 1) _ _ _ _ rfl (row7 HG.out.res _ _ _ _ _ _ _) Tryz.underlying36 rfl Tryz.infoR) rfl ?_
        rw [HResF.out]
        exact HG.out.done (RefF.held r) (Pz.infoR 2 1 C) none 0 (Or.inl rfl) _ _ _ _ _ _ _
      | false =>
        have HResF : Hid (R = (S, Pz.infoR 1 l dd.size)) := Lib.hid (by rw [HRes.out, if_pos hk, if_neg (by decide)])
        clear hk
        go_enter Tryz.func44, Tryz.ntmps44
        go_wp2_with fail
        refine (HF.out _ _ FX.out.inv).mono ?_
        rintro e w1 ⟨rfl, hb1⟩
        have FX1 := Lib.hid (FX.out.read ((RefF.held r) _) hb1)
        clear hb1
        obtain ⟨b, c, g, g0, g1, g2⟩ := HD.out _ _ FX1.out.inv
        have hsz : w.heap.size < w1.heap.size := by have := FX1.out.st.size; omega
        obtain ⟨b0, b1, b2, b3, b4, b5, b6, b7⟩ := FX1.out.c8
        have FX2 := Lib.hid (FX1.out.read (RefF.held _ _) ((Below.refl w1.heap.size w1).alloc (Nat.le_refl _) (.cells #[.bool false, .string dd, .int .i64 l] 79)))
        have fxe := FX2.out
        obtain ⟨c0, c1, c2, c3, c4, c5, c6, hf7⟩ := cells7 fxe.res
        have f0 := hf7 0
        have f1 := hf7 1
        have f2 := hf7 2
        have f3 := hf7 3
        have f4 := hf7 4
        have f5 := hf7 5
        have f6 := hf7 6
        have HG := Lib.hid fxe
        clear hf7 fxe
        go_wp2
        try simp only [Exit.inBlock, Exit.then]
        refine bodyPost_ret (results_cell_row rfl _ _ (w.heap.size + 1) _ _ _ _ rfl (row7 HG.out.res _ _ _ _ _ _ _) Tryz.underlying36 rfl Tryz.infoR) rfl ?_
        rw [HResF.out]
        exact HG.out.done (RefF.held r) (Pz.infoR 1 l dd.size) none 0 (Or.inl rfl) _ _ _ _ _ _ _
    · have hk1 : (kind == 13) = false := by rw [beq_eq_false_iff_ne]; exact hk
      cases D with
      | true =>
        have HResF : Hid (R = (S, Pz.namesR (Pz.namesOf S.E m))) := Lib.hid (by rw [HRes.out, if_neg hk, if_pos rfl])
        clear hk
        go_enter Tryz.func44, Tryz.ntmps44
        go_wp2_with fail
        refine (HF.out _ _ FX.out.inv).mono ?_
        rintro e w1 ⟨rfl, hb1⟩
        have FX1 := Lib.hid (FX.out.read ((RefF.held r) _) hb1)
        clear hb1
        obtain ⟨b, c, g, g0, g1, g2⟩ := HD.out _ _ FX1.out.inv
        have hsz : w.heap.size < w1.heap.size := by have := FX1.out.st.size; omega
        have hsz2 : w.heap.size + 2 ≤ w1.heap.size := FX1.out.st.size
        obtain ⟨b0, b1, b2, b3, b4, b5, b6, b7⟩ := FX1.out.c8
        have FX2 := Lib.hid (FX1.out.read (RefF.held _ _) ((Below.refl w1.heap.size w1).alloc (Nat.le_refl _) (.cells #[.bool true, .string dd, .int .i64 l] 79)))
        go_wp2_with fail
        refine (HNm.out _ _ FX2.out.inv).mono ?_
        rintro e w3 ⟨A3, cn, rfl, hS3, hb3⟩
        have FX3 := Lib.hid (FX2.out.read (RefF.held _ _) hb3)
        have HS3 := Lib.hid (hS3.low (B' := w.heap.size + 2) (by simp; omega))
        clear hS3 hb3 hsz2
        clear b0 b1 b2 b3 b4 b5 b6 b7
        clear g g0 g1 g2
        have fxe := FX3.out
        obtain ⟨c0, c1, c2, c3, c4, c5, c6, hf7⟩ := cells7 fxe.res
        have f0 := hf7 0
        have f1 := hf7 1
        have f2 := hf7 2
        have f3 := hf7 3
        have f4 := hf7 4
        have f5 := hf7 5
        have f6 := hf7 6
        have HG := Lib.hid fxe
        clear hf7 fxe
        go_wp2
        try simp only [Exit.inBlock, Exit.then]
        refine bodyPost_ret (results_cell_row rfl _ _ (w.heap.size + 1) _ _ _ _ rfl (row7 HG.out.res _ _ _ _ _ _ _) Tryz.underlying36 rfl Tryz.infoR) rfl ?_
        rw [HResF.out]
        exact HG.out.done (RefF.held r) (Pz.namesR (Pz.namesOf S.E m)) A3 cn HS3.out _ _ _ _ _ _ _
      | false =>
        have HResF : Hid (R = (S, Pz.er 12)) := Lib.hid (by rw [HRes.out, if_neg hk, if_neg (by decide)])
        clear hk
        go_enter Tryz.func44, Tryz.ntmps44
        go_wp2_with fail
        refine (HF.out _ _ FX.out.inv).mono ?_
        rintro e w1 ⟨rfl, hb1⟩
        have FX1 := Lib.hid (FX.out.read ((RefF.held r) _) hb1)
        clear hb1
        obtain ⟨b, c, g, g0, g1, g2⟩ := HD.out _ _ FX1.out.inv
        have hsz : w.heap.size < w1.heap.size := by have := FX1.out.st.size; omega
        obtain ⟨b0, b1, b2, b3, b4, b5, b6, b7⟩ := FX1.out.c8
        have FX2 := Lib.hid (FX1.out.read (RefF.held _ _) ((Below.refl w1.heap.size w1).alloc (Nat.le_refl _) (.cells #[.bool false, .string dd, .int .i64 l] 79)))
        go_wp2_with fail
        clear b0 b1 b2 b3 b4 b5 b6 b7
        clear g g0 g1 g2
        go_wp2_with fail
        refine (HFail.out 12 _).mono ?_
        rintro e wf ⟨rfl, hbf⟩
        have FXF := Lib.hid (FX2.out.read ((RefF.held r) _) hbf)
        unfold replyV
        have fxe := FXF.out
        obtain ⟨c0, c1, c2, c3, c4, c5, c6, hf7⟩ := cells7 fxe.res
        have f0 := hf7 0
        have f1 := hf7 1
        have f2 := hf7 2
        have f3 := hf7 3
        have f4 := hf7 4
        have f5 := hf7 5
        have f6 := hf7 6
        have HG := Lib.hid fxe
        clear hf7 fxe
        go_wp2
        try simp only [Exit.inBlock, Exit.then]
        refine bodyPost_ret (results_cell_row rfl _ _ (w.heap.size + 1) _ _ _ _ rfl (row7 HG.out.res _ _ _ _ _ _ _) Tryz.underlying36 rfl Tryz.infoR) rfl ?_
        rw [HResF.out]
        exact HG.out.done (RefF.held r) (Pz.er 12) none 0 (Or.inl rfl) _ _ _ _ _ _ _

end Go.Proofs.YtbpejjmfdhkfhaaGreatDoor
