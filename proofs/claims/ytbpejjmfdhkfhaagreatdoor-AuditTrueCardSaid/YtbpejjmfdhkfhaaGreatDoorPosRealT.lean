/- Walks: the program's tells. -/
import Derived.Test.YtbpejjmfdhkfhaaGreatDoorPosRealS
import Derived.StillTailTactics
set_option linter.unusedVariables false
set_option linter.unusedSimpArgs false
namespace Go.Proofs.YtbpejjmfdhkfhaaGreatDoor
open Go.RowKit

set_option maxHeartbeats 4000000 in
set_option maxRecDepth 8192 in
theorem ftells_any [Inhabited XBox] (r : Nat) (S : Pz.Fil) (kind flags fd off n : Int) (p p2 data : ByteArray) (w : World) (F : Nat → Prop) (hk : kind = 12 ∨ kind = 13) (hp : p.size ≤ 100000) (hG : Pz.Good 1000 S) (hR : RealF r S w F) :
    Calls Tryz.prog 31 #[.pointer (some ⟨r, 0, none⟩), callV kind p p2 flags fd off n data] w (Does (RealF r) (Pz.tells S kind p.data.toList) w F) := by
  have HFail := Lib.hid ffails_any
  have HDone := Lib.hid fdone_any
  obtain ⟨bo, β, μ, hR⟩ := hR
  have FX := Lib.hid (Fx.start (RA.held r bo β μ S) hR #[.int .i64 kind, .string p, .string p2, .int .i64 flags, .int .i64 fd, .int .i64 off, .int .i64 n, .string data])
  have h1 := fun W G (hR : RA r bo β μ S W G) => ffind_any G r bo β μ S p W hp hG.ok hR
  unfold callV
  cases hf : Pz.find S p.data.toList with
  | error v =>
    have HResF : Hid (Pz.tells S kind p.data.toList = (S, Pz.er v)) := Lib.hid (by unfold Pz.tells; rw [hf])
    rw [HResF.out]
    obtain ⟨hv1, hv2, hv3⟩ := ne_of_err (Pz.find_err hf)
    rw [hf] at h1
    simp only [toW] at h1
    have HF := Lib.hid h1
    clear h1 hR hG hf HResF hk
    go_enter Tryz.func31, Tryz.ntmps31
    go_wp2_with fail
    refine (HF.out _ _ FX.out.inv).mono ?_
    rintro e w1 ⟨rfl, hb1⟩
    have FX1 := Lib.hid (FX.out.read ((RA.held r bo β μ) _) hb1)
    clear hb1
    go_wp2_with fail
    refine (HFail.out v _).mono ?_
    rintro e wf ⟨rfl, hbf⟩
    have FXF := Lib.hid ((FX1.out.imp RA.toF).read ((RealF.held r) _) hbf)
    unfold replyV
    have fxe := FXF.out
    obtain ⟨c0, c1, c2, c3, c4, c5, c6, hf7⟩ := cells7 fxe.res
    have f0 := hf7 0
    have f1 := hf7 1
    have f2 := hf7 2
    have f3 := hf7 3
    have f4 := hf7 4
    have f5 := hf7 5
    have f6 := hf7 6
    have HG := Lib.hid fxe
    clear hf7 fxe
    go_wp2
    try simp only [Exit.inBlock, Exit.then]
    refine bodyPost_ret (results_cell_row rfl _ _ (w.heap.size + 1) _ _ _ _ rfl (row7 HG.out.res _ _ _ _ _ _ _) Tryz.underlying36 rfl Tryz.infoR) rfl ?_
    exact HG.out.done (RealF.held r) (Pz.er v) none 0 (Or.inl rfl) _ _ _ _ _ _ _
  | ok m =>
    have hm := Pz.find_lt hG.ok hf
    rw [hf] at h1
    simp only [toW] at h1
    have HF := Lib.hid h1
    have HDir := Lib.hid fun W G (h : RA r bo β μ S W G) => fdir_any W G r bo m β μ S hm h
    have HNc := Lib.hid fun W G (h : RA r bo β μ S W G) => (RealAt.nc h hm).2.2.1
    obtain ⟨R, hres⟩ : ∃ R, R = Pz.tells S kind p.data.toList := ⟨_, rfl⟩
    rw [← hres]
    unfold Pz.tells at hres
    rw [hf] at hres
    simp only [] at hres
    rcases hk with rfl | rfl
    · rw [if_neg (show ¬ (12 : Int) = 13 by decide)] at hres
      cases hD : Pz.isDir S.N m with
      | false =>
        rw [hD] at HDir
        have HResF : Hid (R = (S, Pz.er 12)) := Lib.hid (by rw [hres, if_neg (by rw [hD]; decide)])
        clear h1 hR hG hf hm hD hres
        go_enter Tryz.func31, Tryz.ntmps31
        go_wp2_with fail
        refine (HF.out _ _ FX.out.inv).mono ?_
        rintro e w1 ⟨rfl, hb1⟩
        have FX1 := Lib.hid (FX.out.read ((RA.held r bo β μ) _) hb1)
        clear hb1
        obtain ⟨b0, b1, b2, b3, b4, b5, b6, b7⟩ := FX1.out.c8
        go_wp2_with fail
        refine (HDir.out _ _ FX1.out.inv).mono ?_
        rintro e w2 ⟨rfl, hb2⟩
        have FX2 := Lib.hid (FX1.out.read ((RA.held r bo β μ) _) hb2)
        clear hb2
        clear b0 b1 b2 b3 b4 b5 b6 b7
        go_wp2_with fail
        refine (HFail.out 12 _).mono ?_
        rintro e wf ⟨rfl, hbf⟩
        have FXF := Lib.hid ((FX2.out.imp RA.toF).read ((RealF.held r) _) hbf)
        unfold replyV
        have fxe := FXF.out
        obtain ⟨c0, c1, c2, c3, c4, c5, c6, hf7⟩ := cells7 fxe.res
        have f0 := hf7 0
        have f1 := hf7 1
        have f2 := hf7 2
        have f3 := hf7 3
        have f4 := hf7 4
        have f5 := hf7 5
        have f6 := hf7 6
        have HG := Lib.hid fxe
        clear hf7 fxe
        go_wp2
        try simp only [Exit.inBlock, Exit.then]
        refine bodyPost_ret (results_cell_row rfl _ _ (w.heap.size + 1) _ _ _ _ rfl (row7 HG.out.res _ _ _ _ _ _ _) Tryz.underlying36 rfl Tryz.infoR) rfl ?_
        rw [HResF.out]
        exact HG.out.done (RealF.held r) (Pz.er 12) none 0 (Or.inl rfl) _ _ _ _ _ _ _
      | true =>
        rw [hD] at HDir
        have HResF : Hid (R = (S, Pz.namesR (Pz.namesOf S.E m))) := Lib.hid (by rw [hres, if_pos hD])
        have HSo := Lib.hid fun W G (h : RA r bo β μ S W G) => fsorted_any G r bo m β μ S W hG hD h
        clear h1 hR hG hf hm hD hres
        go_enter Tryz.func31, Tryz.ntmps31
        go_wp2_with fail
        refine (HF.out _ _ FX.out.inv).mono ?_
        rintro e w1 ⟨rfl, hb1⟩
        have FX1 := Lib.hid (FX.out.read ((RA.held r bo β μ) _) hb1)
        clear hb1
        obtain ⟨b0, b1, b2, b3, b4, b5, b6, b7⟩ := FX1.out.c8
        go_wp2_with fail
        refine (HDir.out _ _ FX1.out.inv).mono ?_
        rintro e w2 ⟨rfl, hb2⟩
        have FX2 := Lib.hid (FX1.out.read ((RA.held r bo β μ) _) hb2)
        clear hb2
        clear b0 b1 b2 b3 b4 b5 b6 b7
        obtain ⟨b0, b1, b2, b3, b4, b5, b6, b7⟩ := FX2.out.c8
        go_wp2_with fail
        refine (HSo.out _ _ FX2.out.inv).mono ?_
        rintro e w3 ⟨A3, cn, rfl, hS3, hb3⟩
        have FX3 := Lib.hid ((FX2.out.read (RA.held r bo β μ _) hb3).imp RA.toF)
        have HS3 := Lib.hid (hS3.low (B' := w.heap.size + 2) FX2.out.st.size)
        clear hS3 hb3
        clear b0 b1 b2 b3 b4 b5 b6 b7
        have fxe := FX3.out
        obtain ⟨c0, c1, c2, c3, c4, c5, c6, hf7⟩ := cells7 fxe.res
        have f0 := hf7 0
        have f1 := hf7 1
        have f2 := hf7 2
        have f3 := hf7 3
        have f4 := hf7 4
        have f5 := hf7 5
        have f6 := hf7 6
        have HG := Lib.hid fxe
        clear hf7 fxe
        go_wp2
        try simp only [Exit.inBlock, Exit.then]
        refine bodyPost_ret (results_cell_row rfl _ _ (w.heap.size + 1) _ _ _ _ rfl (row7 HG.out.res _ _ _ _ _ _ _) Tryz.underlying36 rfl Tryz.infoR) rfl ?_
        rw [HResF.out]
        exact HG.out.done (RealF.held r) (Pz.namesR (Pz.namesOf S.E m)) A3 cn HS3.out _ _ _ _ _ _ _
    · rw [if_pos rfl] at hres
      cases hD : Pz.isDir S.N m with
      | true =>
        rw [hD] at HDir
        rw [hD, if_pos rfl] at HNc
        have HMap := Lib.hid fun W G (h : RA r bo β μ S W G) => RealAt.dirs h m hD
        have HResF : Hid (R = (S, Pz.infoR 2 1 (Pz.count S.E m))) := Lib.hid (by rw [hres, if_pos hD])
        clear h1 hR hG hf hm hD hres
        go_enter Tryz.func31, Tryz.ntmps31
        go_wp2_with fail
        refine (HF.out _ _ FX.out.inv).mono ?_
        rintro e w1 ⟨rfl, hb1⟩
        have FX1 := Lib.hid (FX.out.read ((RA.held r bo β μ) _) hb1)
        clear hb1
        obtain ⟨b0, b1, b2, b3, b4, b5, b6, b7⟩ := FX1.out.c8
        go_wp2_with fail
        refine (HDir.out _ _ FX1.out.inv).mono ?_
        rintro e w2 ⟨rfl, hb2⟩
        have FX2 := Lib.hid (FX1.out.read ((RA.held r bo β μ) _) hb2)
        clear hb2
        clear b0 b1 b2 b3 b4 b5 b6 b7
        obtain ⟨b0, b1, b2, b3, b4, b5, b6, b7⟩ := FX2.out.c8
        have n2 := HNc.out _ _ FX2.out.inv
        obtain ⟨D, hown, hme⟩ := HMap.out _ _ FX2.out.inv
        have hlen := hown.len (t := 103) (e := 62) Tryz.underlying103 3
        rw [hme.2] at hlen
        clear hme hown
        have FX2r := Lib.hid (FX2.out.imp RA.toF)
        have fxe := FX2r.out
        obtain ⟨c0, c1, c2, c3, c4, c5, c6, hf7⟩ := cells7 fxe.res
        have f0 := hf7 0
        have f1 := hf7 1
        have f2 := hf7 2
        have f3 := hf7 3
        have f4 := hf7 4
        have f5 := hf7 5
        have f6 := hf7 6
        have HG := Lib.hid fxe
        clear hf7 fxe
        go_wp2
        try simp only [Exit.inBlock, Exit.then]
        refine bodyPost_ret (results_cell_row rfl _ _ (w.heap.size + 1) _ _ _ _ rfl (row7 HG.out.res _ _ _ _ _ _ _) Tryz.underlying36 rfl Tryz.infoR) rfl ?_
        rw [HResF.out]
        exact HG.out.done (RealF.held r) (Pz.infoR 2 1 (Pz.count S.E m)) none 0 (Or.inl rfl) _ _ _ _ _ _ _
      | false =>
        rw [hD] at HDir
        obtain ⟨l, hl⟩ : ∃ l, l = (Pz.nodeD S.N m).links := ⟨_, rfl⟩
        obtain ⟨dd, hdd⟩ : ∃ dd : ByteArray, dd = ⟨(Pz.nodeD S.N m).data.toArray⟩ := ⟨_, rfl⟩
        have hnc2 := fun W G (h : RA r bo β μ S W G) => And.intro (RealAt.nc h hm).1 (RealAt.nc h hm).2.1
        rw [← hdd, ← hl] at hnc2
        have HNc2 := Lib.hid hnc2
        have HResF : Hid (R = (S, Pz.infoR 1 l dd.size)) := Lib.hid (by rw [hres, if_neg (by rw [hD]; decide), hdd, hl, Lib.size_eq])
        clear h1 hR hG hf hm hD hres hl hdd hnc2
        go_enter Tryz.func31, Tryz.ntmps31
        go_wp2_with fail
        refine (HF.out _ _ FX.out.inv).mono ?_
        rintro e w1 ⟨rfl, hb1⟩
        have FX1 := Lib.hid (FX.out.read ((RA.held r bo β μ) _) hb1)
        clear hb1
        obtain ⟨b0, b1, b2, b3, b4, b5, b6, b7⟩ := FX1.out.c8
        go_wp2_with fail
        refine (HDir.out _ _ FX1.out.inv).mono ?_
        rintro e w2 ⟨rfl, hb2⟩
        have FX2 := Lib.hid (FX1.out.read ((RA.held r bo β μ) _) hb2)
        clear hb2
        clear b0 b1 b2 b3 b4 b5 b6 b7
        obtain ⟨b0, b1, b2, b3, b4, b5, b6, b7⟩ := FX2.out.c8
        obtain ⟨n0, n1⟩ := HNc2.out _ _ FX2.out.inv
        have FX2d := Lib.hid ((FX2.out.read (RA.held r bo β μ _) ((Below.refl _ w2).drew)).imp RA.toF)
        go_wp2
        go_still_tail 11, (by kernel_rfl)
        change wpList _ _ _ _ _ w2.drew
        clear n0 n1 b0 b1 b2 b3 b4 b5 b6 b7
        generalize w2.drew = w3 at FX2d ⊢
        have fxe := FX2d.out
        obtain ⟨c0, c1, c2, c3, c4, c5, c6, hf7⟩ := cells7 fxe.res
        have f0 := hf7 0
        have f1 := hf7 1
        have f2 := hf7 2
        have f3 := hf7 3
        have f4 := hf7 4
        have f5 := hf7 5
        have f6 := hf7 6
        have HG := Lib.hid fxe
        clear hf7 fxe
        go_wp2
        try simp only [Exit.inBlock, Exit.then]
        refine bodyPost_ret (results_cell_row rfl _ _ (w.heap.size + 1) _ _ _ _ rfl (row7 HG.out.res _ _ _ _ _ _ _) Tryz.underlying36 rfl Tryz.infoR) rfl ?_
        rw [HResF.out]
        exact HG.out.done (RealF.held r) (Pz.infoR 1 l dd.size) none 0 (Or.inl rfl) _ _ _ _ _ _ _

end Go.Proofs.YtbpejjmfdhkfhaaGreatDoor
