/- Walks: the program's over; its rename, where it is refused ahead of its places. -/
import Derived.Test.YtbpejjmfdhkfhaaGreatDoorPosRealI
set_option linter.unusedVariables false
set_option linter.unusedSimpArgs false
namespace Go.Proofs.YtbpejjmfdhkfhaaGreatDoor
open Go.RowKit

set_option maxHeartbeats 2000000 in
set_option maxRecDepth 8192 in
theorem fover_nil (b : Nat) (w : World) : Calls Tryz.prog 60 #[.pointer (some ⟨b, 0, none⟩), .pointer none] w fun e w' => e = .returned (.int .i64 0) ∧ Below w.heap.size w w' := by
  go_enter Tryz.func60, Tryz.ntmps60
  go_wp2
  go_ret
  exact ⟨rfl, Below.refl _ _⟩

set_option maxHeartbeats 4000000 in
set_option maxRecDepth 8192 in
theorem fover_any [Inhabited XBox] (w : World) (F : Nat → Prop) (r bo m k : Nat) (β μ : Nat → Nat) (S : Pz.Fil) (hm : m < S.N.length) (hk : k < S.N.length) (hR : RealAt w F r bo β μ S) :
    Calls Tryz.prog 60 #[.pointer (some ⟨β m, 0, none⟩), .pointer (some ⟨β k, 0, none⟩)] w fun e w' => e = .returned (.int .i64 (Pz.overErr S m k)) ∧ Below w.heap.size w w' := by
  rw [Pz.overErr_nat]
  have HR := Lib.hid hR
  have HDm := Lib.hid fun W (h : RealAt W F r bo β μ S) => fdir_any W F r bo m β μ S hm h
  have HDk := Lib.hid fun W (h : RealAt W F r bo β μ S) => fdir_any W F r bo k β μ S hk h
  cases hd : Pz.isDir S.N m with
  | true =>
    rw [hd] at HDm
    cases he : Pz.isDir S.N k with
    | false =>
      rw [he] at HDk
      simp only [if_true, Bool.false_eq_true, if_false]
      clear hR hd he hm hk
      go_enter Tryz.func60, Tryz.ntmps60
      go_wp2_with fail
      refine (HDm.out _ HR.out).mono ?_
      rintro e w1 ⟨rfl, hb1⟩
      have HR1 := Lib.hid ((RealAt.held r bo β μ S).below HR.out hb1)
      go_wp2_with fail
      refine (HDk.out _ HR1.out).mono ?_
      rintro e w2 ⟨rfl, hb2⟩
      go_wp2
      go_ret
      exact ⟨rfl, hb1.trans (hb2.mono hb1.size)⟩
    | true =>
      rw [he] at HDk
      simp only [if_true]
      have HNc := Lib.hid fun W (h : RealAt W F r bo β μ S) => (RealAt.nc h hk).2.2.1
      rw [he, if_pos rfl] at HNc
      have HMap := Lib.hid fun W (h : RealAt W F r bo β μ S) => RealAt.dirs h k he
      by_cases hC : 0 < Pz.count S.E k
      · rw [if_pos hC]
        have hC2 : (0 : Int) < Pz.count S.E k := by omega
        clear hR hd he hm hk hC
        go_enter Tryz.func60, Tryz.ntmps60
        go_wp2_with fail
        refine (HDm.out _ HR.out).mono ?_
        rintro e w1 ⟨rfl, hb1⟩
        have HR1 := Lib.hid ((RealAt.held r bo β μ S).below HR.out hb1)
        go_wp2_with fail
        refine (HDk.out _ HR1.out).mono ?_
        rintro e w2 ⟨rfl, hb2⟩
        have HR2 := Lib.hid ((RealAt.held r bo β μ S).below HR1.out hb2)
        have HB2 := Lib.hid (hb1.trans (hb2.mono hb1.size))
        clear hb1 hb2
        go_wp2_with fail
        refine (HDm.out _ HR2.out).mono ?_
        rintro e w3 ⟨rfl, hb3⟩
        have HR3 := Lib.hid ((RealAt.held r bo β μ S).below HR2.out hb3)
        have HB3 := Lib.hid (HB2.out.trans (hb3.mono HB2.out.size))
        clear hb3
        have n2 := HNc.out _ HR3.out
        obtain ⟨D, hown, hme⟩ := HMap.out _ HR3.out
        have hlen := hown.len (t := 103) (e := 62) Tryz.underlying103 3
        rw [hme.2] at hlen
        clear hme hown
        go_wp2_with fail
        go_ret
        exact ⟨rfl, HB3.out⟩
      · rw [if_neg hC]
        have hC2 : ¬ (0 : Int) < Pz.count S.E k := by omega
        have hC3 : (Pz.count S.E k : Int) ≤ 0 := by omega
        clear hR hd he hm hk hC
        go_enter Tryz.func60, Tryz.ntmps60
        go_wp2_with fail
        refine (HDm.out _ HR.out).mono ?_
        rintro e w1 ⟨rfl, hb1⟩
        have HR1 := Lib.hid ((RealAt.held r bo β μ S).below HR.out hb1)
        go_wp2_with fail
        refine (HDk.out _ HR1.out).mono ?_
        rintro e w2 ⟨rfl, hb2⟩
        have HR2 := Lib.hid ((RealAt.held r bo β μ S).below HR1.out hb2)
        have HB2 := Lib.hid (hb1.trans (hb2.mono hb1.size))
        clear hb1 hb2
        go_wp2_with fail
        refine (HDm.out _ HR2.out).mono ?_
        rintro e w3 ⟨rfl, hb3⟩
        have HR3 := Lib.hid ((RealAt.held r bo β μ S).below HR2.out hb3)
        have HB3 := Lib.hid (HB2.out.trans (hb3.mono HB2.out.size))
        clear hb3
        have n2 := HNc.out _ HR3.out
        obtain ⟨D, hown, hme⟩ := HMap.out _ HR3.out
        have hlen := hown.len (t := 103) (e := 62) Tryz.underlying103 3
        rw [hme.2] at hlen
        clear hme hown
        go_wp2_with fail
        refine (HDm.out _ HR3.out).mono ?_
        rintro e w4 ⟨rfl, hb4⟩
        go_wp2
        go_ret
        exact ⟨rfl, HB3.out.trans (hb4.mono HB3.out.size)⟩
  | false =>
    rw [hd] at HDm
    simp only [Bool.false_eq_true, if_false]
    cases he : Pz.isDir S.N k with
    | false =>
      rw [he] at HDk
      simp only [Bool.false_eq_true, if_false]
      clear hR hd he hm hk
      go_enter Tryz.func60, Tryz.ntmps60
      go_wp2_with fail
      refine (HDm.out _ HR.out).mono ?_
      rintro e w1 ⟨rfl, hb1⟩
      have HR1 := Lib.hid ((RealAt.held r bo β μ S).below HR.out hb1)
      go_wp2_with fail
      refine (HDm.out _ HR1.out).mono ?_
      rintro e w2 ⟨rfl, hb2⟩
      have HR2 := Lib.hid ((RealAt.held r bo β μ S).below HR1.out hb2)
      have HB2 := Lib.hid (hb1.trans (hb2.mono hb1.size))
      clear hb1 hb2
      go_wp2_with fail
      refine (HDm.out _ HR2.out).mono ?_
      rintro e w3 ⟨rfl, hb3⟩
      have HR3 := Lib.hid ((RealAt.held r bo β μ S).below HR2.out hb3)
      have HB3 := Lib.hid (HB2.out.trans (hb3.mono HB2.out.size))
      clear hb3
      go_wp2_with fail
      refine (HDk.out _ HR3.out).mono ?_
      rintro e w4 ⟨rfl, hb4⟩
      go_wp2
      go_ret
      exact ⟨rfl, HB3.out.trans (hb4.mono HB3.out.size)⟩
    | true =>
      rw [he] at HDk
      simp only [if_true]
      clear hR hd he hm hk
      go_enter Tryz.func60, Tryz.ntmps60
      go_wp2_with fail
      refine (HDm.out _ HR.out).mono ?_
      rintro e w1 ⟨rfl, hb1⟩
      have HR1 := Lib.hid ((RealAt.held r bo β μ S).below HR.out hb1)
      go_wp2_with fail
      refine (HDm.out _ HR1.out).mono ?_
      rintro e w2 ⟨rfl, hb2⟩
      have HR2 := Lib.hid ((RealAt.held r bo β μ S).below HR1.out hb2)
      have HB2 := Lib.hid (hb1.trans (hb2.mono hb1.size))
      clear hb1 hb2
      go_wp2_with fail
      refine (HDm.out _ HR2.out).mono ?_
      rintro e w3 ⟨rfl, hb3⟩
      have HR3 := Lib.hid ((RealAt.held r bo β μ S).below HR2.out hb3)
      have HB3 := Lib.hid (HB2.out.trans (hb3.mono HB2.out.size))
      clear hb3
      go_wp2_with fail
      refine (HDk.out _ HR3.out).mono ?_
      rintro e w4 ⟨rfl, hb4⟩
      go_wp2
      go_ret
      exact ⟨rfl, HB3.out.trans (hb4.mono HB3.out.size)⟩

set_option maxHeartbeats 4000000 in
set_option maxRecDepth 8192 in
theorem frename_bad [Inhabited XBox] (r : Nat) (S : Pz.Fil) (kind flags fd off n : Int) (p p2 data : ByteArray) (w : World) (F : Nat → Prop) (hp : p.size ≤ 100000) (hp2 : p2.size ≤ 100000) (hbad : Np.pathL p.data.toList = none ∨ Np.pathL p2.data.toList = none ∨ p.data.toList = [47] ∨ p2.data.toList = [47]) (hR : RealF r S w F) :
    Calls Tryz.prog 30 #[.pointer (some ⟨r, 0, none⟩), callV kind p p2 flags fd off n data] w (Does (RealF r) (S, Pz.er 15) w F) := by
  have HFail := Lib.hid ffails_any
  obtain ⟨bo, β, μ, hR⟩ := hR
  have FX := Lib.hid (Fx.start (RA.held r bo β μ S) hR #[.int .i64 kind, .string p, .string p2, .int .i64 flags, .int .i64 fd, .int .i64 off, .int .i64 n, .string data])
  have h0 := fun W G (hR : RA r bo β μ S W G) => fboth_any kind flags fd off n p p2 data W hp hp2 (RealAt.mx hR).1
  unfold callV at h0 ⊢
  by_cases hok : Np.pathL p.data.toList = none ∨ Np.pathL p2.data.toList = none
  · rw [both_not hok] at h0
    have H0 := Lib.hid h0
    clear h0 hR hok hbad hp hp2
    go_enter Tryz.func30, Tryz.ntmps30
    go_wp2_with fail
    refine (H0.out _ _ FX.out.inv).mono ?_
    rintro e w1 ⟨rfl, hb1⟩
    have FX1 := Lib.hid (FX.out.read ((RA.held r bo β μ) _) hb1)
    clear hb1
    obtain ⟨b0, b1, b2, b3, b4, b5, b6, b7⟩ := FX1.out.c8
    go_wp2_with fail
    refine (HFail.out 15 _).mono ?_
    rintro e wf ⟨rfl, hbf⟩
    have FXF := Lib.hid ((FX1.out.imp RA.toF).read ((RealF.held r) _) hbf)
    unfold replyV
    have fxe := FXF.out
    obtain ⟨c0, c1, c2, c3, c4, c5, c6, hf7⟩ := cells7 fxe.res
    have f0 := hf7 0
    have f1 := hf7 1
    have f2 := hf7 2
    have f3 := hf7 3
    have f4 := hf7 4
    have f5 := hf7 5
    have f6 := hf7 6
    have HG := Lib.hid fxe
    clear hf7 fxe
    go_wp2
    try simp only [Exit.inBlock, Exit.then]
    refine bodyPost_ret (results_cell_row rfl _ _ (w.heap.size + 1) _ _ _ _ rfl (row7 HG.out.res _ _ _ _ _ _ _) Tryz.underlying36 rfl Tryz.infoR) rfl ?_
    exact HG.out.done (RealF.held r) (Pz.er 15) none 0 (Or.inl rfl) _ _ _ _ _ _ _
  rw [both_of hok] at h0
  have H0 := Lib.hid h0
  by_cases h47 : p.data.toList = [47]
  · have h47b := path_is h47
    clear h0 hR hok hbad h47 hp hp2
    go_enter Tryz.func30, Tryz.ntmps30
    go_wp2_with fail
    refine (H0.out _ _ FX.out.inv).mono ?_
    rintro e w1 ⟨rfl, hb1⟩
    have FX1 := Lib.hid (FX.out.read ((RA.held r bo β μ) _) hb1)
    clear hb1
    obtain ⟨b0, b1, b2, b3, b4, b5, b6, b7⟩ := FX1.out.c8
    go_wp2_with fail
    refine (HFail.out 15 _).mono ?_
    rintro e wf ⟨rfl, hbf⟩
    have FXF := Lib.hid ((FX1.out.imp RA.toF).read ((RealF.held r) _) hbf)
    unfold replyV
    have fxe := FXF.out
    obtain ⟨c0, c1, c2, c3, c4, c5, c6, hf7⟩ := cells7 fxe.res
    have f0 := hf7 0
    have f1 := hf7 1
    have f2 := hf7 2
    have f3 := hf7 3
    have f4 := hf7 4
    have f5 := hf7 5
    have f6 := hf7 6
    have HG := Lib.hid fxe
    clear hf7 fxe
    go_wp2
    try simp only [Exit.inBlock, Exit.then]
    refine bodyPost_ret (results_cell_row rfl _ _ (w.heap.size + 1) _ _ _ _ rfl (row7 HG.out.res _ _ _ _ _ _ _) Tryz.underlying36 rfl Tryz.infoR) rfl ?_
    exact HG.out.done (RealF.held r) (Pz.er 15) none 0 (Or.inl rfl) _ _ _ _ _ _ _
  have h47n := path_ne h47
  have h47b := path_is (p := p2) ((hbad.resolve_left fun h => hok (Or.inl h)).resolve_left (fun h => hok (Or.inr h)) |>.resolve_left h47)
  clear h0 hR hok hbad h47 hp hp2
  go_enter Tryz.func30, Tryz.ntmps30
  go_wp2_with fail
  refine (H0.out _ _ FX.out.inv).mono ?_
  rintro e w1 ⟨rfl, hb1⟩
  have FX1 := Lib.hid (FX.out.read ((RA.held r bo β μ) _) hb1)
  clear hb1
  obtain ⟨b0, b1, b2, b3, b4, b5, b6, b7⟩ := FX1.out.c8
  go_wp2_with fail
  refine (HFail.out 15 _).mono ?_
  rintro e wf ⟨rfl, hbf⟩
  have FXF := Lib.hid ((FX1.out.imp RA.toF).read ((RealF.held r) _) hbf)
  unfold replyV
  have fxe := FXF.out
  obtain ⟨c0, c1, c2, c3, c4, c5, c6, hf7⟩ := cells7 fxe.res
  have f0 := hf7 0
  have f1 := hf7 1
  have f2 := hf7 2
  have f3 := hf7 3
  have f4 := hf7 4
  have f5 := hf7 5
  have f6 := hf7 6
  have HG := Lib.hid fxe
  clear hf7 fxe
  go_wp2
  try simp only [Exit.inBlock, Exit.then]
  refine bodyPost_ret (results_cell_row rfl _ _ (w.heap.size + 1) _ _ _ _ rfl (row7 HG.out.res _ _ _ _ _ _ _) Tryz.underlying36 rfl Tryz.infoR) rfl ?_
  exact HG.out.done (RealF.held r) (Pz.er 15) none 0 (Or.inl rfl) _ _ _ _ _ _ _

set_option maxHeartbeats 4000000 in
set_option maxRecDepth 8192 in
theorem frename_err [Inhabited XBox] (r : Nat) (S : Pz.Fil) (kind flags fd off n : Int) (p p2 data : ByteArray) (w : World) (F : Nat → Prop) (hpre : RenPre S p p2) (v : Int) (hf : Pz.find S p.data.toList = .error v) (hR : RealF r S w F) :
    Calls Tryz.prog 30 #[.pointer (some ⟨r, 0, none⟩), callV kind p p2 flags fd off n data] w (Does (RealF r) (S, Pz.er v) w F) := by
  have HFail := Lib.hid ffails_any
  have HDone := Lib.hid fdone_any
  obtain ⟨bo, β, μ, hR⟩ := hR
  have FX := Lib.hid (Fx.start (RA.held r bo β μ S) hR #[.int .i64 kind, .string p, .string p2, .int .i64 flags, .int .i64 fd, .int .i64 off, .int .i64 n, .string data])
  have h0 := fun W G (hR : RA r bo β μ S W G) => fboth_any kind flags fd off n p p2 data W hpre.hp hpre.hp2 (RealAt.mx hR).1
  have h1 := fun W G (hR : RA r bo β μ S W G) => ffind_any G r bo β μ S p W hpre.hp hpre.good.ok hR
  have h2 := fun W G (hR : RA r bo β μ S W G) => fplace_any G r bo β μ S p2 W hpre.hp2 hpre.good.ok hR
  unfold callV at h0 ⊢
  rw [both_of hpre.ok] at h0
  have H0 := Lib.hid h0
  have h47a := path_ne hpre.h1
  have h47b := path_ne hpre.h2
  obtain ⟨hv1, hv2, hv3⟩ := ne_of_err (Pz.find_err hf)
  rw [hf] at h1
  simp only [toW] at h1
  have HF := Lib.hid h1
  clear h0 h1 h2 hR hpre hf
  go_enter Tryz.func30, Tryz.ntmps30
  go_wp2_with fail
  refine (H0.out _ _ FX.out.inv).mono ?_
  rintro e w1 ⟨rfl, hb1⟩
  have FX1 := Lib.hid (FX.out.read ((RA.held r bo β μ) _) hb1)
  clear hb1
  obtain ⟨b0, b1, b2, b3, b4, b5, b6, b7⟩ := FX1.out.c8
  go_wp2_with fail
  refine (HF.out _ _ FX1.out.inv).mono ?_
  rintro e w2 ⟨rfl, hb2⟩
  have FX2 := Lib.hid (FX1.out.read ((RA.held r bo β μ) _) hb2)
  clear hb2
  clear b0 b1 b2 b3 b4 b5 b6 b7
  obtain ⟨b0, b1, b2, b3, b4, b5, b6, b7⟩ := FX2.out.c8
  go_wp2_with fail
  refine (HFail.out v _).mono ?_
  rintro e wf ⟨rfl, hbf⟩
  have FXF := Lib.hid ((FX2.out.imp RA.toF).read ((RealF.held r) _) hbf)
  unfold replyV
  have fxe := FXF.out
  obtain ⟨c0, c1, c2, c3, c4, c5, c6, hf7⟩ := cells7 fxe.res
  have f0 := hf7 0
  have f1 := hf7 1
  have f2 := hf7 2
  have f3 := hf7 3
  have f4 := hf7 4
  have f5 := hf7 5
  have f6 := hf7 6
  have HG := Lib.hid fxe
  clear hf7 fxe
  go_wp2
  try simp only [Exit.inBlock, Exit.then]
  refine bodyPost_ret (results_cell_row rfl _ _ (w.heap.size + 1) _ _ _ _ rfl (row7 HG.out.res _ _ _ _ _ _ _) Tryz.underlying36 rfl Tryz.infoR) rfl ?_
  exact HG.out.done (RealF.held r) (Pz.er v) none 0 (Or.inl rfl) _ _ _ _ _ _ _

end Go.Proofs.YtbpejjmfdhkfhaaGreatDoor
