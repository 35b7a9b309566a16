/- Walks: the program's opens. -/
import Derived.Test.YtbpejjmfdhkfhaaGreatDoorPosRealM
set_option linter.unusedVariables false
set_option linter.unusedSimpArgs false
namespace Go.Proofs.YtbpejjmfdhkfhaaGreatDoor
open Go.RowKit

set_option maxHeartbeats 4000000 in
set_option maxRecDepth 8192 in
theorem fopen_ok0 [Inhabited XBox] (r : Nat) (S : Pz.Fil) (cl kind fd off n : Int) (p p2 data : ByteArray) (w : World) (F : Nat → Prop) (hcl : I64 cl) (hpre : OpenPre S p) (m : Nat) (hf : Pz.find S p.data.toList = .ok m) (R : Pz.Fil × Pz.Rep) (hres : R = if Pz.isDir S.N m = true then (S, Pz.er 13) else if Pz.free S.O cl = 8 then (S, Pz.er 17) else ({ S with O := S.O ++ [⟨cl, Pz.free S.O cl, m⟩] }, Pz.fdR (Pz.free S.O cl))) (hR : RealF r S w F) :
    Calls Tryz.prog 23 #[.pointer (some ⟨r, 0, none⟩), .int .i64 cl, callV kind p p2 0 fd off n data] w (Does (RealF r) R w F) := by
  have HFail := Lib.hid ffails_any
  obtain ⟨bo, β, μ, hR⟩ := hR
  have FX := Lib.hid (Fx.start (RA.held r bo β μ S) hR #[.int .i64 kind, .string p, .string p2, .int .i64 0, .int .i64 fd, .int .i64 off, .int .i64 n, .string data])
  have h1 := fun W G (hR : RA r bo β μ S W G) => ffind_any G r bo β μ S p W hpre.hp hpre.good.ok hR
  have h2 := fun W G (hR : RA r bo β μ S W G) => fplace_any G r bo β μ S p W hpre.hp hpre.good.ok hR
  have h3 := fun W G (hR : RA r bo β μ S W G) => ffree_any G r bo β μ S cl W hcl hR
  rw [hf] at h1
  simp only [toW] at h1
  have HF := Lib.hid h1
  unfold callV
  obtain ⟨q, x, u, hP⟩ := toL_any β (Pz.place S p.data.toList)
  rw [hP] at h2
  have HP := Lib.hid h2
  have hm := Pz.find_lt hpre.good.ok hf
  have HDir := Lib.hid fun W G (h : RA r bo β μ S W G) => fdir_any W G r bo m β μ S hm h
  by_cases hfr : Pz.free S.O cl = 8
  · rw [freeV, if_pos hfr] at h3
    have HFr := Lib.hid h3
    cases hD : Pz.isDir S.N m with
    | true =>
      rw [hD] at HDir
      have HResF : Hid (R = (S, Pz.er 13)) := Lib.hid (by rw [hres, if_pos hD])
      clear h1 h2 h3 hR hP hpre hf hfr hcl hm hD hres
      go_enter Tryz.func23, Tryz.ntmps23
      go_wp2_with fail
      refine (HF.out _ _ FX.out.inv).mono ?_
      rintro e w1 ⟨rfl, hb1⟩
      have FX1 := Lib.hid (FX.out.read ((RA.held r bo β μ) _) hb1)
      clear hb1
      obtain ⟨b0, b1, b2, b3, b4, b5, b6, b7⟩ := FX1.out.c8
      go_wp2_with fail
      refine (HP.out _ _ FX1.out.inv).mono ?_
      rintro e w2 ⟨rfl, hb2⟩
      have FX2 := Lib.hid (FX1.out.read ((RA.held r bo β μ) _) hb2)
      clear hb2
      clear b0 b1 b2 b3 b4 b5 b6 b7
      obtain ⟨b0, b1, b2, b3, b4, b5, b6, b7⟩ := FX2.out.c8
      go_wp2_with fail
      refine (HFr.out _ _ FX2.out.inv).mono ?_
      rintro e w3 ⟨rfl, hb3⟩
      have FX3 := Lib.hid (FX2.out.read ((RA.held r bo β μ) _) hb3)
      clear hb3
      clear b0 b1 b2 b3 b4 b5 b6 b7
      obtain ⟨b0, b1, b2, b3, b4, b5, b6, b7⟩ := FX3.out.c8
      go_wp2_with fail
      refine (HDir.out _ _ FX3.out.inv).mono ?_
      rintro e w4 ⟨rfl, hb4⟩
      have FX4 := Lib.hid (FX3.out.read ((RA.held r bo β μ) _) hb4)
      clear hb4
      clear b0 b1 b2 b3 b4 b5 b6 b7
      go_wp2_with fail
      refine (HFail.out 13 _).mono ?_
      rintro e wf ⟨rfl, hbf⟩
      have FXF := Lib.hid ((FX4.out.imp RA.toF).read ((RealF.held r) _) hbf)
      unfold replyV
      have fxe := FXF.out
      obtain ⟨c0, c1, c2, c3, c4, c5, c6, hf7⟩ := cells7 fxe.res
      have f0 := hf7 0
      have f1 := hf7 1
      have f2 := hf7 2
      have f3 := hf7 3
      have f4 := hf7 4
      have f5 := hf7 5
      have f6 := hf7 6
      have HG := Lib.hid fxe
      clear hf7 fxe
      go_wp2
      try simp only [Exit.inBlock, Exit.then]
      refine bodyPost_ret (results_cell_row rfl _ _ (w.heap.size + 1) _ _ _ _ rfl (row7 HG.out.res _ _ _ _ _ _ _) Tryz.underlying36 rfl Tryz.infoR) rfl ?_
      rw [HResF.out]
      exact HG.out.done (RealF.held r) (Pz.er 13) none 0 (Or.inl rfl) _ _ _ _ _ _ _
    | false =>
      rw [hD] at HDir
      have HResF : Hid (R = (S, Pz.er 17)) := Lib.hid (by rw [hres, if_neg (by rw [hD]; decide), if_pos hfr])
      clear h1 h2 h3 hR hP hpre hf hfr hcl hm hD hres
      go_enter Tryz.func23, Tryz.ntmps23
      go_wp2_with fail
      refine (HF.out _ _ FX.out.inv).mono ?_
      rintro e w1 ⟨rfl, hb1⟩
      have FX1 := Lib.hid (FX.out.read ((RA.held r bo β μ) _) hb1)
      clear hb1
      obtain ⟨b0, b1, b2, b3, b4, b5, b6, b7⟩ := FX1.out.c8
      go_wp2_with fail
      refine (HP.out _ _ FX1.out.inv).mono ?_
      rintro e w2 ⟨rfl, hb2⟩
      have FX2 := Lib.hid (FX1.out.read ((RA.held r bo β μ) _) hb2)
      clear hb2
      clear b0 b1 b2 b3 b4 b5 b6 b7
      obtain ⟨b0, b1, b2, b3, b4, b5, b6, b7⟩ := FX2.out.c8
      go_wp2_with fail
      refine (HFr.out _ _ FX2.out.inv).mono ?_
      rintro e w3 ⟨rfl, hb3⟩
      have FX3 := Lib.hid (FX2.out.read ((RA.held r bo β μ) _) hb3)
      clear hb3
      clear b0 b1 b2 b3 b4 b5 b6 b7
      obtain ⟨b0, b1, b2, b3, b4, b5, b6, b7⟩ := FX3.out.c8
      go_wp2_with fail
      refine (HDir.out _ _ FX3.out.inv).mono ?_
      rintro e w4 ⟨rfl, hb4⟩
      have FX4 := Lib.hid (FX3.out.read ((RA.held r bo β μ) _) hb4)
      clear hb4
      clear b0 b1 b2 b3 b4 b5 b6 b7
      go_wp2_with fail
      refine (HFail.out 17 _).mono ?_
      rintro e wf ⟨rfl, hbf⟩
      have FXF := Lib.hid ((FX4.out.imp RA.toF).read ((RealF.held r) _) hbf)
      unfold replyV
      have fxe := FXF.out
      obtain ⟨c0, c1, c2, c3, c4, c5, c6, hf7⟩ := cells7 fxe.res
      have f0 := hf7 0
      have f1 := hf7 1
      have f2 := hf7 2
      have f3 := hf7 3
      have f4 := hf7 4
      have f5 := hf7 5
      have f6 := hf7 6
      have HG := Lib.hid fxe
      clear hf7 fxe
      go_wp2
      try simp only [Exit.inBlock, Exit.then]
      refine bodyPost_ret (results_cell_row rfl _ _ (w.heap.size + 1) _ _ _ _ rfl (row7 HG.out.res _ _ _ _ _ _ _) Tryz.underlying36 rfl Tryz.infoR) rfl ?_
      rw [HResF.out]
      exact HG.out.done (RealF.held r) (Pz.er 17) none 0 (Or.inl rfl) _ _ _ _ _ _ _
  · rw [freeV, if_neg hfr] at h3
    have HFr := Lib.hid h3
    cases hD : Pz.isDir S.N m with
    | true =>
      rw [hD] at HDir
      have HResF : Hid (R = (S, Pz.er 13)) := Lib.hid (by rw [hres, if_pos hD])
      clear h1 h2 h3 hR hP hpre hf hfr hcl hm hD hres
      go_enter Tryz.func23, Tryz.ntmps23
      go_wp2_with fail
      refine (HF.out _ _ FX.out.inv).mono ?_
      rintro e w1 ⟨rfl, hb1⟩
      have FX1 := Lib.hid (FX.out.read ((RA.held r bo β μ) _) hb1)
      clear hb1
      obtain ⟨b0, b1, b2, b3, b4, b5, b6, b7⟩ := FX1.out.c8
      go_wp2_with fail
      refine (HP.out _ _ FX1.out.inv).mono ?_
      rintro e w2 ⟨rfl, hb2⟩
      have FX2 := Lib.hid (FX1.out.read ((RA.held r bo β μ) _) hb2)
      clear hb2
      clear b0 b1 b2 b3 b4 b5 b6 b7
      obtain ⟨b0, b1, b2, b3, b4, b5, b6, b7⟩ := FX2.out.c8
      go_wp2_with fail
      refine (HFr.out _ _ FX2.out.inv).mono ?_
      rintro e w3 ⟨rfl, hb3⟩
      have FX3 := Lib.hid (FX2.out.read ((RA.held r bo β μ) _) hb3)
      clear hb3
      clear b0 b1 b2 b3 b4 b5 b6 b7
      obtain ⟨b0, b1, b2, b3, b4, b5, b6, b7⟩ := FX3.out.c8
      go_wp2_with fail
      refine (HDir.out _ _ FX3.out.inv).mono ?_
      rintro e w4 ⟨rfl, hb4⟩
      have FX4 := Lib.hid (FX3.out.read ((RA.held r bo β μ) _) hb4)
      clear hb4
      clear b0 b1 b2 b3 b4 b5 b6 b7
      go_wp2_with fail
      refine (HFail.out 13 _).mono ?_
      rintro e wf ⟨rfl, hbf⟩
      have FXF := Lib.hid ((FX4.out.imp RA.toF).read ((RealF.held r) _) hbf)
      unfold replyV
      have fxe := FXF.out
      obtain ⟨c0, c1, c2, c3, c4, c5, c6, hf7⟩ := cells7 fxe.res
      have f0 := hf7 0
      have f1 := hf7 1
      have f2 := hf7 2
      have f3 := hf7 3
      have f4 := hf7 4
      have f5 := hf7 5
      have f6 := hf7 6
      have HG := Lib.hid fxe
      clear hf7 fxe
      go_wp2
      try simp only [Exit.inBlock, Exit.then]
      refine bodyPost_ret (results_cell_row rfl _ _ (w.heap.size + 1) _ _ _ _ rfl (row7 HG.out.res _ _ _ _ _ _ _) Tryz.underlying36 rfl Tryz.infoR) rfl ?_
      rw [HResF.out]
      exact HG.out.done (RealF.held r) (Pz.er 13) none 0 (Or.inl rfl) _ _ _ _ _ _ _
    | false =>
      rw [hD] at HDir
      obtain ⟨k, hk⟩ : ∃ k, k = Pz.free S.O cl := ⟨_, rfl⟩
      have hkle := Pz.free_le (O := S.O) (cl := cl)
      have HNo := Lib.hid (Pz.free_no hk.symm (by omega))
      have hfd : I64 k := i64_small (by omega) (by omega)
      have HFd := Lib.hid hfd
      have HCl := Lib.hid hcl
      have HKeyO := Lib.hid (key_read hcl hfd)
      have HOl : Hid (S.O.length < maxLen) := Lib.hid (by have := hpre.good.o; unfold maxLen; omega)
      have HResF : Hid (R = ({ S with O := S.O ++ [⟨cl, k, m⟩] }, Pz.fdR k)) := Lib.hid (by rw [hres, if_neg (by rw [hD]; decide), if_neg hfr, hk])
      rw [← hk] at HFr
      clear h1 h2 h3 hR hP hpre hf hfr hcl hm hD hres hk hkle hfd
      go_enter Tryz.func23, Tryz.ntmps23
      go_wp2_with fail
      refine (HF.out _ _ FX.out.inv).mono ?_
      rintro e w1 ⟨rfl, hb1⟩
      have FX1 := Lib.hid (FX.out.read ((RA.held r bo β μ) _) hb1)
      clear hb1
      obtain ⟨b0, b1, b2, b3, b4, b5, b6, b7⟩ := FX1.out.c8
      go_wp2_with fail
      refine (HP.out _ _ FX1.out.inv).mono ?_
      rintro e w2 ⟨rfl, hb2⟩
      have FX2 := Lib.hid (FX1.out.read ((RA.held r bo β μ) _) hb2)
      clear hb2
      clear b0 b1 b2 b3 b4 b5 b6 b7
      obtain ⟨b0, b1, b2, b3, b4, b5, b6, b7⟩ := FX2.out.c8
      go_wp2_with fail
      refine (HFr.out _ _ FX2.out.inv).mono ?_
      rintro e w3 ⟨rfl, hb3⟩
      have FX3 := Lib.hid (FX2.out.read ((RA.held r bo β μ) _) hb3)
      clear hb3
      clear b0 b1 b2 b3 b4 b5 b6 b7
      obtain ⟨b0, b1, b2, b3, b4, b5, b6, b7⟩ := FX3.out.c8
      go_wp2_with fail
      refine (HDir.out _ _ FX3.out.inv).mono ?_
      rintro e w4 ⟨rfl, hb4⟩
      have FX4 := Lib.hid (FX3.out.read ((RA.held r bo β μ) _) hb4)
      clear hb4
      clear b0 b1 b2 b3 b4 b5 b6 b7
      obtain ⟨rc0, rc1⟩ := RealAt.rc FX4.out.inv
      obtain ⟨DO, hownO, hmO⟩ := RealAt.opn FX4.out.inv
      have HOwnO := Lib.hid hownO
      have HMO := Lib.hid hmO
      clear hownO hmO
      go_wp2_with (at_mapUpdate; refine wpList_mapUpdate_in _ rfl _ _ _ 63 rfl 67 62 Tryz.keyLaw Tryz.underlying63 _ _ _ DO rfl HOwnO.out HOl.out _ _ _ rfl rfl HKeyO.out (.lit (.int .i64 (β m))) [] rfl ?_; intro w6 hown6 hturn6; have HX6 := Lib.hid (RealAt.addOpen FX4.out.inv HOwnO.out HMO.out hown6 hturn6 HCl.out HFd.out HNo.out); clear hown6 hturn6; have FX6 := Lib.hid ((FX4.out.put (RA.held r bo β μ _) HX6.out.1 HX6.out.2).imp RA.toF); obtain ⟨c0, c1, c2, c3, c4, c5, c6, hf7⟩ := cells7 FX6.out.res; have f0 := hf7 0; have f1 := hf7 1; have f2 := hf7 2; have f3 := hf7 3; have f4 := hf7 4; have f5 := hf7 5; have f6 := hf7 6; clear hf7)
      try simp only [Exit.inBlock, Exit.then]
      refine bodyPost_ret (results_cell_row rfl _ _ (w.heap.size + 1) _ _ _ _ rfl (row7 FX6.out.res _ _ _ _ _ _ _) Tryz.underlying36 rfl Tryz.infoR) rfl ?_
      rw [HResF.out]
      exact FX6.out.done (RealF.held r) (Pz.fdR k) none 0 (Or.inl rfl) _ _ _ _ _ _ _

set_option maxHeartbeats 4000000 in
set_option maxRecDepth 8192 in
theorem fopen_ok1 [Inhabited XBox] (r : Nat) (S : Pz.Fil) (cl kind fd off n : Int) (p p2 data : ByteArray) (w : World) (F : Nat → Prop) (hcl : I64 cl) (hpre : OpenPre S p) (m : Nat) (hf : Pz.find S p.data.toList = .ok m) (R : Pz.Fil × Pz.Rep) (hres : R = if Pz.isDir S.N m = true then (S, Pz.er 13) else if Pz.free S.O cl = 8 then (S, Pz.er 17) else ({ S with O := S.O ++ [⟨cl, Pz.free S.O cl, m⟩] }, Pz.fdR (Pz.free S.O cl))) (hR : RealF r S w F) :
    Calls Tryz.prog 23 #[.pointer (some ⟨r, 0, none⟩), .int .i64 cl, callV kind p p2 1 fd off n data] w (Does (RealF r) R w F) := by
  have HFail := Lib.hid ffails_any
  obtain ⟨bo, β, μ, hR⟩ := hR
  have FX := Lib.hid (Fx.start (RA.held r bo β μ S) hR #[.int .i64 kind, .string p, .string p2, .int .i64 1, .int .i64 fd, .int .i64 off, .int .i64 n, .string data])
  have h1 := fun W G (hR : RA r bo β μ S W G) => ffind_any G r bo β μ S p W hpre.hp hpre.good.ok hR
  have h2 := fun W G (hR : RA r bo β μ S W G) => fplace_any G r bo β μ S p W hpre.hp hpre.good.ok hR
  have h3 := fun W G (hR : RA r bo β μ S W G) => ffree_any G r bo β μ S cl W hcl hR
  rw [hf] at h1
  simp only [toW] at h1
  have HF := Lib.hid h1
  unfold callV
  obtain ⟨q, x, u, hP⟩ := toL_any β (Pz.place S p.data.toList)
  rw [hP] at h2
  have HP := Lib.hid h2
  have hm := Pz.find_lt hpre.good.ok hf
  have HDir := Lib.hid fun W G (h : RA r bo β μ S W G) => fdir_any W G r bo m β μ S hm h
  by_cases hfr : Pz.free S.O cl = 8
  · rw [freeV, if_pos hfr] at h3
    have HFr := Lib.hid h3
    cases hD : Pz.isDir S.N m with
    | true =>
      rw [hD] at HDir
      have HResF : Hid (R = (S, Pz.er 13)) := Lib.hid (by rw [hres, if_pos hD])
      clear h1 h2 h3 hR hP hpre hf hfr hcl hm hD hres
      go_enter Tryz.func23, Tryz.ntmps23
      go_wp2_with fail
      refine (HF.out _ _ FX.out.inv).mono ?_
      rintro e w1 ⟨rfl, hb1⟩
      have FX1 := Lib.hid (FX.out.read ((RA.held r bo β μ) _) hb1)
      clear hb1
      obtain ⟨b0, b1, b2, b3, b4, b5, b6, b7⟩ := FX1.out.c8
      go_wp2_with fail
      refine (HP.out _ _ FX1.out.inv).mono ?_
      rintro e w2 ⟨rfl, hb2⟩
      have FX2 := Lib.hid (FX1.out.read ((RA.held r bo β μ) _) hb2)
      clear hb2
      clear b0 b1 b2 b3 b4 b5 b6 b7
      obtain ⟨b0, b1, b2, b3, b4, b5, b6, b7⟩ := FX2.out.c8
      go_wp2_with fail
      refine (HFr.out _ _ FX2.out.inv).mono ?_
      rintro e w3 ⟨rfl, hb3⟩
      have FX3 := Lib.hid (FX2.out.read ((RA.held r bo β μ) _) hb3)
      clear hb3
      clear b0 b1 b2 b3 b4 b5 b6 b7
      obtain ⟨b0, b1, b2, b3, b4, b5, b6, b7⟩ := FX3.out.c8
      go_wp2_with fail
      refine (HDir.out _ _ FX3.out.inv).mono ?_
      rintro e w4 ⟨rfl, hb4⟩
      have FX4 := Lib.hid (FX3.out.read ((RA.held r bo β μ) _) hb4)
      clear hb4
      clear b0 b1 b2 b3 b4 b5 b6 b7
      go_wp2_with fail
      refine (HFail.out 13 _).mono ?_
      rintro e wf ⟨rfl, hbf⟩
      have FXF := Lib.hid ((FX4.out.imp RA.toF).read ((RealF.held r) _) hbf)
      unfold replyV
      have fxe := FXF.out
      obtain ⟨c0, c1, c2, c3, c4, c5, c6, hf7⟩ := cells7 fxe.res
      have f0 := hf7 0
      have f1 := hf7 1
      have f2 := hf7 2
      have f3 := hf7 3
      have f4 := hf7 4
      have f5 := hf7 5
      have f6 := hf7 6
      have HG := Lib.hid fxe
      clear hf7 fxe
      go_wp2
      try simp only [Exit.inBlock, Exit.then]
      refine bodyPost_ret (results_cell_row rfl _ _ (w.heap.size + 1) _ _ _ _ rfl (row7 HG.out.res _ _ _ _ _ _ _) Tryz.underlying36 rfl Tryz.infoR) rfl ?_
      rw [HResF.out]
      exact HG.out.done (RealF.held r) (Pz.er 13) none 0 (Or.inl rfl) _ _ _ _ _ _ _
    | false =>
      rw [hD] at HDir
      have HResF : Hid (R = (S, Pz.er 17)) := Lib.hid (by rw [hres, if_neg (by rw [hD]; decide), if_pos hfr])
      clear h1 h2 h3 hR hP hpre hf hfr hcl hm hD hres
      go_enter Tryz.func23, Tryz.ntmps23
      go_wp2_with fail
      refine (HF.out _ _ FX.out.inv).mono ?_
      rintro e w1 ⟨rfl, hb1⟩
      have FX1 := Lib.hid (FX.out.read ((RA.held r bo β μ) _) hb1)
      clear hb1
      obtain ⟨b0, b1, b2, b3, b4, b5, b6, b7⟩ := FX1.out.c8
      go_wp2_with fail
      refine (HP.out _ _ FX1.out.inv).mono ?_
      rintro e w2 ⟨rfl, hb2⟩
      have FX2 := Lib.hid (FX1.out.read ((RA.held r bo β μ) _) hb2)
      clear hb2
      clear b0 b1 b2 b3 b4 b5 b6 b7
      obtain ⟨b0, b1, b2, b3, b4, b5, b6, b7⟩ := FX2.out.c8
      go_wp2_with fail
      refine (HFr.out _ _ FX2.out.inv).mono ?_
      rintro e w3 ⟨rfl, hb3⟩
      have FX3 := Lib.hid (FX2.out.read ((RA.held r bo β μ) _) hb3)
      clear hb3
      clear b0 b1 b2 b3 b4 b5 b6 b7
      obtain ⟨b0, b1, b2, b3, b4, b5, b6, b7⟩ := FX3.out.c8
      go_wp2_with fail
      refine (HDir.out _ _ FX3.out.inv).mono ?_
      rintro e w4 ⟨rfl, hb4⟩
      have FX4 := Lib.hid (FX3.out.read ((RA.held r bo β μ) _) hb4)
      clear hb4
      clear b0 b1 b2 b3 b4 b5 b6 b7
      go_wp2_with fail
      refine (HFail.out 17 _).mono ?_
      rintro e wf ⟨rfl, hbf⟩
      have FXF := Lib.hid ((FX4.out.imp RA.toF).read ((RealF.held r) _) hbf)
      unfold replyV
      have fxe := FXF.out
      obtain ⟨c0, c1, c2, c3, c4, c5, c6, hf7⟩ := cells7 fxe.res
      have f0 := hf7 0
      have f1 := hf7 1
      have f2 := hf7 2
      have f3 := hf7 3
      have f4 := hf7 4
      have f5 := hf7 5
      have f6 := hf7 6
      have HG := Lib.hid fxe
      clear hf7 fxe
      go_wp2
      try simp only [Exit.inBlock, Exit.then]
      refine bodyPost_ret (results_cell_row rfl _ _ (w.heap.size + 1) _ _ _ _ rfl (row7 HG.out.res _ _ _ _ _ _ _) Tryz.underlying36 rfl Tryz.infoR) rfl ?_
      rw [HResF.out]
      exact HG.out.done (RealF.held r) (Pz.er 17) none 0 (Or.inl rfl) _ _ _ _ _ _ _
  · rw [freeV, if_neg hfr] at h3
    have HFr := Lib.hid h3
    cases hD : Pz.isDir S.N m with
    | true =>
      rw [hD] at HDir
      have HResF : Hid (R = (S, Pz.er 13)) := Lib.hid (by rw [hres, if_pos hD])
      clear h1 h2 h3 hR hP hpre hf hfr hcl hm hD hres
      go_enter Tryz.func23, Tryz.ntmps23
      go_wp2_with fail
      refine (HF.out _ _ FX.out.inv).mono ?_
      rintro e w1 ⟨rfl, hb1⟩
      have FX1 := Lib.hid (FX.out.read ((RA.held r bo β μ) _) hb1)
      clear hb1
      obtain ⟨b0, b1, b2, b3, b4, b5, b6, b7⟩ := FX1.out.c8
      go_wp2_with fail
      refine (HP.out _ _ FX1.out.inv).mono ?_
      rintro e w2 ⟨rfl, hb2⟩
      have FX2 := Lib.hid (FX1.out.read ((RA.held r bo β μ) _) hb2)
      clear hb2
      clear b0 b1 b2 b3 b4 b5 b6 b7
      obtain ⟨b0, b1, b2, b3, b4, b5, b6, b7⟩ := FX2.out.c8
      go_wp2_with fail
      refine (HFr.out _ _ FX2.out.inv).mono ?_
      rintro e w3 ⟨rfl, hb3⟩
      have FX3 := Lib.hid (FX2.out.read ((RA.held r bo β μ) _) hb3)
      clear hb3
      clear b0 b1 b2 b3 b4 b5 b6 b7
      obtain ⟨b0, b1, b2, b3, b4, b5, b6, b7⟩ := FX3.out.c8
      go_wp2_with fail
      refine (HDir.out _ _ FX3.out.inv).mono ?_
      rintro e w4 ⟨rfl, hb4⟩
      have FX4 := Lib.hid (FX3.out.read ((RA.held r bo β μ) _) hb4)
      clear hb4
      clear b0 b1 b2 b3 b4 b5 b6 b7
      go_wp2_with fail
      refine (HFail.out 13 _).mono ?_
      rintro e wf ⟨rfl, hbf⟩
      have FXF := Lib.hid ((FX4.out.imp RA.toF).read ((RealF.held r) _) hbf)
      unfold replyV
      have fxe := FXF.out
      obtain ⟨c0, c1, c2, c3, c4, c5, c6, hf7⟩ := cells7 fxe.res
      have f0 := hf7 0
      have f1 := hf7 1
      have f2 := hf7 2
      have f3 := hf7 3
      have f4 := hf7 4
      have f5 := hf7 5
      have f6 := hf7 6
      have HG := Lib.hid fxe
      clear hf7 fxe
      go_wp2
      try simp only [Exit.inBlock, Exit.then]
      refine bodyPost_ret (results_cell_row rfl _ _ (w.heap.size + 1) _ _ _ _ rfl (row7 HG.out.res _ _ _ _ _ _ _) Tryz.underlying36 rfl Tryz.infoR) rfl ?_
      rw [HResF.out]
      exact HG.out.done (RealF.held r) (Pz.er 13) none 0 (Or.inl rfl) _ _ _ _ _ _ _
    | false =>
      rw [hD] at HDir
      obtain ⟨k, hk⟩ : ∃ k, k = Pz.free S.O cl := ⟨_, rfl⟩
      have hkle := Pz.free_le (O := S.O) (cl := cl)
      have HNo := Lib.hid (Pz.free_no hk.symm (by omega))
      have hfd : I64 k := i64_small (by omega) (by omega)
      have HFd := Lib.hid hfd
      have HCl := Lib.hid hcl
      have HKeyO := Lib.hid (key_read hcl hfd)
      have HOl : Hid (S.O.length < maxLen) := Lib.hid (by have := hpre.good.o; unfold maxLen; omega)
      have HResF : Hid (R = ({ S with O := S.O ++ [⟨cl, k, m⟩] }, Pz.fdR k)) := Lib.hid (by rw [hres, if_neg (by rw [hD]; decide), if_neg hfr, hk])
      rw [← hk] at HFr
      clear h1 h2 h3 hR hP hpre hf hfr hcl hm hD hres hk hkle hfd
      go_enter Tryz.func23, Tryz.ntmps23
      go_wp2_with fail
      refine (HF.out _ _ FX.out.inv).mono ?_
      rintro e w1 ⟨rfl, hb1⟩
      have FX1 := Lib.hid (FX.out.read ((RA.held r bo β μ) _) hb1)
      clear hb1
      obtain ⟨b0, b1, b2, b3, b4, b5, b6, b7⟩ := FX1.out.c8
      go_wp2_with fail
      refine (HP.out _ _ FX1.out.inv).mono ?_
      rintro e w2 ⟨rfl, hb2⟩
      have FX2 := Lib.hid (FX1.out.read ((RA.held r bo β μ) _) hb2)
      clear hb2
      clear b0 b1 b2 b3 b4 b5 b6 b7
      obtain ⟨b0, b1, b2, b3, b4, b5, b6, b7⟩ := FX2.out.c8
      go_wp2_with fail
      refine (HFr.out _ _ FX2.out.inv).mono ?_
      rintro e w3 ⟨rfl, hb3⟩
      have FX3 := Lib.hid (FX2.out.read ((RA.held r bo β μ) _) hb3)
      clear hb3
      clear b0 b1 b2 b3 b4 b5 b6 b7
      obtain ⟨b0, b1, b2, b3, b4, b5, b6, b7⟩ := FX3.out.c8
      go_wp2_with fail
      refine (HDir.out _ _ FX3.out.inv).mono ?_
      rintro e w4 ⟨rfl, hb4⟩
      have FX4 := Lib.hid (FX3.out.read ((RA.held r bo β μ) _) hb4)
      clear hb4
      clear b0 b1 b2 b3 b4 b5 b6 b7
      obtain ⟨rc0, rc1⟩ := RealAt.rc FX4.out.inv
      obtain ⟨DO, hownO, hmO⟩ := RealAt.opn FX4.out.inv
      have HOwnO := Lib.hid hownO
      have HMO := Lib.hid hmO
      clear hownO hmO
      go_wp2_with (at_mapUpdate; refine wpList_mapUpdate_in _ rfl _ _ _ 63 rfl 67 62 Tryz.keyLaw Tryz.underlying63 _ _ _ DO rfl HOwnO.out HOl.out _ _ _ rfl rfl HKeyO.out (.lit (.int .i64 (β m))) [] rfl ?_; intro w6 hown6 hturn6; have HX6 := Lib.hid (RealAt.addOpen FX4.out.inv HOwnO.out HMO.out hown6 hturn6 HCl.out HFd.out HNo.out); clear hown6 hturn6; have FX6 := Lib.hid ((FX4.out.put (RA.held r bo β μ _) HX6.out.1 HX6.out.2).imp RA.toF); obtain ⟨c0, c1, c2, c3, c4, c5, c6, hf7⟩ := cells7 FX6.out.res; have f0 := hf7 0; have f1 := hf7 1; have f2 := hf7 2; have f3 := hf7 3; have f4 := hf7 4; have f5 := hf7 5; have f6 := hf7 6; clear hf7)
      try simp only [Exit.inBlock, Exit.then]
      refine bodyPost_ret (results_cell_row rfl _ _ (w.heap.size + 1) _ _ _ _ rfl (row7 FX6.out.res _ _ _ _ _ _ _) Tryz.underlying36 rfl Tryz.infoR) rfl ?_
      rw [HResF.out]
      exact FX6.out.done (RealF.held r) (Pz.fdR k) none 0 (Or.inl rfl) _ _ _ _ _ _ _

set_option maxHeartbeats 4000000 in
set_option maxRecDepth 8192 in
theorem fopen_err0 [Inhabited XBox] (r : Nat) (S : Pz.Fil) (cl kind fd off n : Int) (p p2 data : ByteArray) (w : World) (F : Nat → Prop) (hcl : I64 cl) (hpre : OpenPre S p) (v : Int) (hf : Pz.find S p.data.toList = .error v) (hR : RealF r S w F) :
    Calls Tryz.prog 23 #[.pointer (some ⟨r, 0, none⟩), .int .i64 cl, callV kind p p2 0 fd off n data] w (Does (RealF r) (S, Pz.er v) w F) := by
  have HFail := Lib.hid ffails_any
  obtain ⟨bo, β, μ, hR⟩ := hR
  have FX := Lib.hid (Fx.start (RA.held r bo β μ S) hR #[.int .i64 kind, .string p, .string p2, .int .i64 0, .int .i64 fd, .int .i64 off, .int .i64 n, .string data])
  have h1 := fun W G (hR : RA r bo β μ S W G) => ffind_any G r bo β μ S p W hpre.hp hpre.good.ok hR
  have h2 := fun W G (hR : RA r bo β μ S W G) => fplace_any G r bo β μ S p W hpre.hp hpre.good.ok hR
  have h3 := fun W G (hR : RA r bo β μ S W G) => ffree_any G r bo β μ S cl W hcl hR
  rw [hf] at h1
  simp only [toW] at h1
  have HF := Lib.hid h1
  unfold callV
  obtain ⟨q, x, u, hP⟩ := toL_any β (Pz.place S p.data.toList)
  rw [hP] at h2
  have HP := Lib.hid h2
  obtain ⟨hv1, hv2, hv3⟩ := ne_of_err (Pz.find_err hf)
  by_cases hfr : Pz.free S.O cl = 8
  · rw [freeV, if_pos hfr] at h3
    have HFr := Lib.hid h3
    clear h1 h2 h3 hR hP hpre hf hfr hcl
    by_cases hv : v = 10
    · have hv4 : (v == 10) = true := by rw [hv]; rfl
      clear hv
      by_cases hu : u = 0
      · have hu1 : (u == 0) = true := by rw [hu]; rfl
        clear hu
        go_enter Tryz.func23, Tryz.ntmps23
        go_wp2_with fail
        refine (HF.out _ _ FX.out.inv).mono ?_
        rintro e w1 ⟨rfl, hb1⟩
        have FX1 := Lib.hid (FX.out.read ((RA.held r bo β μ) _) hb1)
        clear hb1
        obtain ⟨b0, b1, b2, b3, b4, b5, b6, b7⟩ := FX1.out.c8
        go_wp2_with fail
        refine (HP.out _ _ FX1.out.inv).mono ?_
        rintro e w2 ⟨rfl, hb2⟩
        have FX2 := Lib.hid (FX1.out.read ((RA.held r bo β μ) _) hb2)
        clear hb2
        clear b0 b1 b2 b3 b4 b5 b6 b7
        obtain ⟨b0, b1, b2, b3, b4, b5, b6, b7⟩ := FX2.out.c8
        go_wp2_with fail
        refine (HFr.out _ _ FX2.out.inv).mono ?_
        rintro e w3 ⟨rfl, hb3⟩
        have FX3 := Lib.hid (FX2.out.read ((RA.held r bo β μ) _) hb3)
        clear hb3
        clear b0 b1 b2 b3 b4 b5 b6 b7
        obtain ⟨b0, b1, b2, b3, b4, b5, b6, b7⟩ := FX3.out.c8
        go_wp2_with fail
        refine (HFail.out v _).mono ?_
        rintro e wf ⟨rfl, hbf⟩
        have FXF := Lib.hid ((FX3.out.imp RA.toF).read ((RealF.held r) _) hbf)
        unfold replyV
        have fxe := FXF.out
        obtain ⟨c0, c1, c2, c3, c4, c5, c6, hf7⟩ := cells7 fxe.res
        have f0 := hf7 0
        have f1 := hf7 1
        have f2 := hf7 2
        have f3 := hf7 3
        have f4 := hf7 4
        have f5 := hf7 5
        have f6 := hf7 6
        have HG := Lib.hid fxe
        clear hf7 fxe
        go_wp2
        try simp only [Exit.inBlock, Exit.then]
        refine bodyPost_ret (results_cell_row rfl _ _ (w.heap.size + 1) _ _ _ _ rfl (row7 HG.out.res _ _ _ _ _ _ _) Tryz.underlying36 rfl Tryz.infoR) rfl ?_
        exact HG.out.done (RealF.held r) (Pz.er v) none 0 (Or.inl rfl) _ _ _ _ _ _ _
      · have hu1 : (u == 0) = false := by rw [beq_eq_false_iff_ne]; exact hu
        clear hu
        go_enter Tryz.func23, Tryz.ntmps23
        go_wp2_with fail
        refine (HF.out _ _ FX.out.inv).mono ?_
        rintro e w1 ⟨rfl, hb1⟩
        have FX1 := Lib.hid (FX.out.read ((RA.held r bo β μ) _) hb1)
        clear hb1
        obtain ⟨b0, b1, b2, b3, b4, b5, b6, b7⟩ := FX1.out.c8
        go_wp2_with fail
        refine (HP.out _ _ FX1.out.inv).mono ?_
        rintro e w2 ⟨rfl, hb2⟩
        have FX2 := Lib.hid (FX1.out.read ((RA.held r bo β μ) _) hb2)
        clear hb2
        clear b0 b1 b2 b3 b4 b5 b6 b7
        obtain ⟨b0, b1, b2, b3, b4, b5, b6, b7⟩ := FX2.out.c8
        go_wp2_with fail
        refine (HFr.out _ _ FX2.out.inv).mono ?_
        rintro e w3 ⟨rfl, hb3⟩
        have FX3 := Lib.hid (FX2.out.read ((RA.held r bo β μ) _) hb3)
        clear hb3
        clear b0 b1 b2 b3 b4 b5 b6 b7
        obtain ⟨b0, b1, b2, b3, b4, b5, b6, b7⟩ := FX3.out.c8
        go_wp2_with fail
        refine (HFail.out v _).mono ?_
        rintro e wf ⟨rfl, hbf⟩
        have FXF := Lib.hid ((FX3.out.imp RA.toF).read ((RealF.held r) _) hbf)
        unfold replyV
        have fxe := FXF.out
        obtain ⟨c0, c1, c2, c3, c4, c5, c6, hf7⟩ := cells7 fxe.res
        have f0 := hf7 0
        have f1 := hf7 1
        have f2 := hf7 2
        have f3 := hf7 3
        have f4 := hf7 4
        have f5 := hf7 5
        have f6 := hf7 6
        have HG := Lib.hid fxe
        clear hf7 fxe
        go_wp2
        try simp only [Exit.inBlock, Exit.then]
        refine bodyPost_ret (results_cell_row rfl _ _ (w.heap.size + 1) _ _ _ _ rfl (row7 HG.out.res _ _ _ _ _ _ _) Tryz.underlying36 rfl Tryz.infoR) rfl ?_
        exact HG.out.done (RealF.held r) (Pz.er v) none 0 (Or.inl rfl) _ _ _ _ _ _ _
    · have hv4 : (v == 10) = false := by rw [beq_eq_false_iff_ne]; exact hv
      clear hv
      go_enter Tryz.func23, Tryz.ntmps23
      go_wp2_with fail
      refine (HF.out _ _ FX.out.inv).mono ?_
      rintro e w1 ⟨rfl, hb1⟩
      have FX1 := Lib.hid (FX.out.read ((RA.held r bo β μ) _) hb1)
      clear hb1
      obtain ⟨b0, b1, b2, b3, b4, b5, b6, b7⟩ := FX1.out.c8
      go_wp2_with fail
      refine (HP.out _ _ FX1.out.inv).mono ?_
      rintro e w2 ⟨rfl, hb2⟩
      have FX2 := Lib.hid (FX1.out.read ((RA.held r bo β μ) _) hb2)
      clear hb2
      clear b0 b1 b2 b3 b4 b5 b6 b7
      obtain ⟨b0, b1, b2, b3, b4, b5, b6, b7⟩ := FX2.out.c8
      go_wp2_with fail
      refine (HFr.out _ _ FX2.out.inv).mono ?_
      rintro e w3 ⟨rfl, hb3⟩
      have FX3 := Lib.hid (FX2.out.read ((RA.held r bo β μ) _) hb3)
      clear hb3
      clear b0 b1 b2 b3 b4 b5 b6 b7
      obtain ⟨b0, b1, b2, b3, b4, b5, b6, b7⟩ := FX3.out.c8
      go_wp2_with fail
      refine (HFail.out v _).mono ?_
      rintro e wf ⟨rfl, hbf⟩
      have FXF := Lib.hid ((FX3.out.imp RA.toF).read ((RealF.held r) _) hbf)
      unfold replyV
      have fxe := FXF.out
      obtain ⟨c0, c1, c2, c3, c4, c5, c6, hf7⟩ := cells7 fxe.res
      have f0 := hf7 0
      have f1 := hf7 1
      have f2 := hf7 2
      have f3 := hf7 3
      have f4 := hf7 4
      have f5 := hf7 5
      have f6 := hf7 6
      have HG := Lib.hid fxe
      clear hf7 fxe
      go_wp2
      try simp only [Exit.inBlock, Exit.then]
      refine bodyPost_ret (results_cell_row rfl _ _ (w.heap.size + 1) _ _ _ _ rfl (row7 HG.out.res _ _ _ _ _ _ _) Tryz.underlying36 rfl Tryz.infoR) rfl ?_
      exact HG.out.done (RealF.held r) (Pz.er v) none 0 (Or.inl rfl) _ _ _ _ _ _ _
  · rw [freeV, if_neg hfr] at h3
    have HFr := Lib.hid h3
    clear h1 h2 h3 hR hP hpre hf hfr hcl
    by_cases hv : v = 10
    · have hv4 : (v == 10) = true := by rw [hv]; rfl
      clear hv
      by_cases hu : u = 0
      · have hu1 : (u == 0) = true := by rw [hu]; rfl
        clear hu
        go_enter Tryz.func23, Tryz.ntmps23
        go_wp2_with fail
        refine (HF.out _ _ FX.out.inv).mono ?_
        rintro e w1 ⟨rfl, hb1⟩
        have FX1 := Lib.hid (FX.out.read ((RA.held r bo β μ) _) hb1)
        clear hb1
        obtain ⟨b0, b1, b2, b3, b4, b5, b6, b7⟩ := FX1.out.c8
        go_wp2_with fail
        refine (HP.out _ _ FX1.out.inv).mono ?_
        rintro e w2 ⟨rfl, hb2⟩
        have FX2 := Lib.hid (FX1.out.read ((RA.held r bo β μ) _) hb2)
        clear hb2
        clear b0 b1 b2 b3 b4 b5 b6 b7
        obtain ⟨b0, b1, b2, b3, b4, b5, b6, b7⟩ := FX2.out.c8
        go_wp2_with fail
        refine (HFr.out _ _ FX2.out.inv).mono ?_
        rintro e w3 ⟨rfl, hb3⟩
        have FX3 := Lib.hid (FX2.out.read ((RA.held r bo β μ) _) hb3)
        clear hb3
        clear b0 b1 b2 b3 b4 b5 b6 b7
        obtain ⟨b0, b1, b2, b3, b4, b5, b6, b7⟩ := FX3.out.c8
        go_wp2_with fail
        refine (HFail.out v _).mono ?_
        rintro e wf ⟨rfl, hbf⟩
        have FXF := Lib.hid ((FX3.out.imp RA.toF).read ((RealF.held r) _) hbf)
        unfold replyV
        have fxe := FXF.out
        obtain ⟨c0, c1, c2, c3, c4, c5, c6, hf7⟩ := cells7 fxe.res
        have f0 := hf7 0
        have f1 := hf7 1
        have f2 := hf7 2
        have f3 := hf7 3
        have f4 := hf7 4
        have f5 := hf7 5
        have f6 := hf7 6
        have HG := Lib.hid fxe
        clear hf7 fxe
        go_wp2
        try simp only [Exit.inBlock, Exit.then]
        refine bodyPost_ret (results_cell_row rfl _ _ (w.heap.size + 1) _ _ _ _ rfl (row7 HG.out.res _ _ _ _ _ _ _) Tryz.underlying36 rfl Tryz.infoR) rfl ?_
        exact HG.out.done (RealF.held r) (Pz.er v) none 0 (Or.inl rfl) _ _ _ _ _ _ _
      · have hu1 : (u == 0) = false := by rw [beq_eq_false_iff_ne]; exact hu
        clear hu
        go_enter Tryz.func23, Tryz.ntmps23
        go_wp2_with fail
        refine (HF.out _ _ FX.out.inv).mono ?_
        rintro e w1 ⟨rfl, hb1⟩
        have FX1 := Lib.hid (FX.out.read ((RA.held r bo β μ) _) hb1)
        clear hb1
        obtain ⟨b0, b1, b2, b3, b4, b5, b6, b7⟩ := FX1.out.c8
        go_wp2_with fail
        refine (HP.out _ _ FX1.out.inv).mono ?_
        rintro e w2 ⟨rfl, hb2⟩
        have FX2 := Lib.hid (FX1.out.read ((RA.held r bo β μ) _) hb2)
        clear hb2
        clear b0 b1 b2 b3 b4 b5 b6 b7
        obtain ⟨b0, b1, b2, b3, b4, b5, b6, b7⟩ := FX2.out.c8
        go_wp2_with fail
        refine (HFr.out _ _ FX2.out.inv).mono ?_
        rintro e w3 ⟨rfl, hb3⟩
        have FX3 := Lib.hid (FX2.out.read ((RA.held r bo β μ) _) hb3)
        clear hb3
        clear b0 b1 b2 b3 b4 b5 b6 b7
        obtain ⟨b0, b1, b2, b3, b4, b5, b6, b7⟩ := FX3.out.c8
        go_wp2_with fail
        refine (HFail.out v _).mono ?_
        rintro e wf ⟨rfl, hbf⟩
        have FXF := Lib.hid ((FX3.out.imp RA.toF).read ((RealF.held r) _) hbf)
        unfold replyV
        have fxe := FXF.out
        obtain ⟨c0, c1, c2, c3, c4, c5, c6, hf7⟩ := cells7 fxe.res
        have f0 := hf7 0
        have f1 := hf7 1
        have f2 := hf7 2
        have f3 := hf7 3
        have f4 := hf7 4
        have f5 := hf7 5
        have f6 := hf7 6
        have HG := Lib.hid fxe
        clear hf7 fxe
        go_wp2
        try simp only [Exit.inBlock, Exit.then]
        refine bodyPost_ret (results_cell_row rfl _ _ (w.heap.size + 1) _ _ _ _ rfl (row7 HG.out.res _ _ _ _ _ _ _) Tryz.underlying36 rfl Tryz.infoR) rfl ?_
        exact HG.out.done (RealF.held r) (Pz.er v) none 0 (Or.inl rfl) _ _ _ _ _ _ _
    · have hv4 : (v == 10) = false := by rw [beq_eq_false_iff_ne]; exact hv
      clear hv
      go_enter Tryz.func23, Tryz.ntmps23
      go_wp2_with fail
      refine (HF.out _ _ FX.out.inv).mono ?_
      rintro e w1 ⟨rfl, hb1⟩
      have FX1 := Lib.hid (FX.out.read ((RA.held r bo β μ) _) hb1)
      clear hb1
      obtain ⟨b0, b1, b2, b3, b4, b5, b6, b7⟩ := FX1.out.c8
      go_wp2_with fail
      refine (HP.out _ _ FX1.out.inv).mono ?_
      rintro e w2 ⟨rfl, hb2⟩
      have FX2 := Lib.hid (FX1.out.read ((RA.held r bo β μ) _) hb2)
      clear hb2
      clear b0 b1 b2 b3 b4 b5 b6 b7
      obtain ⟨b0, b1, b2, b3, b4, b5, b6, b7⟩ := FX2.out.c8
      go_wp2_with fail
      refine (HFr.out _ _ FX2.out.inv).mono ?_
      rintro e w3 ⟨rfl, hb3⟩
      have FX3 := Lib.hid (FX2.out.read ((RA.held r bo β μ) _) hb3)
      clear hb3
      clear b0 b1 b2 b3 b4 b5 b6 b7
      obtain ⟨b0, b1, b2, b3, b4, b5, b6, b7⟩ := FX3.out.c8
      go_wp2_with fail
      refine (HFail.out v _).mono ?_
      rintro e wf ⟨rfl, hbf⟩
      have FXF := Lib.hid ((FX3.out.imp RA.toF).read ((RealF.held r) _) hbf)
      unfold replyV
      have fxe := FXF.out
      obtain ⟨c0, c1, c2, c3, c4, c5, c6, hf7⟩ := cells7 fxe.res
      have f0 := hf7 0
      have f1 := hf7 1
      have f2 := hf7 2
      have f3 := hf7 3
      have f4 := hf7 4
      have f5 := hf7 5
      have f6 := hf7 6
      have HG := Lib.hid fxe
      clear hf7 fxe
      go_wp2
      try simp only [Exit.inBlock, Exit.then]
      refine bodyPost_ret (results_cell_row rfl _ _ (w.heap.size + 1) _ _ _ _ rfl (row7 HG.out.res _ _ _ _ _ _ _) Tryz.underlying36 rfl Tryz.infoR) rfl ?_
      exact HG.out.done (RealF.held r) (Pz.er v) none 0 (Or.inl rfl) _ _ _ _ _ _ _

set_option maxHeartbeats 4000000 in
set_option maxRecDepth 8192 in
theorem fopen_err1 [Inhabited XBox] (r : Nat) (S : Pz.Fil) (cl kind fd off n : Int) (p p2 data : ByteArray) (w : World) (F : Nat → Prop) (hcl : I64 cl) (hpre : OpenPre S p) (v : Int) (hf : Pz.find S p.data.toList = .error v) (hbad : v ≠ 10 ∨ ∃ g, Pz.place S p.data.toList = .error g) (hR : RealF r S w F) :
    Calls Tryz.prog 23 #[.pointer (some ⟨r, 0, none⟩), .int .i64 cl, callV kind p p2 1 fd off n data] w (Does (RealF r) (S, Pz.er v) w F) := by
  have HFail := Lib.hid ffails_any
  obtain ⟨bo, β, μ, hR⟩ := hR
  have FX := Lib.hid (Fx.start (RA.held r bo β μ S) hR #[.int .i64 kind, .string p, .string p2, .int .i64 1, .int .i64 fd, .int .i64 off, .int .i64 n, .string data])
  have h1 := fun W G (hR : RA r bo β μ S W G) => ffind_any G r bo β μ S p W hpre.hp hpre.good.ok hR
  have h2 := fun W G (hR : RA r bo β μ S W G) => fplace_any G r bo β μ S p W hpre.hp hpre.good.ok hR
  have h3 := fun W G (hR : RA r bo β μ S W G) => ffree_any G r bo β μ S cl W hcl hR
  rw [hf] at h1
  simp only [toW] at h1
  have HF := Lib.hid h1
  unfold callV
  obtain ⟨q, x, u, hP, hu⟩ : ∃ (q : Option Addr) (x : List UInt8) (u : Int), toL β (Pz.place S p.data.toList) = .tuple #[.pointer q, .string ⟨x.toArray⟩, .int .i64 u] ∧ (v ≠ 10 ∨ (u == 0) = false) := by
    rcases hbad with h | ⟨g, h⟩
    · obtain ⟨q, x, u, hP⟩ := toL_any β (Pz.place S p.data.toList)
      exact ⟨q, x, u, hP, Or.inl h⟩
    · rw [h]; exact ⟨none, [], g, rfl, Or.inr (ne_of_err (Pz.place_err h)).2.1⟩
  rw [hP] at h2
  have HP := Lib.hid h2
  obtain ⟨hv1, hv2, hv3⟩ := ne_of_err (Pz.find_err hf)
  by_cases hfr : Pz.free S.O cl = 8
  · rw [freeV, if_pos hfr] at h3
    have HFr := Lib.hid h3
    clear h1 h2 h3 hR hP hpre hf hfr hcl hbad
    by_cases hv : v = 10
    · have hv4 : (v == 10) = true := by rw [hv]; rfl
      have hu1 : (u == 0) = false := hu.resolve_left fun h => h hv
      clear hv hu
      go_enter Tryz.func23, Tryz.ntmps23
      go_wp2_with fail
      refine (HF.out _ _ FX.out.inv).mono ?_
      rintro e w1 ⟨rfl, hb1⟩
      have FX1 := Lib.hid (FX.out.read ((RA.held r bo β μ) _) hb1)
      clear hb1
      obtain ⟨b0, b1, b2, b3, b4, b5, b6, b7⟩ := FX1.out.c8
      go_wp2_with fail
      refine (HP.out _ _ FX1.out.inv).mono ?_
      rintro e w2 ⟨rfl, hb2⟩
      have FX2 := Lib.hid (FX1.out.read ((RA.held r bo β μ) _) hb2)
      clear hb2
      clear b0 b1 b2 b3 b4 b5 b6 b7
      obtain ⟨b0, b1, b2, b3, b4, b5, b6, b7⟩ := FX2.out.c8
      go_wp2_with fail
      refine (HFr.out _ _ FX2.out.inv).mono ?_
      rintro e w3 ⟨rfl, hb3⟩
      have FX3 := Lib.hid (FX2.out.read ((RA.held r bo β μ) _) hb3)
      clear hb3
      clear b0 b1 b2 b3 b4 b5 b6 b7
      obtain ⟨b0, b1, b2, b3, b4, b5, b6, b7⟩ := FX3.out.c8
      go_wp2_with fail
      refine (HFail.out v _).mono ?_
      rintro e wf ⟨rfl, hbf⟩
      have FXF := Lib.hid ((FX3.out.imp RA.toF).read ((RealF.held r) _) hbf)
      unfold replyV
      have fxe := FXF.out
      obtain ⟨c0, c1, c2, c3, c4, c5, c6, hf7⟩ := cells7 fxe.res
      have f0 := hf7 0
      have f1 := hf7 1
      have f2 := hf7 2
      have f3 := hf7 3
      have f4 := hf7 4
      have f5 := hf7 5
      have f6 := hf7 6
      have HG := Lib.hid fxe
      clear hf7 fxe
      go_wp2
      try simp only [Exit.inBlock, Exit.then]
      refine bodyPost_ret (results_cell_row rfl _ _ (w.heap.size + 1) _ _ _ _ rfl (row7 HG.out.res _ _ _ _ _ _ _) Tryz.underlying36 rfl Tryz.infoR) rfl ?_
      exact HG.out.done (RealF.held r) (Pz.er v) none 0 (Or.inl rfl) _ _ _ _ _ _ _
    · have hv4 : (v == 10) = false := by rw [beq_eq_false_iff_ne]; exact hv
      clear hv hu
      go_enter Tryz.func23, Tryz.ntmps23
      go_wp2_with fail
      refine (HF.out _ _ FX.out.inv).mono ?_
      rintro e w1 ⟨rfl, hb1⟩
      have FX1 := Lib.hid (FX.out.read ((RA.held r bo β μ) _) hb1)
      clear hb1
      obtain ⟨b0, b1, b2, b3, b4, b5, b6, b7⟩ := FX1.out.c8
      go_wp2_with fail
      refine (HP.out _ _ FX1.out.inv).mono ?_
      rintro e w2 ⟨rfl, hb2⟩
      have FX2 := Lib.hid (FX1.out.read ((RA.held r bo β μ) _) hb2)
      clear hb2
      clear b0 b1 b2 b3 b4 b5 b6 b7
      obtain ⟨b0, b1, b2, b3, b4, b5, b6, b7⟩ := FX2.out.c8
      go_wp2_with fail
      refine (HFr.out _ _ FX2.out.inv).mono ?_
      rintro e w3 ⟨rfl, hb3⟩
      have FX3 := Lib.hid (FX2.out.read ((RA.held r bo β μ) _) hb3)
      clear hb3
      clear b0 b1 b2 b3 b4 b5 b6 b7
      obtain ⟨b0, b1, b2, b3, b4, b5, b6, b7⟩ := FX3.out.c8
      go_wp2_with fail
      refine (HFail.out v _).mono ?_
      rintro e wf ⟨rfl, hbf⟩
      have FXF := Lib.hid ((FX3.out.imp RA.toF).read ((RealF.held r) _) hbf)
      unfold replyV
      have fxe := FXF.out
      obtain ⟨c0, c1, c2, c3, c4, c5, c6, hf7⟩ := cells7 fxe.res
      have f0 := hf7 0
      have f1 := hf7 1
      have f2 := hf7 2
      have f3 := hf7 3
      have f4 := hf7 4
      have f5 := hf7 5
      have f6 := hf7 6
      have HG := Lib.hid fxe
      clear hf7 fxe
      go_wp2
      try simp only [Exit.inBlock, Exit.then]
      refine bodyPost_ret (results_cell_row rfl _ _ (w.heap.size + 1) _ _ _ _ rfl (row7 HG.out.res _ _ _ _ _ _ _) Tryz.underlying36 rfl Tryz.infoR) rfl ?_
      exact HG.out.done (RealF.held r) (Pz.er v) none 0 (Or.inl rfl) _ _ _ _ _ _ _
  · rw [freeV, if_neg hfr] at h3
    have HFr := Lib.hid h3
    clear h1 h2 h3 hR hP hpre hf hfr hcl hbad
    by_cases hv : v = 10
    · have hv4 : (v == 10) = true := by rw [hv]; rfl
      have hu1 : (u == 0) = false := hu.resolve_left fun h => h hv
      clear hv hu
      go_enter Tryz.func23, Tryz.ntmps23
      go_wp2_with fail
      refine (HF.out _ _ FX.out.inv).mono ?_
      rintro e w1 ⟨rfl, hb1⟩
      have FX1 := Lib.hid (FX.out.read ((RA.held r bo β μ) _) hb1)
      clear hb1
      obtain ⟨b0, b1, b2, b3, b4, b5, b6, b7⟩ := FX1.out.c8
      go_wp2_with fail
      refine (HP.out _ _ FX1.out.inv).mono ?_
      rintro e w2 ⟨rfl, hb2⟩
      have FX2 := Lib.hid (FX1.out.read ((RA.held r bo β μ) _) hb2)
      clear hb2
      clear b0 b1 b2 b3 b4 b5 b6 b7
      obtain ⟨b0, b1, b2, b3, b4, b5, b6, b7⟩ := FX2.out.c8
      go_wp2_with fail
      refine (HFr.out _ _ FX2.out.inv).mono ?_
      rintro e w3 ⟨rfl, hb3⟩
      have FX3 := Lib.hid (FX2.out.read ((RA.held r bo β μ) _) hb3)
      clear hb3
      clear b0 b1 b2 b3 b4 b5 b6 b7
      obtain ⟨b0, b1, b2, b3, b4, b5, b6, b7⟩ := FX3.out.c8
      go_wp2_with fail
      refine (HFail.out v _).mono ?_
      rintro e wf ⟨rfl, hbf⟩
      have FXF := Lib.hid ((FX3.out.imp RA.toF).read ((RealF.held r) _) hbf)
      unfold replyV
      have fxe := FXF.out
      obtain ⟨c0, c1, c2, c3, c4, c5, c6, hf7⟩ := cells7 fxe.res
      have f0 := hf7 0
      have f1 := hf7 1
      have f2 := hf7 2
      have f3 := hf7 3
      have f4 := hf7 4
      have f5 := hf7 5
      have f6 := hf7 6
      have HG := Lib.hid fxe
      clear hf7 fxe
      go_wp2
      try simp only [Exit.inBlock, Exit.then]
      refine bodyPost_ret (results_cell_row rfl _ _ (w.heap.size + 1) _ _ _ _ rfl (row7 HG.out.res _ _ _ _ _ _ _) Tryz.underlying36 rfl Tryz.infoR) rfl ?_
      exact HG.out.done (RealF.held r) (Pz.er v) none 0 (Or.inl rfl) _ _ _ _ _ _ _
    · have hv4 : (v == 10) = false := by rw [beq_eq_false_iff_ne]; exact hv
      clear hv hu
      go_enter Tryz.func23, Tryz.ntmps23
      go_wp2_with fail
      refine (HF.out _ _ FX.out.inv).mono ?_
      rintro e w1 ⟨rfl, hb1⟩
      have FX1 := Lib.hid (FX.out.read ((RA.held r bo β μ) _) hb1)
      clear hb1
      obtain ⟨b0, b1, b2, b3, b4, b5, b6, b7⟩ := FX1.out.c8
      go_wp2_with fail
      refine (HP.out _ _ FX1.out.inv).mono ?_
      rintro e w2 ⟨rfl, hb2⟩
      have FX2 := Lib.hid (FX1.out.read ((RA.held r bo β μ) _) hb2)
      clear hb2
      clear b0 b1 b2 b3 b4 b5 b6 b7
      obtain ⟨b0, b1, b2, b3, b4, b5, b6, b7⟩ := FX2.out.c8
      go_wp2_with fail
      refine (HFr.out _ _ FX2.out.inv).mono ?_
      rintro e w3 ⟨rfl, hb3⟩
      have FX3 := Lib.hid (FX2.out.read ((RA.held r bo β μ) _) hb3)
      clear hb3
      clear b0 b1 b2 b3 b4 b5 b6 b7
      obtain ⟨b0, b1, b2, b3, b4, b5, b6, b7⟩ := FX3.out.c8
      go_wp2_with fail
      refine (HFail.out v _).mono ?_
      rintro e wf ⟨rfl, hbf⟩
      have FXF := Lib.hid ((FX3.out.imp RA.toF).read ((RealF.held r) _) hbf)
      unfold replyV
      have fxe := FXF.out
      obtain ⟨c0, c1, c2, c3, c4, c5, c6, hf7⟩ := cells7 fxe.res
      have f0 := hf7 0
      have f1 := hf7 1
      have f2 := hf7 2
      have f3 := hf7 3
      have f4 := hf7 4
      have f5 := hf7 5
      have f6 := hf7 6
      have HG := Lib.hid fxe
      clear hf7 fxe
      go_wp2
      try simp only [Exit.inBlock, Exit.then]
      refine bodyPost_ret (results_cell_row rfl _ _ (w.heap.size + 1) _ _ _ _ rfl (row7 HG.out.res _ _ _ _ _ _ _) Tryz.underlying36 rfl Tryz.infoR) rfl ?_
      exact HG.out.done (RealF.held r) (Pz.er v) none 0 (Or.inl rfl) _ _ _ _ _ _ _

set_option maxHeartbeats 4000000 in
set_option maxRecDepth 8192 in
theorem fopen_err3 [Inhabited XBox] (r : Nat) (S : Pz.Fil) (cl kind fd off n : Int) (p p2 data : ByteArray) (w : World) (F : Nat → Prop) (hcl : I64 cl) (hpre : OpenPre S p) (v : Int) (hf : Pz.find S p.data.toList = .error v) (hbad : v ≠ 10 ∨ ∃ g, Pz.place S p.data.toList = .error g) (hR : RealF r S w F) :
    Calls Tryz.prog 23 #[.pointer (some ⟨r, 0, none⟩), .int .i64 cl, callV kind p p2 3 fd off n data] w (Does (RealF r) (S, Pz.er v) w F) := by
  have HFail := Lib.hid ffails_any
  obtain ⟨bo, β, μ, hR⟩ := hR
  have FX := Lib.hid (Fx.start (RA.held r bo β μ S) hR #[.int .i64 kind, .string p, .string p2, .int .i64 3, .int .i64 fd, .int .i64 off, .int .i64 n, .string data])
  have h1 := fun W G (hR : RA r bo β μ S W G) => ffind_any G r bo β μ S p W hpre.hp hpre.good.ok hR
  have h2 := fun W G (hR : RA r bo β μ S W G) => fplace_any G r bo β μ S p W hpre.hp hpre.good.ok hR
  have h3 := fun W G (hR : RA r bo β μ S W G) => ffree_any G r bo β μ S cl W hcl hR
  rw [hf] at h1
  simp only [toW] at h1
  have HF := Lib.hid h1
  unfold callV
  obtain ⟨q, x, u, hP, hu⟩ : ∃ (q : Option Addr) (x : List UInt8) (u : Int), toL β (Pz.place S p.data.toList) = .tuple #[.pointer q, .string ⟨x.toArray⟩, .int .i64 u] ∧ (v ≠ 10 ∨ (u == 0) = false) := by
    rcases hbad with h | ⟨g, h⟩
    · obtain ⟨q, x, u, hP⟩ := toL_any β (Pz.place S p.data.toList)
      exact ⟨q, x, u, hP, Or.inl h⟩
    · rw [h]; exact ⟨none, [], g, rfl, Or.inr (ne_of_err (Pz.place_err h)).2.1⟩
  rw [hP] at h2
  have HP := Lib.hid h2
  obtain ⟨hv1, hv2, hv3⟩ := ne_of_err (Pz.find_err hf)
  by_cases hfr : Pz.free S.O cl = 8
  · rw [freeV, if_pos hfr] at h3
    have HFr := Lib.hid h3
    clear h1 h2 h3 hR hP hpre hf hfr hcl hbad
    by_cases hv : v = 10
    · have hv4 : (v == 10) = true := by rw [hv]; rfl
      have hu1 : (u == 0) = false := hu.resolve_left fun h => h hv
      clear hv hu
      go_enter Tryz.func23, Tryz.ntmps23
      go_wp2_with fail
      refine (HF.out _ _ FX.out.inv).mono ?_
      rintro e w1 ⟨rfl, hb1⟩
      have FX1 := Lib.hid (FX.out.read ((RA.held r bo β μ) _) hb1)
      clear hb1
      obtain ⟨b0, b1, b2, b3, b4, b5, b6, b7⟩ := FX1.out.c8
      go_wp2_with fail
      refine (HP.out _ _ FX1.out.inv).mono ?_
      rintro e w2 ⟨rfl, hb2⟩
      have FX2 := Lib.hid (FX1.out.read ((RA.held r bo β μ) _) hb2)
      clear hb2
      clear b0 b1 b2 b3 b4 b5 b6 b7
      obtain ⟨b0, b1, b2, b3, b4, b5, b6, b7⟩ := FX2.out.c8
      go_wp2_with fail
      refine (HFr.out _ _ FX2.out.inv).mono ?_
      rintro e w3 ⟨rfl, hb3⟩
      have FX3 := Lib.hid (FX2.out.read ((RA.held r bo β μ) _) hb3)
      clear hb3
      clear b0 b1 b2 b3 b4 b5 b6 b7
      obtain ⟨b0, b1, b2, b3, b4, b5, b6, b7⟩ := FX3.out.c8
      go_wp2_with fail
      refine (HFail.out v _).mono ?_
      rintro e wf ⟨rfl, hbf⟩
      have FXF := Lib.hid ((FX3.out.imp RA.toF).read ((RealF.held r) _) hbf)
      unfold replyV
      have fxe := FXF.out
      obtain ⟨c0, c1, c2, c3, c4, c5, c6, hf7⟩ := cells7 fxe.res
      have f0 := hf7 0
      have f1 := hf7 1
      have f2 := hf7 2
      have f3 := hf7 3
      have f4 := hf7 4
      have f5 := hf7 5
      have f6 := hf7 6
      have HG := Lib.hid fxe
      clear hf7 fxe
      go_wp2
      try simp only [Exit.inBlock, Exit.then]
      refine bodyPost_ret (results_cell_row rfl _ _ (w.heap.size + 1) _ _ _ _ rfl (row7 HG.out.res _ _ _ _ _ _ _) Tryz.underlying36 rfl Tryz.infoR) rfl ?_
      exact HG.out.done (RealF.held r) (Pz.er v) none 0 (Or.inl rfl) _ _ _ _ _ _ _
    · have hv4 : (v == 10) = false := by rw [beq_eq_false_iff_ne]; exact hv
      clear hv hu
      go_enter Tryz.func23, Tryz.ntmps23
      go_wp2_with fail
      refine (HF.out _ _ FX.out.inv).mono ?_
      rintro e w1 ⟨rfl, hb1⟩
      have FX1 := Lib.hid (FX.out.read ((RA.held r bo β μ) _) hb1)
      clear hb1
      obtain ⟨b0, b1, b2, b3, b4, b5, b6, b7⟩ := FX1.out.c8
      go_wp2_with fail
      refine (HP.out _ _ FX1.out.inv).mono ?_
      rintro e w2 ⟨rfl, hb2⟩
      have FX2 := Lib.hid (FX1.out.read ((RA.held r bo β μ) _) hb2)
      clear hb2
      clear b0 b1 b2 b3 b4 b5 b6 b7
      obtain ⟨b0, b1, b2, b3, b4, b5, b6, b7⟩ := FX2.out.c8
      go_wp2_with fail
      refine (HFr.out _ _ FX2.out.inv).mono ?_
      rintro e w3 ⟨rfl, hb3⟩
      have FX3 := Lib.hid (FX2.out.read ((RA.held r bo β μ) _) hb3)
      clear hb3
      clear b0 b1 b2 b3 b4 b5 b6 b7
      obtain ⟨b0, b1, b2, b3, b4, b5, b6, b7⟩ := FX3.out.c8
      go_wp2_with fail
      refine (HFail.out v _).mono ?_
      rintro e wf ⟨rfl, hbf⟩
      have FXF := Lib.hid ((FX3.out.imp RA.toF).read ((RealF.held r) _) hbf)
      unfold replyV
      have fxe := FXF.out
      obtain ⟨c0, c1, c2, c3, c4, c5, c6, hf7⟩ := cells7 fxe.res
      have f0 := hf7 0
      have f1 := hf7 1
      have f2 := hf7 2
      have f3 := hf7 3
      have f4 := hf7 4
      have f5 := hf7 5
      have f6 := hf7 6
      have HG := Lib.hid fxe
      clear hf7 fxe
      go_wp2
      try simp only [Exit.inBlock, Exit.then]
      refine bodyPost_ret (results_cell_row rfl _ _ (w.heap.size + 1) _ _ _ _ rfl (row7 HG.out.res _ _ _ _ _ _ _) Tryz.underlying36 rfl Tryz.infoR) rfl ?_
      exact HG.out.done (RealF.held r) (Pz.er v) none 0 (Or.inl rfl) _ _ _ _ _ _ _
  · rw [freeV, if_neg hfr] at h3
    have HFr := Lib.hid h3
    clear h1 h2 h3 hR hP hpre hf hfr hcl hbad
    by_cases hv : v = 10
    · have hv4 : (v == 10) = true := by rw [hv]; rfl
      have hu1 : (u == 0) = false := hu.resolve_left fun h => h hv
      clear hv hu
      go_enter Tryz.func23, Tryz.ntmps23
      go_wp2_with fail
      refine (HF.out _ _ FX.out.inv).mono ?_
      rintro e w1 ⟨rfl, hb1⟩
      have FX1 := Lib.hid (FX.out.read ((RA.held r bo β μ) _) hb1)
      clear hb1
      obtain ⟨b0, b1, b2, b3, b4, b5, b6, b7⟩ := FX1.out.c8
      go_wp2_with fail
      refine (HP.out _ _ FX1.out.inv).mono ?_
      rintro e w2 ⟨rfl, hb2⟩
      have FX2 := Lib.hid (FX1.out.read ((RA.held r bo β μ) _) hb2)
      clear hb2
      clear b0 b1 b2 b3 b4 b5 b6 b7
      obtain ⟨b0, b1, b2, b3, b4, b5, b6, b7⟩ := FX2.out.c8
      go_wp2_with fail
      refine (HFr.out _ _ FX2.out.inv).mono ?_
      rintro e w3 ⟨rfl, hb3⟩
      have FX3 := Lib.hid (FX2.out.read ((RA.held r bo β μ) _) hb3)
      clear hb3
      clear b0 b1 b2 b3 b4 b5 b6 b7
      obtain ⟨b0, b1, b2, b3, b4, b5, b6, b7⟩ := FX3.out.c8
      go_wp2_with fail
      refine (HFail.out v _).mono ?_
      rintro e wf ⟨rfl, hbf⟩
      have FXF := Lib.hid ((FX3.out.imp RA.toF).read ((RealF.held r) _) hbf)
      unfold replyV
      have fxe := FXF.out
      obtain ⟨c0, c1, c2, c3, c4, c5, c6, hf7⟩ := cells7 fxe.res
      have f0 := hf7 0
      have f1 := hf7 1
      have f2 := hf7 2
      have f3 := hf7 3
      have f4 := hf7 4
      have f5 := hf7 5
      have f6 := hf7 6
      have HG := Lib.hid fxe
      clear hf7 fxe
      go_wp2
      try simp only [Exit.inBlock, Exit.then]
      refine bodyPost_ret (results_cell_row rfl _ _ (w.heap.size + 1) _ _ _ _ rfl (row7 HG.out.res _ _ _ _ _ _ _) Tryz.underlying36 rfl Tryz.infoR) rfl ?_
      exact HG.out.done (RealF.held r) (Pz.er v) none 0 (Or.inl rfl) _ _ _ _ _ _ _
    · have hv4 : (v == 10) = false := by rw [beq_eq_false_iff_ne]; exact hv
      clear hv hu
      go_enter Tryz.func23, Tryz.ntmps23
      go_wp2_with fail
      refine (HF.out _ _ FX.out.inv).mono ?_
      rintro e w1 ⟨rfl, hb1⟩
      have FX1 := Lib.hid (FX.out.read ((RA.held r bo β μ) _) hb1)
      clear hb1
      obtain ⟨b0, b1, b2, b3, b4, b5, b6, b7⟩ := FX1.out.c8
      go_wp2_with fail
      refine (HP.out _ _ FX1.out.inv).mono ?_
      rintro e w2 ⟨rfl, hb2⟩
      have FX2 := Lib.hid (FX1.out.read ((RA.held r bo β μ) _) hb2)
      clear hb2
      clear b0 b1 b2 b3 b4 b5 b6 b7
      obtain ⟨b0, b1, b2, b3, b4, b5, b6, b7⟩ := FX2.out.c8
      go_wp2_with fail
      refine (HFr.out _ _ FX2.out.inv).mono ?_
      rintro e w3 ⟨rfl, hb3⟩
      have FX3 := Lib.hid (FX2.out.read ((RA.held r bo β μ) _) hb3)
      clear hb3
      clear b0 b1 b2 b3 b4 b5 b6 b7
      obtain ⟨b0, b1, b2, b3, b4, b5, b6, b7⟩ := FX3.out.c8
      go_wp2_with fail
      refine (HFail.out v _).mono ?_
      rintro e wf ⟨rfl, hbf⟩
      have FXF := Lib.hid ((FX3.out.imp RA.toF).read ((RealF.held r) _) hbf)
      unfold replyV
      have fxe := FXF.out
      obtain ⟨c0, c1, c2, c3, c4, c5, c6, hf7⟩ := cells7 fxe.res
      have f0 := hf7 0
      have f1 := hf7 1
      have f2 := hf7 2
      have f3 := hf7 3
      have f4 := hf7 4
      have f5 := hf7 5
      have f6 := hf7 6
      have HG := Lib.hid fxe
      clear hf7 fxe
      go_wp2
      try simp only [Exit.inBlock, Exit.then]
      refine bodyPost_ret (results_cell_row rfl _ _ (w.heap.size + 1) _ _ _ _ rfl (row7 HG.out.res _ _ _ _ _ _ _) Tryz.underlying36 rfl Tryz.infoR) rfl ?_
      exact HG.out.done (RealF.held r) (Pz.er v) none 0 (Or.inl rfl) _ _ _ _ _ _ _

set_option maxHeartbeats 4000000 in
set_option maxRecDepth 8192 in
theorem fopen_new1 [Inhabited XBox] (r : Nat) (S : Pz.Fil) (cl kind fd off n : Int) (p p2 data : ByteArray) (w : World) (F : Nat → Prop) (hcl : I64 cl) (hpre : OpenPre S p) (hf : Pz.find S p.data.toList = .error 10) (d : Nat) (x : List UInt8) (hpl : Pz.place S p.data.toList = .ok (d, x)) (R : Pz.Fil × Pz.Rep) (hres : R = if Pz.free S.O cl = 8 then (S, Pz.er 17) else ({ N := S.N ++ [⟨false, [], 1⟩], E := S.E ++ [⟨d, x, S.N.length⟩], O := S.O ++ [⟨cl, Pz.free S.O cl, S.N.length⟩] }, Pz.fdR (Pz.free S.O cl))) (hR : RealF r S w F) :
    Calls Tryz.prog 23 #[.pointer (some ⟨r, 0, none⟩), .int .i64 cl, callV kind p p2 1 fd off n data] w (Does (RealF r) R w F) := by
  have HFail := Lib.hid ffails_any
  obtain ⟨bo, β, μ, hR⟩ := hR
  have FX := Lib.hid (Fx.start (RA.held r bo β μ S) hR #[.int .i64 kind, .string p, .string p2, .int .i64 1, .int .i64 fd, .int .i64 off, .int .i64 n, .string data])
  have h1 := fun W G (hR : RA r bo β μ S W G) => ffind_any G r bo β μ S p W hpre.hp hpre.good.ok hR
  have h2 := fun W G (hR : RA r bo β μ S W G) => fplace_any G r bo β μ S p W hpre.hp hpre.good.ok hR
  have h3 := fun W G (hR : RA r bo β μ S W G) => ffree_any G r bo β μ S cl W hcl hR
  rw [hf] at h1
  simp only [toW] at h1
  have HF := Lib.hid h1
  unfold callV
  have hlk : Pz.look S.E d x < 0 := Pz.look_of_new hf hpl
  rw [← Pz.take_absent hlk] at hres
  rw [hpl] at h2
  simp only [toL] at h2
  have HP := Lib.hid h2
  by_cases hfr : Pz.free S.O cl = 8
  · rw [freeV, if_pos hfr] at h3
    have HFr := Lib.hid h3
    have HResF : Hid (R = (S, Pz.er 17)) := Lib.hid (by rw [hres, if_pos hfr])
    clear h1 h2 h3 hR hpl hpre hf hfr hcl hlk hres
    go_enter Tryz.func23, Tryz.ntmps23
    go_wp2_with fail
    refine (HF.out _ _ FX.out.inv).mono ?_
    rintro e w1 ⟨rfl, hb1⟩
    have FX1 := Lib.hid (FX.out.read ((RA.held r bo β μ) _) hb1)
    clear hb1
    obtain ⟨b0, b1, b2, b3, b4, b5, b6, b7⟩ := FX1.out.c8
    go_wp2_with fail
    refine (HP.out _ _ FX1.out.inv).mono ?_
    rintro e w2 ⟨rfl, hb2⟩
    have FX2 := Lib.hid (FX1.out.read ((RA.held r bo β μ) _) hb2)
    clear hb2
    clear b0 b1 b2 b3 b4 b5 b6 b7
    obtain ⟨b0, b1, b2, b3, b4, b5, b6, b7⟩ := FX2.out.c8
    go_wp2_with fail
    refine (HFr.out _ _ FX2.out.inv).mono ?_
    rintro e w3 ⟨rfl, hb3⟩
    have FX3 := Lib.hid (FX2.out.read ((RA.held r bo β μ) _) hb3)
    clear hb3
    clear b0 b1 b2 b3 b4 b5 b6 b7
    obtain ⟨b0, b1, b2, b3, b4, b5, b6, b7⟩ := FX3.out.c8
    go_wp2_with fail
    refine (HFail.out 17 _).mono ?_
    rintro e wf ⟨rfl, hbf⟩
    have FXF := Lib.hid ((FX3.out.imp RA.toF).read ((RealF.held r) _) hbf)
    unfold replyV
    have fxe := FXF.out
    obtain ⟨c0, c1, c2, c3, c4, c5, c6, hf7⟩ := cells7 fxe.res
    have f0 := hf7 0
    have f1 := hf7 1
    have f2 := hf7 2
    have f3 := hf7 3
    have f4 := hf7 4
    have f5 := hf7 5
    have f6 := hf7 6
    have HG := Lib.hid fxe
    clear hf7 fxe
    go_wp2
    try simp only [Exit.inBlock, Exit.then]
    refine bodyPost_ret (results_cell_row rfl _ _ (w.heap.size + 1) _ _ _ _ rfl (row7 HG.out.res _ _ _ _ _ _ _) Tryz.underlying36 rfl Tryz.infoR) rfl ?_
    rw [HResF.out]
    exact HG.out.done (RealF.held r) (Pz.er 17) none 0 (Or.inl rfl) _ _ _ _ _ _ _
  rw [freeV, if_neg hfr] at h3
  obtain ⟨k, hk⟩ : ∃ k, k = Pz.free S.O cl := ⟨_, rfl⟩
  have hkle := Pz.free_le (O := S.O) (cl := cl)
  have HNo := Lib.hid (Pz.free_no hk.symm (by omega))
  have hfd : I64 k := i64_small (by omega) (by omega)
  have HFd := Lib.hid hfd
  have HCl := Lib.hid hcl
  have HKeyO := Lib.hid (key_read hcl hfd)
  have HOl : Hid (S.O.length < maxLen) := Lib.hid (by have := hpre.good.o; unfold maxLen; omega)
  have HResF : Hid (R = ({ N := S.N ++ [⟨false, [], 1⟩], E := Pz.take S.E d x ++ [⟨d, x, S.N.length⟩], O := S.O ++ [⟨cl, k, S.N.length⟩] }, Pz.fdR k)) := Lib.hid (by rw [hres, if_neg hfr, hk])
  rw [← hk] at h3
  have HFr := Lib.hid h3
  obtain ⟨hdl, hdd⟩ := Pz.place_lt hpre.good.ok hpl
  have HNc2 := Lib.hid fun W G (h : RA r bo β μ S W G) => (RealAt.nc h hdl).2.2.1
  rw [hdd, if_pos rfl] at HNc2
  have HKey := Lib.hid (key_of (Pz.place_name hpl))
  have HNew := Lib.hid fun W W' G gm gb (h : RA r bo β μ S W G) => RealAt.newNode (w' := W') (gm := gm) (gb := gb) (y := ⟨false, [], 1⟩) h hpre.good.ok
  have hdd1 : Pz.isDir (S.N ++ [⟨false, [], 1⟩]) d = true := by
    unfold Pz.isDir at hdd ⊢
    rw [List.getElem?_append_left hdl]; exact hdd
  have HMap := Lib.hid fun W G gb gm (h : RA r bo (upd β S.N.length gb) (upd μ S.N.length gm) { S with N := S.N ++ [⟨false, [], 1⟩] } W G) => RealAt.dirs h d hdd1
  have HPut := Lib.hid fun W W' G D n c gb gm (h : RA r bo (upd β S.N.length gb) (upd μ S.N.length gm) { S with N := S.N ++ [⟨false, [], 1⟩] } W G) => RealAt.putName (w' := W') (x := x) (D := D) (n := n) (c := c) (m := S.N.length) h hpre.good.once hdd1
  have hud : ∀ gm, upd μ S.N.length gm d = μ d := fun gm => if_neg (by omega)
  have hub : ∀ gb, upd β S.N.length gb S.N.length = gb := fun gb => if_pos rfl
  have HUd := Lib.hid hud
  have HUb := Lib.hid hub
  have HCnt : Hid (Pz.count S.E d < maxLen) := Lib.hid (by
    have h5 := List.length_filter_le (fun e : Pz.En => e.dir == d) S.E
    have h7 := hpre.good.e
    unfold maxLen Pz.count
    omega)
  clear h1 h2 h3 hR hpl hpre hf hfr hcl hlk hres hk hkle hfd hdl hdd hdd1 hud hub
  go_enter Tryz.func23, Tryz.ntmps23
  go_wp2_with fail
  refine (HF.out _ _ FX.out.inv).mono ?_
  rintro e w1 ⟨rfl, hb1⟩
  have FX1 := Lib.hid (FX.out.read ((RA.held r bo β μ) _) hb1)
  clear hb1
  obtain ⟨b0, b1, b2, b3, b4, b5, b6, b7⟩ := FX1.out.c8
  go_wp2_with fail
  refine (HP.out _ _ FX1.out.inv).mono ?_
  rintro e w2 ⟨rfl, hb2⟩
  have FX2 := Lib.hid (FX1.out.read ((RA.held r bo β μ) _) hb2)
  clear hb2
  clear b0 b1 b2 b3 b4 b5 b6 b7
  obtain ⟨b0, b1, b2, b3, b4, b5, b6, b7⟩ := FX2.out.c8
  go_wp2_with fail
  refine (HFr.out _ _ FX2.out.inv).mono ?_
  rintro e w3 ⟨rfl, hb3⟩
  have FX3 := Lib.hid (FX2.out.read ((RA.held r bo β μ) _) hb3)
  clear hb3
  clear b0 b1 b2 b3 b4 b5 b6 b7
  obtain ⟨b0, b1, b2, b3, b4, b5, b6, b7⟩ := FX3.out.c8
  clear b0 b1 b2 b3 b4 b5 b6 b7
  have n2 := HNc2.out _ _ FX3.out.inv
  have hdlt := cell_lt n2
  have HX4 := Lib.hid (HNew.out w3 (w3.alloc (.cells #[.string ⟨#[]⟩, .int .i64 1, .map none] 105)) _ 0 w3.heap.size FX3.out.inv ((Below.refl _ _).alloc (Nat.le_refl _) _) (Nat.le_refl _) (heap_alloc_new _ _) (fun e => by cases e))
  have FX4 := Lib.hid (FX3.out.write (RA.held r bo _ _ _) HX4.out.1 HX4.out.2)
  obtain ⟨D4, hown4, hme4⟩ := HMap.out _ _ _ _ FX4.out.inv
  have HOwn4 := Lib.hid hown4
  have HMe4 := Lib.hid hme4
  have hown4b := hown4
  rw [HUd.out] at hown4b
  have HOwn4b := Lib.hid hown4b
  clear hown4 hme4 hown4b
  go_wp2_with (first | (at_mapUpdate; refine wpList_mapUpdate_in _ rfl _ _ _ 103 rfl 9 62 Tryz.strLaw Tryz.underlying103 _ _ _ D4 rfl HOwn4b.out HCnt.out _ _ _ rfl rfl HKey.out (.lit (.int .i64 w3.heap.size)) [] rfl ?_; intro w5 hown5 hturn5; have HX5 := Lib.hid (HPut.out _ _ _ _ _ _ _ _ FX4.out.inv HOwn4.out HMe4.out (by rw [HUd.out, HUb.out]; exact hown5) (by rw [HUd.out]; exact hturn5)); obtain ⟨rc0, rc1⟩ := RealAt.rc HX5.out.1; obtain ⟨DO, hownO, hmO⟩ := RealAt.opn HX5.out.1; have HOwnO := Lib.hid hownO; have HMO := Lib.hid hmO; clear hown5 hturn5 hownO hmO) | (at_mapUpdate; refine wpList_mapUpdate_in _ rfl _ _ _ 63 rfl 67 62 Tryz.keyLaw Tryz.underlying63 _ _ _ DO rfl HOwnO.out HOl.out _ _ _ rfl rfl HKeyO.out (.lit (.int .i64 w3.heap.size)) [] rfl ?_; intro w6 hown6 hturn6; have HX6 := Lib.hid (RealAt.addOpen (m := S.N.length) HX5.out.1 HOwnO.out HMO.out (by rw [HUb.out]; exact hown6) hturn6 HCl.out HFd.out HNo.out); clear hown6 hturn6; have FX5 := Lib.hid (FX4.out.put (RA.held r bo _ _ _) HX5.out.1 HX5.out.2); have FX6 := Lib.hid ((FX5.out.put (RA.held r bo _ _ _) HX6.out.1 HX6.out.2).imp RA.toF); obtain ⟨c0, c1, c2, c3, c4, c5, c6, hf7⟩ := cells7 FX6.out.res; have f0 := hf7 0; have f1 := hf7 1; have f2 := hf7 2; have f3 := hf7 3; have f4 := hf7 4; have f5 := hf7 5; have f6 := hf7 6; clear hf7))
  try simp only [Exit.inBlock, Exit.then]
  refine bodyPost_ret (results_cell_row rfl _ _ (w.heap.size + 1) _ _ _ _ rfl (row7 FX6.out.res _ _ _ _ _ _ _) Tryz.underlying36 rfl Tryz.infoR) rfl ?_
  rw [HResF.out]
  exact FX6.out.done (RealF.held r) (Pz.fdR k) none 0 (Or.inl rfl) _ _ _ _ _ _ _

set_option maxHeartbeats 4000000 in
set_option maxRecDepth 8192 in
theorem fopen_new3 [Inhabited XBox] (r : Nat) (S : Pz.Fil) (cl kind fd off n : Int) (p p2 data : ByteArray) (w : World) (F : Nat → Prop) (hcl : I64 cl) (hpre : OpenPre S p) (hf : Pz.find S p.data.toList = .error 10) (d : Nat) (x : List UInt8) (hpl : Pz.place S p.data.toList = .ok (d, x)) (R : Pz.Fil × Pz.Rep) (hres : R = if Pz.free S.O cl = 8 then (S, Pz.er 17) else ({ N := S.N ++ [⟨false, [], 1⟩], E := S.E ++ [⟨d, x, S.N.length⟩], O := S.O ++ [⟨cl, Pz.free S.O cl, S.N.length⟩] }, Pz.fdR (Pz.free S.O cl))) (hR : RealF r S w F) :
    Calls Tryz.prog 23 #[.pointer (some ⟨r, 0, none⟩), .int .i64 cl, callV kind p p2 3 fd off n data] w (Does (RealF r) R w F) := by
  have HFail := Lib.hid ffails_any
  obtain ⟨bo, β, μ, hR⟩ := hR
  have FX := Lib.hid (Fx.start (RA.held r bo β μ S) hR #[.int .i64 kind, .string p, .string p2, .int .i64 3, .int .i64 fd, .int .i64 off, .int .i64 n, .string data])
  have h1 := fun W G (hR : RA r bo β μ S W G) => ffind_any G r bo β μ S p W hpre.hp hpre.good.ok hR
  have h2 := fun W G (hR : RA r bo β μ S W G) => fplace_any G r bo β μ S p W hpre.hp hpre.good.ok hR
  have h3 := fun W G (hR : RA r bo β μ S W G) => ffree_any G r bo β μ S cl W hcl hR
  rw [hf] at h1
  simp only [toW] at h1
  have HF := Lib.hid h1
  unfold callV
  have hlk : Pz.look S.E d x < 0 := Pz.look_of_new hf hpl
  rw [← Pz.take_absent hlk] at hres
  rw [hpl] at h2
  simp only [toL] at h2
  have HP := Lib.hid h2
  by_cases hfr : Pz.free S.O cl = 8
  · rw [freeV, if_pos hfr] at h3
    have HFr := Lib.hid h3
    have HResF : Hid (R = (S, Pz.er 17)) := Lib.hid (by rw [hres, if_pos hfr])
    clear h1 h2 h3 hR hpl hpre hf hfr hcl hlk hres
    go_enter Tryz.func23, Tryz.ntmps23
    go_wp2_with fail
    refine (HF.out _ _ FX.out.inv).mono ?_
    rintro e w1 ⟨rfl, hb1⟩
    have FX1 := Lib.hid (FX.out.read ((RA.held r bo β μ) _) hb1)
    clear hb1
    obtain ⟨b0, b1, b2, b3, b4, b5, b6, b7⟩ := FX1.out.c8
    go_wp2_with fail
    refine (HP.out _ _ FX1.out.inv).mono ?_
    rintro e w2 ⟨rfl, hb2⟩
    have FX2 := Lib.hid (FX1.out.read ((RA.held r bo β μ) _) hb2)
    clear hb2
    clear b0 b1 b2 b3 b4 b5 b6 b7
    obtain ⟨b0, b1, b2, b3, b4, b5, b6, b7⟩ := FX2.out.c8
    go_wp2_with fail
    refine (HFr.out _ _ FX2.out.inv).mono ?_
    rintro e w3 ⟨rfl, hb3⟩
    have FX3 := Lib.hid (FX2.out.read ((RA.held r bo β μ) _) hb3)
    clear hb3
    clear b0 b1 b2 b3 b4 b5 b6 b7
    obtain ⟨b0, b1, b2, b3, b4, b5, b6, b7⟩ := FX3.out.c8
    go_wp2_with fail
    refine (HFail.out 17 _).mono ?_
    rintro e wf ⟨rfl, hbf⟩
    have FXF := Lib.hid ((FX3.out.imp RA.toF).read ((RealF.held r) _) hbf)
    unfold replyV
    have fxe := FXF.out
    obtain ⟨c0, c1, c2, c3, c4, c5, c6, hf7⟩ := cells7 fxe.res
    have f0 := hf7 0
    have f1 := hf7 1
    have f2 := hf7 2
    have f3 := hf7 3
    have f4 := hf7 4
    have f5 := hf7 5
    have f6 := hf7 6
    have HG := Lib.hid fxe
    clear hf7 fxe
    go_wp2
    try simp only [Exit.inBlock, Exit.then]
    refine bodyPost_ret (results_cell_row rfl _ _ (w.heap.size + 1) _ _ _ _ rfl (row7 HG.out.res _ _ _ _ _ _ _) Tryz.underlying36 rfl Tryz.infoR) rfl ?_
    rw [HResF.out]
    exact HG.out.done (RealF.held r) (Pz.er 17) none 0 (Or.inl rfl) _ _ _ _ _ _ _
  rw [freeV, if_neg hfr] at h3
  obtain ⟨k, hk⟩ : ∃ k, k = Pz.free S.O cl := ⟨_, rfl⟩
  have hkle := Pz.free_le (O := S.O) (cl := cl)
  have HNo := Lib.hid (Pz.free_no hk.symm (by omega))
  have hfd : I64 k := i64_small (by omega) (by omega)
  have HFd := Lib.hid hfd
  have HCl := Lib.hid hcl
  have HKeyO := Lib.hid (key_read hcl hfd)
  have HOl : Hid (S.O.length < maxLen) := Lib.hid (by have := hpre.good.o; unfold maxLen; omega)
  have HResF : Hid (R = ({ N := S.N ++ [⟨false, [], 1⟩], E := Pz.take S.E d x ++ [⟨d, x, S.N.length⟩], O := S.O ++ [⟨cl, k, S.N.length⟩] }, Pz.fdR k)) := Lib.hid (by rw [hres, if_neg hfr, hk])
  rw [← hk] at h3
  have HFr := Lib.hid h3
  obtain ⟨hdl, hdd⟩ := Pz.place_lt hpre.good.ok hpl
  have HNc2 := Lib.hid fun W G (h : RA r bo β μ S W G) => (RealAt.nc h hdl).2.2.1
  rw [hdd, if_pos rfl] at HNc2
  have HKey := Lib.hid (key_of (Pz.place_name hpl))
  have HNew := Lib.hid fun W W' G gm gb (h : RA r bo β μ S W G) => RealAt.newNode (w' := W') (gm := gm) (gb := gb) (y := ⟨false, [], 1⟩) h hpre.good.ok
  have hdd1 : Pz.isDir (S.N ++ [⟨false, [], 1⟩]) d = true := by
    unfold Pz.isDir at hdd ⊢
    rw [List.getElem?_append_left hdl]; exact hdd
  have HMap := Lib.hid fun W G gb gm (h : RA r bo (upd β S.N.length gb) (upd μ S.N.length gm) { S with N := S.N ++ [⟨false, [], 1⟩] } W G) => RealAt.dirs h d hdd1
  have HPut := Lib.hid fun W W' G D n c gb gm (h : RA r bo (upd β S.N.length gb) (upd μ S.N.length gm) { S with N := S.N ++ [⟨false, [], 1⟩] } W G) => RealAt.putName (w' := W') (x := x) (D := D) (n := n) (c := c) (m := S.N.length) h hpre.good.once hdd1
  have hud : ∀ gm, upd μ S.N.length gm d = μ d := fun gm => if_neg (by omega)
  have hub : ∀ gb, upd β S.N.length gb S.N.length = gb := fun gb => if_pos rfl
  have HUd := Lib.hid hud
  have HUb := Lib.hid hub
  have HCnt : Hid (Pz.count S.E d < maxLen) := Lib.hid (by
    have h5 := List.length_filter_le (fun e : Pz.En => e.dir == d) S.E
    have h7 := hpre.good.e
    unfold maxLen Pz.count
    omega)
  clear h1 h2 h3 hR hpl hpre hf hfr hcl hlk hres hk hkle hfd hdl hdd hdd1 hud hub
  go_enter Tryz.func23, Tryz.ntmps23
  go_wp2_with fail
  refine (HF.out _ _ FX.out.inv).mono ?_
  rintro e w1 ⟨rfl, hb1⟩
  have FX1 := Lib.hid (FX.out.read ((RA.held r bo β μ) _) hb1)
  clear hb1
  obtain ⟨b0, b1, b2, b3, b4, b5, b6, b7⟩ := FX1.out.c8
  go_wp2_with fail
  refine (HP.out _ _ FX1.out.inv).mono ?_
  rintro e w2 ⟨rfl, hb2⟩
  have FX2 := Lib.hid (FX1.out.read ((RA.held r bo β μ) _) hb2)
  clear hb2
  clear b0 b1 b2 b3 b4 b5 b6 b7
  obtain ⟨b0, b1, b2, b3, b4, b5, b6, b7⟩ := FX2.out.c8
  go_wp2_with fail
  refine (HFr.out _ _ FX2.out.inv).mono ?_
  rintro e w3 ⟨rfl, hb3⟩
  have FX3 := Lib.hid (FX2.out.read ((RA.held r bo β μ) _) hb3)
  clear hb3
  clear b0 b1 b2 b3 b4 b5 b6 b7
  obtain ⟨b0, b1, b2, b3, b4, b5, b6, b7⟩ := FX3.out.c8
  clear b0 b1 b2 b3 b4 b5 b6 b7
  have n2 := HNc2.out _ _ FX3.out.inv
  have hdlt := cell_lt n2
  have HX4 := Lib.hid (HNew.out w3 (w3.alloc (.cells #[.string ⟨#[]⟩, .int .i64 1, .map none] 105)) _ 0 w3.heap.size FX3.out.inv ((Below.refl _ _).alloc (Nat.le_refl _) _) (Nat.le_refl _) (heap_alloc_new _ _) (fun e => by cases e))
  have FX4 := Lib.hid (FX3.out.write (RA.held r bo _ _ _) HX4.out.1 HX4.out.2)
  obtain ⟨D4, hown4, hme4⟩ := HMap.out _ _ _ _ FX4.out.inv
  have HOwn4 := Lib.hid hown4
  have HMe4 := Lib.hid hme4
  have hown4b := hown4
  rw [HUd.out] at hown4b
  have HOwn4b := Lib.hid hown4b
  clear hown4 hme4 hown4b
  go_wp2_with (first | (at_mapUpdate; refine wpList_mapUpdate_in _ rfl _ _ _ 103 rfl 9 62 Tryz.strLaw Tryz.underlying103 _ _ _ D4 rfl HOwn4b.out HCnt.out _ _ _ rfl rfl HKey.out (.lit (.int .i64 w3.heap.size)) [] rfl ?_; intro w5 hown5 hturn5; have HX5 := Lib.hid (HPut.out _ _ _ _ _ _ _ _ FX4.out.inv HOwn4.out HMe4.out (by rw [HUd.out, HUb.out]; exact hown5) (by rw [HUd.out]; exact hturn5)); obtain ⟨rc0, rc1⟩ := RealAt.rc HX5.out.1; obtain ⟨DO, hownO, hmO⟩ := RealAt.opn HX5.out.1; have HOwnO := Lib.hid hownO; have HMO := Lib.hid hmO; clear hown5 hturn5 hownO hmO) | (at_mapUpdate; refine wpList_mapUpdate_in _ rfl _ _ _ 63 rfl 67 62 Tryz.keyLaw Tryz.underlying63 _ _ _ DO rfl HOwnO.out HOl.out _ _ _ rfl rfl HKeyO.out (.lit (.int .i64 w3.heap.size)) [] rfl ?_; intro w6 hown6 hturn6; have HX6 := Lib.hid (RealAt.addOpen (m := S.N.length) HX5.out.1 HOwnO.out HMO.out (by rw [HUb.out]; exact hown6) hturn6 HCl.out HFd.out HNo.out); clear hown6 hturn6; have FX5 := Lib.hid (FX4.out.put (RA.held r bo _ _ _) HX5.out.1 HX5.out.2); have FX6 := Lib.hid ((FX5.out.put (RA.held r bo _ _ _) HX6.out.1 HX6.out.2).imp RA.toF); obtain ⟨c0, c1, c2, c3, c4, c5, c6, hf7⟩ := cells7 FX6.out.res; have f0 := hf7 0; have f1 := hf7 1; have f2 := hf7 2; have f3 := hf7 3; have f4 := hf7 4; have f5 := hf7 5; have f6 := hf7 6; clear hf7))
  try simp only [Exit.inBlock, Exit.then]
  refine bodyPost_ret (results_cell_row rfl _ _ (w.heap.size + 1) _ _ _ _ rfl (row7 FX6.out.res _ _ _ _ _ _ _) Tryz.underlying36 rfl Tryz.infoR) rfl ?_
  rw [HResF.out]
  exact FX6.out.done (RealF.held r) (Pz.fdR k) none 0 (Or.inl rfl) _ _ _ _ _ _ _

theorem fopen_any [Inhabited XBox] (r : Nat) (S : Pz.Fil) (cl kind flags fd off n : Int) (p p2 data : ByteArray) (w : World) (F : Nat → Prop) (hcl : I64 cl) (hp : p.size ≤ 100000) (hG : Pz.Good 1000 S) (hR : RealF r S w F) :
    Calls Tryz.prog 23 #[.pointer (some ⟨r, 0, none⟩), .int .i64 cl, callV kind p p2 flags fd off n data] w (Does (RealF r) (Pz.opens S cl flags p.data.toList) w F) := by
  by_cases hfl : flags = 0 ∨ flags = 1 ∨ flags = 3
  · have hpre : OpenPre S p := ⟨hp, hG⟩
    rw [Pz.opens, if_neg (fun h => h hfl)]
    cases hf : Pz.find S p.data.toList with
    | ok m =>
      rcases hfl with rfl | rfl | rfl
      · exact fopen_ok0 r S cl kind fd off n p p2 data w F hcl hpre m hf _ rfl hR
      · exact fopen_ok1 r S cl kind fd off n p p2 data w F hcl hpre m hf _ rfl hR
      · exact fopen_ok3 r S cl kind fd off n p p2 data w F hcl hpre m hf hR
    | error v =>
      by_cases hv : v = 10
      · subst hv
        cases hpl : Pz.place S p.data.toList with
        | error g =>
          rcases hfl with rfl | rfl | rfl
          · exact fopen_err0 r S cl kind fd off n p p2 data w F hcl hpre 10 hf hR
          · exact fopen_err1 r S cl kind fd off n p p2 data w F hcl hpre 10 hf (Or.inr ⟨g, hpl⟩) hR
          · exact fopen_err3 r S cl kind fd off n p p2 data w F hcl hpre 10 hf (Or.inr ⟨g, hpl⟩) hR
        | ok dx =>
          obtain ⟨d, x⟩ := dx
          rcases hfl with rfl | rfl | rfl
          · exact fopen_err0 r S cl kind fd off n p p2 data w F hcl hpre 10 hf hR
          · exact fopen_new1 r S cl kind fd off n p p2 data w F hcl hpre hf d x hpl _ rfl hR
          · exact fopen_new3 r S cl kind fd off n p p2 data w F hcl hpre hf d x hpl _ rfl hR
      · simp only [hv, false_and, if_false]
        rcases hfl with rfl | rfl | rfl
        · exact fopen_err0 r S cl kind fd off n p p2 data w F hcl hpre v hf hR
        · exact fopen_err1 r S cl kind fd off n p p2 data w F hcl hpre v hf (Or.inl hv) hR
        · exact fopen_err3 r S cl kind fd off n p p2 data w F hcl hpre v hf (Or.inl hv) hR
  · rw [Pz.opens, if_pos hfl]
    exact fopen_bad r S cl kind flags fd off n p p2 data w F hfl hR

end Go.Proofs.YtbpejjmfdhkfhaaGreatDoor
